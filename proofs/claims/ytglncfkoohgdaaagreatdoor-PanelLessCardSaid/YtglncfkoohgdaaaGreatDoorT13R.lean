import Derived.Test.YtglncfkoohgdaaaGreatDoorT5R
import Derived.Lib.SliceRun
import Derived.Laws.IdiomCopy
import Derived.BigQuiet
set_option maxRecDepth 100000
set_option maxHeartbeats 8000000
namespace Go.Proofs.YtglncfkoohgdaaaGreatDoor
open Go.RowKit Go.Shelf
open Go.Lib (decDigits itoa nDigits)
open Go.Lib (hid)
def iw (L:List QP):Nat→List QP
 | 0=>[]
 | t+1=>if 0<t∧pt L t=pt L (t-1) then iw L t else iw L t ++ [pt L t]
theorem Kt (L:List QP):∀ t,(iw L t).length≤t
 | 0=>Nat.le_refl _
 | t+1=>by
  have:=Kt L t
  unfold iw
  split
  ·omega
  ·rw [List.length_append,List.length_singleton];omega
theorem oG {L:List QP} {t:Nat} (h0:0<t) (h:pt L t=pt L (t-1)):iw L (t+1)=iw L t:=by
 show (if 0<t∧pt L t=pt L (t-1) then _ else _)=_
 rw [if_pos ⟨h0,h⟩]
theorem rD {L:List QP} {t:Nat} (h:t=0∨pt L t≠pt L (t-1)):iw L (t+1)=iw L t ++ [pt L t]:=by
 show (if 0<t∧pt L t=pt L (t-1) then _ else _)=_
 rw [if_neg]
 rintro ⟨h0,h1⟩
 rcases h with h | h
 ·omega
 ·exact h h1
theorem sM {L:List QP}:∀ k,k≤L.length→(∀ j,0<j→j<k→pt L j≠pt L (j-1))→iw L k=L.take k
 | 0,_,_=>by simp [iw]
 | k+1,hk,h=>by
  have ih:=sM k (by omega) (fun j h0 h1=>h j h0 (by omega))
  rw [rD (by rcases Nat.eq_zero_or_pos k with e | e;exact .inl e;exact .inr (h k e (by omega))),ih,List.take_succ_eq_append_getElem (by omega),dh (by omega)]
structure oH (L B:List QP) (k t:Nat):Prop where
 len:B.length=L.length
 t0:0<t
 tl:t≤L.length
 kt:k+1≤t
 kl:k=(iw L t).length
 front:∀ i,i<k→pt B i=pt (iw L t) i
 back:∀ i,t-1≤i→i<L.length→pt B i=pt L i
theorem Nb {B:List QP} {k i:Nat} {p:QP} (hi:i<B.length):pt (B.set k p) i=if k=i then p else pt B i:=by
 rw [dh (by simpa using hi),List.getElem_set,dh hi]
theorem nz {A:List QP} {p:QP} {i:Nat} (h:i<A.length):pt (A ++ [p]) i=pt A i:=by rw [dh (by simp;omega),dh h,List.getElem_append_left h]
theorem rE {A:List QP} {p:QP}:pt (A ++ [p]) A.length=p:=by rw [dh (by simp),List.getElem_append_right (Nat.le_refl _)];simp
theorem oH.skip {L B:List QP} {k t:Nat} (h:oH L B k t) (ht:t<L.length) (e:pt L t=pt L (t-1)):oH L B k (t+1) where
 len:=h.len
 t0:=Nat.succ_pos _
 tl:=ht
 kt:=by have:=h.kt;omega
 kl:=by rw [oG h.t0 e];exact h.kl
 front:=fun i hi=>by rw [oG h.t0 e];exact h.front i hi
 back:=fun i h1 h2=>h.back i (by omega) h2
theorem oH.keep {L B:List QP} {k t:Nat} (h:oH L B k t) (ht:t<L.length) (e:pt L t≠pt L (t-1)):oH L (B.set k (pt L t)) (k+1) (t+1) where
 len:=by rw [List.length_set];exact h.len
 t0:=Nat.succ_pos _
 tl:=ht
 kt:=by have:=h.kt;omega
 kl:=by rw [rD (.inr e),List.length_append,List.length_singleton,←h.kl]
 front:=fun i hi=>by
  have hk:=h.kt
  have hl:=h.len
  rw [Nb (by omega),rD (.inr e)]
  by_cases h1:k=i
  ·rw [if_pos h1,←h1,h.kl,rE]
  ·rw [if_neg h1,h.front i (by omega),nz (by rw [←h.kl];omega)]
 back:=fun i h1 h2=>by
  have hk:=h.kt
  have hl:=h.len
  rw [Nb (by omega),if_neg (by omega)]
  exact h.back i (by omega) h2
theorem oH.start {L:List QP} {k:Nat} (h0:0<k) (hk:k<L.length) (h:∀ j,0<j→j<k→pt L j≠pt L (j-1)) (e:pt L k=pt L (k-1)):oH L L k (k+1):=by
 have e1:iw L (k+1)=L.take k:=by rw [oG h0 e,sM k (by omega) h]
 refine ⟨rfl,Nat.succ_pos _,hk,Nat.le_refl _,by rw [e1,List.length_take];omega,fun i hi=>?_,fun _ _ _=>rfl⟩
 rw [e1,dh (by omega),dh (by rw [List.length_take];omega),List.getElem_take]
theorem gN.same {w w':World} {g:Nat} {L:List QP} (h:gN w g L) (e:w'.heap[g]?=w.heap[g]?):gN w' g L:=by
 intro i hi
 obtain ⟨h1,h2,h3,h4⟩:=h i hi
 unfold World.cell? World.frozen? at *
 simp only [e]
 exact ⟨h1,h2,h3,h4⟩
theorem gN.below {w w':World} {g:Nat} {L:List QP} (h:gN w g L) (hg:g<w.heap.size) (hb:Below w.heap.size w w'):gN w' g L:=h.same (hb.block g hg)
theorem sN {g a b:Nat} (h:a≠b):(⟨g,a,none⟩ : Addr)≠⟨g,b,none⟩:=by intro e;simp only [Addr.mk.injEq] at e;exact h e.2.1
theorem gN.put {w:World} {g k:Nat} {L:List QP} (h:gN w g L) (p:QP) (hk:k<L.length):gN ((w.setCell ⟨g,k*2,none⟩ (.string (tx p.1))).setCell ⟨g,k*2+1,none⟩ (.string (tx p.2))) g (L.set k p):=by
 intro i hi
 have hi':i<L.length:=by simpa using hi
 obtain ⟨h1,h2,h3,h4⟩:=h i hi'
 obtain ⟨k1,k2,_,_⟩:=h k hk
 rw [Nb hi',World.frozen?_setCell,World.frozen?_setCell,World.frozen?_setCell,World.frozen?_setCell]
 by_cases e:k=i
 ·subst e
  rw [if_pos rfl]
  refine ⟨?_,?_,h3,h4⟩
  ·rw [World.cell?_setCell_other (h:=sN (by omega)),World.cell?_setCell_same (h:=k1)]
  ·have hk2:(w.setCell ⟨g,k*2,none⟩ (.string (tx p.1))).cell? ⟨g,k*2+1,none⟩=some (.string (tx (pt L k).2)):=by
    rw [World.cell?_setCell_other (h:=sN (by omega))];exact k2
   exact World.cell?_setCell_same _ _ _ hk2
 ·rw [if_neg e]
  refine ⟨?_,?_,h3,h4⟩
  ·rw [World.cell?_setCell_other (h:=sN (by omega)),World.cell?_setCell_other (h:=sN (by omega))];exact h1
  ·rw [World.cell?_setCell_other (h:=sN (by omega)),World.cell?_setCell_other (h:=sN (by omega))];exact h2
theorem Fu (n:Nat):(Builtin.zeroCells #[Value.string ⟨#[]⟩,.string ⟨#[]⟩] n).toList.length=n*2:=by simp [Builtin.zeroCells]
theorem QW (n:Nat):∀ v∈(Builtin.zeroCells #[Value.string ⟨#[]⟩,.string ⟨#[]⟩] n).toList,v.oneCell'=true:=by
 intro v hv
 simp only [Builtin.zeroCells,Array.toList_map,List.mem_map] at hv
 obtain ⟨i,_,rfl⟩:=hv
 rcases (show i % 2=0∨i % 2=1 by omega) with e | e <;> simp [e,Value.oneCell']
theorem Es (w:World) (ty:TypeId) (b o n c:Nat) (hn:0<n) (hc:∀ j,j<n*2→(w.cell? ⟨b,o+j,none⟩).isSome=true) (hf:∀ j,j<n*2→w.frozen? ⟨b,o+j,none⟩=false) :
  (Builtin.clear_ #[44] ty #[.slice (some ⟨b,o,none⟩) n c]).run Tryz.prog w=.ok (.tuple #[]) (w.setCells b o (Builtin.zeroCells #[Value.string ⟨#[]⟩,.string ⟨#[]⟩] n).toList):=by
 have hst:=run_storeCells_cells (P:=Tryz.prog) b o (Builtin.zeroCells #[Value.string ⟨#[]⟩,.string ⟨#[]⟩] n).toList 0 w (by rw [Fu];simpa using hc) (by rw [Fu];simpa using hf) (QW n)
 simp only [Nat.add_zero] at hst
 obtain ⟨m,rfl⟩ : ∃ m,n=m+1:=⟨n-1,by omega⟩
 simp [Builtin.clear_,run_underlying Tryz.underlying44,Tryz.zeroValue113,Value.cells,hst]
theorem below_setCells {B:Nat} {a w:World} {g o:Nat} {vs:List Value} (h:Below B a w) (hg:B≤g):Below B a (w.setCells g o vs):=by
 induction vs generalizing w o with
 | nil=>exact h
 | cons v vs ih=>exact ih (h.setCell (p:=⟨g,o,none⟩) hg v)
def Ku (g cap:Nat) (L:List QP) (w:World) (e:Ending) (w':World):Prop:=
 e=.returned (.slice (some ⟨g,0,none⟩) (iw L L.length).length cap)∧gN w' g (iw L L.length)∧Below g w w'
theorem Kv (g cap:Nat) (L:List QP) (hsz:L.length≤1000000) (hcap:L.length≤cap) (hcm:cap≤maxLen) (w:World) (hg:g<w.heap.size) (hH:gN w g L) :
  Calls Tryz.prog 116 #[.slice (some ⟨g,0,none⟩) L.length cap] w (Ku g cap L w):=by
 unfold maxLen at hcm
 have HH:=hid hH
 have hguard:=UL
 have hbw:=Below.refl w.heap.size w
 clear hH
 by_cases h2:L.length<2
 ·have n1:decide ((L.length:Int)<2)=true:=decide_eq_true (by omega)
  have HE:=hid (show iw L L.length=L from (sM L.length (Nat.le_refl _) (fun j h0 h1=>by omega)).trans (List.take_length))
  go_enter Tryz.func116,Tryz.ntmps116
  go_wp2
  go_ret
  exact ⟨by rw [HE.out];rfl,by rw [HE.out];exact HH.out,Below.refl _ _⟩
 ·have n1:decide ((L.length:Int)<2)=false:=decide_eq_false (by omega)
  go_enter Tryz.func116,Tryz.ntmps116
  go_wp2_with fail
  go_loopw [3] (fun iv wr=>∃ i:Nat,i+1≤L.length∧iv=.int .i64 ((i+1:Nat):Int)∧(∀ j,0<j→j<i+1→pt L j≠pt L (j-1))∧Below w.heap.size w wr) (fun iv _=>L.length-(intOf iv).toNat)
  case atStart=>exact ⟨0,by omega,rfl,fun j h0 h1=>by omega,hbw⟩
  case round =>
   obtain ⟨i,hil,rfl,hNE,hbr⟩:=hrel
   have sV:=hid hNE
   have HHr:=hid (HH.out.below hg hbr)
   clear hNE
   by_cases hk:i+1<L.length
   ·have hkn:decide ((i:Int)+1<(L.length:Int))=true:=decide_eq_true (by omega)
    have m1:IntKind.i64.wrap ((i:Int)+1-1)=(i:Int):=IntWalk.i64_in _ (by omega) |>.trans (by omega)
    have m2:IntKind.i64.wrap (i:Int)=(i:Int):=IntWalk.i64_in _ (by omega)
    have m3:(0:Int)≤(i:Int):=by omega
    have m4:(i:Int)<(L.length:Int):=by omega
    have m5:(i:Int)+1<(L.length:Int):=by omega
    have m6:(0:Int)≤(i:Int)+1:=by omega
    have m7:((i:Int)+1).toNat=i+1:=by omega
    have m8:i<L.length:=by omega
    obtain ⟨c0,c1,_,_⟩:=HHr.out (i+1) hk
    obtain ⟨d0,d1,_,_⟩:=HHr.out i (by omega)
    have heq:=aca (pt L (i+1)) (pt L i)
    by_cases he:pt L (i+1)=pt L i
    ·rw [decide_eq_true he] at heq
     have UN:=hid (show oH L L (i+1) (i+2) from oH.start (Nat.succ_pos _) hk sV.out he)
     clear he
     generalize tx (pt L (i+1)).1=x1 at *
     generalize tx (pt L (i+1)).2=x2 at *
     generalize tx (pt L i).1=y1 at *
     generalize tx (pt L i).2=y2 at *
     go_wp2_with fail
     go_quiet (fail)
     go_wp2_with fail
     obtain ⟨w2,hw2⟩ : ∃ w2,w2=wr.drewN nq:=⟨_,rfl⟩
     have hb2:Below w.heap.size w w2:=by rw [hw2];exact hbr.trans ((below_drewN wr _).mono hbr.size)
     have HH2:=hid (HH.out.below hg hb2)
     have adW:=hb2.mono (Nat.le_of_lt hg)
     rw [←hw2]
     clear hw2 c0 c1 d0 d1 HHr hb2 m1 m2 m3 m4 m5 m6 m7 heq hkn sV
     go_loopw [3,5] (fun kv jv wr=>∃ (k j:Nat) (B:List QP),kv=.int .i64 (k:Int)∧jv=.int .i64 ((j+1:Nat):Int)∧oH L B k (i+j+2)∧gN wr g B∧Below g w wr) (fun _ jv _=>L.length-(intOf jv).toNat)
     case atStart=>exact ⟨i+1,0,L,rfl,rfl,UN.out,HH2.out,adW⟩
     case round =>
      clear adW UN HH2 hbr
      obtain ⟨k,j,B,rfl,rfl,hC,hHB,hbr⟩:=hrel
      have HC:=hid hC
      have HB:=hid hHB
      have hkt:=hC.kt
      have htl:=hC.tl
      have hBl:=hC.len
      clear hC hHB
      by_cases hj:j+1<L.length-(i+1)
      ·have hjn:decide ((j:Int)+1<((L.length-(i+1):Nat):Int))=true:=decide_eq_true (by omega)
       have m1:IntKind.i64.wrap ((j:Int)+1-1)=(j:Int):=IntWalk.i64_in _ (by omega) |>.trans (by omega)
       have m2:IntKind.i64.wrap (j:Int)=(j:Int):=IntWalk.i64_in _ (by omega)
       have m3:(0:Int)≤(j:Int):=by omega
       have m4:(j:Int)<((L.length-(i+1):Nat):Int):=by omega
       have m5:(j:Int)+1<((L.length-(i+1):Nat):Int):=by omega
       have m6:(0:Int)≤(j:Int)+1:=by omega
       have m7:((j:Int)+1).toNat=j+1:=by omega
       have m8:j<L.length-(i+1):=by omega
       have m9:(0:Int)≤(k:Int):=by omega
       have m10:(k:Int)<(L.length:Int):=by omega
       have m11:k<L.length:=by omega
       obtain ⟨c0,c1,_,_⟩:=HB.out (i+j+2) (by omega)
       obtain ⟨d0,d1,_,_⟩:=HB.out (i+j+1) (by omega)
       rw [HC.out.back (i+j+2) (by omega) (by omega)] at c0 c1
       rw [HC.out.back (i+j+1) (by omega) (by omega)] at d0 d1
       rw [show (i+j+2)*2=(i+1)*2+(j+1)*2 by omega] at c0 c1
       rw [show (i+j+1)*2=(i+1)*2+j*2 by omega] at d0 d1
       have hneq:=acb (pt L (i+j+2)) (pt L (i+j+1))
       by_cases he:pt L (i+j+2)=pt L (i+j+1)
       ·rw [decide_eq_true he] at hneq
        have HN:=hid (show oH L B k (i+(j+1)+2) from HC.out.skip (show i+j+2<L.length by omega) he)
        clear he
        generalize tx (pt L (i+j+2)).1=x1 at *
        generalize tx (pt L (i+j+2)).2=x2 at *
        generalize tx (pt L (i+j+1)).1=y1 at *
        generalize tx (pt L (i+j+1)).2=y2 at *
        go_wp2_with fail
        go_quiet (fail)
        go_wp2
        refine ⟨⟨k,j+1,B,rfl,by simp,HN.out,HB.out.same rfl,hbr.trans ((below_drewN wr _).mono (Nat.le_trans (Nat.le_of_lt hg) hbr.size))⟩,?_⟩
        show L.length-((j:Int)+1+1).toNat<L.length-((j:Int)+1).toNat
        omega
       ·rw [decide_eq_false he] at hneq
        have HN:=hid (show oH L (B.set k (pt L (i+j+2))) (k+1) (i+(j+1)+2) from HC.out.keep (show i+j+2<L.length by omega) he)
        obtain ⟨z,hz⟩ : ∃ z,z=pt L (i+j+2):=⟨_,rfl⟩
        have Uz:=hid (fun n=>(show gN (wr.drewN n) g B from HB.out.same rfl).put z (show k<B.length by omega))
        have sF:=hid (fun n=>((hbr.trans ((below_drewN wr n).mono (Nat.le_trans (Nat.le_of_lt hg) hbr.size))).setCell (p:=⟨g,k*2,none⟩) (Nat.le_refl _) (.string (tx z.1))).setCell (p:=⟨g,k*2+1,none⟩) (Nat.le_refl _) (.string (tx z.2)))
        obtain ⟨e0,e1,e2,e3⟩:=HB.out k (by omega)
        rw [←hz] at c0 c1 hneq HN
        clear he hz
        generalize tx z.1=x1 at *
        generalize tx z.2=x2 at *
        generalize tx (pt L (i+j+1)).1=y1 at *
        generalize tx (pt L (i+j+1)).2=y2 at *
        generalize tx (pt B k).1=v1 at *
        generalize tx (pt B k).2=v2 at *
        go_wp2_with fail
        go_quiet (fail)
        go_wp2
        refine ⟨⟨k+1,j+1,_,by simp,by simp,HN.out,Uz.out _,sF.out _⟩,?_⟩
        show L.length-((j:Int)+1+1).toNat<L.length-((j:Int)+1).toNat
        omega
      ·have hjn:decide ((j:Int)+1<((L.length-(i+1):Nat):Int))=false:=decide_eq_false (by omega)
       have hte:i+j+2=L.length:=by omega
       have hcl:=fun ty=>Es wr ty g (k*2) (L.length-k) (cap-k) (by omega) (fun t ht=>by
        obtain ⟨q0,q1,_,_⟩:=HB.out (k+t/2) (by omega)
        rcases (show t % 2=0∨t % 2=1 by omega) with e | e
        ·rw [show k*2+t=(k+t/2)*2 by omega,q0];rfl
        ·rw [show k*2+t=(k+t/2)*2+1 by omega,q1];rfl) (fun t ht=>by
        obtain ⟨_,_,q2,q3⟩:=HB.out (k+t/2) (by omega)
        rcases (show t % 2=0∨t % 2=1 by omega) with e | e
        ·rw [show k*2+t=(k+t/2)*2 by omega];exact q2
        ·rw [show k*2+t=(k+t/2)*2+1 by omega];exact q3)
       have hkl:=HC.out.kl
       rw [hte] at hkl
       obtain ⟨vs,hvs⟩ : ∃ vs,vs=(Builtin.zeroCells #[Value.string ⟨#[]⟩,.string ⟨#[]⟩] (L.length-k)).toList:=⟨_,rfl⟩
       rw [←hvs] at hcl
       have Y2:=hid (show gN (wr.setCells g (k*2) vs) g (iw L L.length) from fun t ht=>by
        obtain ⟨q0,q1,q2,q3⟩:=HB.out t (by omega)
        have hf:=HC.out.front t (by omega)
        rw [hte] at hf
        rw [hf] at q0 q1
        rw [World.frozen?_setCells,World.frozen?_setCells,World.cell?_setCells_out _ _ _ _ _ (fun _ _=>.inl (by show t*2<k*2;omega)),World.cell?_setCells_out _ _ _ _ _ (fun _ _=>.inl (by show t*2+1<k*2;omega))]
        exact ⟨q0,q1,q2,q3⟩)
       have HBF:=hid (below_setCells (o:=k*2) (vs:=vs) hbr (Nat.le_refl g))
       have HKL:=hid hkl
       have m9:(0:Int)≤(k:Int):=by omega
       have m10:(k:Int)≤(L.length:Int):=by omega
       have m11:k≤L.length:=by omega
       have m12:¬ cap=k:=by omega
       have m13:k≤cap:=by omega
       have m14:(k:Int)≤(cap:Int):=by omega
       clear hvs hkl hte
       go_wp2
       go_ret
       exact ⟨by rw [←HKL.out];rfl,Y2.out,HBF.out⟩
    ·rw [decide_eq_false he] at heq
     have HN:=hid (show ∀ j,0<j→j<i+1+1→pt L j≠pt L (j-1) from fun j h0 h1=>by
      rcases (show j<i+1∨j=i+1 by omega) with e | e
      ·exact sV.out j h0 e
      ·rw [e];exact he)
     clear he
     generalize tx (pt L (i+1)).1=x1 at *
     generalize tx (pt L (i+1)).2=x2 at *
     generalize tx (pt L i).1=y1 at *
     generalize tx (pt L i).2=y2 at *
     go_wp2_with fail
     go_quiet (fail)
     go_wp2
     refine ⟨⟨i+1,hk,by simp,HN.out,hbr.trans ((below_drewN wr _).mono hbr.size)⟩,?_⟩
     show L.length-((i:Int)+1+1).toNat<L.length-((i:Int)+1).toNat
     omega
   ·have hkn:decide ((i:Int)+1<(L.length:Int))=false:=decide_eq_false (by omega)
    have HE:=hid (show iw L L.length=L from (sM L.length (Nat.le_refl _) (fun j h0 h1=>sV.out j h0 (by omega))).trans (List.take_length))
    go_wp2
    go_ret
    exact ⟨by rw [HE.out];rfl,by rw [HE.out];exact HHr.out,hbr.mono (Nat.le_of_lt hg)⟩
theorem Ec.congr {e:QP} {S S' O:List QP} (h:Ec e S O) (hm:∀ p,p∈S↔p∈S'):Ec e S' O where
 ne:=h.ne
 mem:=fun p hp=>(hm p).1 (h.mem p hp)
 low:=fun p hp=>h.low p ((hm p).2 hp)
 top:=fun p hp=>h.top p ((hm p).2 hp)
 GG:=h.GG
 nx:=fun i hi=>(h.nx i hi).congr (fun p hp=>(hm p).2 hp)
theorem Kw {L:List QP}:∀ t,t≤L.length→∀ p,p∈iw L t↔p∈L.take t
 | 0,_,p=>by simp [iw]
 | t+1,ht,p=>by
  have ih:=Kw (L:=L) t (by omega) p
  have e1:L.take (t+1)=L.take t ++ [pt L t]:=by rw [List.take_succ_eq_append_getElem (show t<L.length by omega),dh (show t<L.length by omega)]
  rw [e1,List.mem_append,List.mem_singleton,←ih]
  by_cases h:0<t∧pt L t=pt L (t-1)
  ·rw [oG h.1 h.2]
   constructor
   ·exact .inl
   ·rintro (h1 | h1)
    ·exact h1
    ·rw [ih,h1,h.2,dh (show t-1<L.length by omega)]
     have hl:t-1<(L.take t).length:=by rw [List.length_take];omega
     have e2:(L.take t)[t-1]'hl=L[t-1]'(by omega):=List.getElem_take ..
     rw [←e2]
     exact List.getElem_mem hl
  ·rw [rD (by rcases Nat.eq_zero_or_pos t with e | e;exact .inl e;exact .inr (fun h2=>h ⟨e,h2⟩)),List.mem_append,List.mem_singleton]
theorem Ky {L:List QP} (hs:∀ i j,i<j→j<L.length→¬ dZ (pt L j) (pt L i)):∀ t,t≤L.length →
  (∀ i j,i<j→j<(iw L t).length→dZ (pt (iw L t) i) (pt (iw L t) j))∧(0<t→pt (iw L t) ((iw L t).length-1)=pt L (t-1))
 | 0,_=>⟨fun i j _ hj=>by simp [iw] at hj,fun h=>absurd h (Nat.lt_irrefl _)⟩
 | t+1,ht=>by
  obtain ⟨ih1,ih2⟩:=Ky hs t (by omega)
  by_cases h:0<t∧pt L t=pt L (t-1)
  ·rw [oG h.1 h.2]
   exact ⟨ih1,fun _=>by rw [ih2 h.1,Nat.add_sub_cancel,h.2]⟩
  ·have hn:t=0∨pt L t≠pt L (t-1):=by
    rcases Nat.eq_zero_or_pos t with e | e
    ·exact .inl e
    ·exact .inr (fun h2=>h ⟨e,h2⟩)
   rw [rD hn]
   refine ⟨fun i j hij hj=>?_,fun _=>by rw [List.length_append,List.length_singleton,Nat.add_sub_cancel,rE,Nat.add_sub_cancel]⟩
   rw [List.length_append,List.length_singleton] at hj
   rcases (show j<(iw L t).length∨j=(iw L t).length by omega) with h1 | h1
   ·rw [nz h1,nz (by omega)];exact ih1 i j hij h1
   ·subst h1
    rw [rE,nz hij]
    have ht0:0<t:=by
     rcases Nat.eq_zero_or_pos t with e | e
     ·subst e;simp [iw] at hij
     ·exact e
    have hne:=hn.resolve_left (by omega)
    have hl:dZ (pt L (t-1)) (pt L t):=by
     rcases uU hne with h2 | h2
     ·exact absurd h2 (hs (t-1) t (by omega) (by omega))
     ·exact h2
    rcases (show i=(iw L t).length-1∨i<(iw L t).length-1 by omega) with h2 | h2
    ·rw [h2,ih2 ht0];exact hl
    ·have:=ih1 i ((iw L t).length-1) h2 (by omega)
     rw [ih2 ht0] at this
     exact pF this hl
theorem UO {C:List QP} {i:Nat} (hi:i<C.length):pt C.reverse i=pt C (C.length-1-i):=by
 rw [dh (by simpa using hi),dh (by omega),List.getElem_reverse]
theorem Nc {w w':World} {base g n size:Nat} {e:TypeId} {v:Value} {xs:List Value} (h:w.ownsRow base e size v n xs) (hg:g<base) (hs:∀ k,k≠g→w'.heap[k]?=w.heap[k]?):w'.ownsRow base e size v n xs:=by
 refine ⟨h.1,?_⟩
 rcases h.2 with h1 | ⟨g',cap,cur,h1,h2,h3,h4⟩
 ·exact .inl h1
 ·exact .inr ⟨g',cap,cur,h1,h2,by rw [hs g' (by omega)];exact h3,h4⟩
def QX (L:List QP) (w:World) (e:Ending) (w':World):Prop:=
 ((e=.returned (.tuple #[.slice none 0 0,.int .i64 13])∧∀ P,jh L P→P.length<3)∨(∃ r P,e=.returned (.tuple #[r,.int .i64 0])∧jh L P∧3≤P.length∧(qh w' r P∧MZ w' r)))∧Below w.heap.size w w'
theorem UQ {L C P:List QP} (hm:∀ p,p∈C↔p∈L) (hc:C.length<3) (h:jh L P):P.length<3:=by
 have:=ym P C h.toPart.nodup (fun p hp=>(hm p).2 (h.mem p hp))
 omega
theorem jh.first {L P:List QP} (h:jh L P) (h3:3≤P.length) {t:Nat} (ht:iJ P t):JM P t=P:=by
 have hp:=h.poly h3
 have:t=0:=iJ.unique hp.1 ht hp.least
 subst this
 simp [JM]
theorem ZB (v:Value) (L:List QP) (h0:0<L.length) (hn:L.length≤60) (hz:∀ p∈L,qg 402 p) (w:World) (hw:Good w) (hv:qh w v L) :
  Calls Tryz.prog 51 #[v] w (QX L w):=by
 have hz2:=hz
 have N9:=hid hz2
 have HCP:=hid (fun i (hi:i<L.length) w' (hg:Good w')=>yt (pt L i) (hz _ (bX hi)) w' hg)
 unfold RV at HCP
 obtain ⟨p,c,rfl,hcl,hcm⟩:=hv.slice
 unfold maxLen at hcm
 obtain ⟨B,off,rfl,hbl,hcell⟩:=qh.cells hv h0
 have EN:=hid (fun i (hi:i<L.length) wx (h:Below w.heap.size w wx)=>And.intro ((h.cell (p:=⟨B,off+i*2,none⟩) hbl).trans (hcell i hi).1) ((h.cell (p:=⟨B,off+i*2+1,none⟩) hbl).trans (hcell i hi).2))
 have Zr:=hid (fun wx (h:Below w.heap.size w wx) i (hi:i<(L.map aQ).length)=>show wx.cell? ⟨B,off+i*2,none⟩=some (.string (L.map aQ)[i].1)∧wx.cell? ⟨B,off+i*2+1,none⟩=some (.string (L.map aQ)[i].2) by
  have hi':i<L.length:=by simpa using hi
  have:=EN.out i hi' wx h
  rw [dh hi'] at this
  simpa [aQ] using this)
 have hbw:=Below.refl w.heap.size w
 have q1:decide ((L.length:Int)>200)=false:=decide_eq_false (by omega)
 have q2:decide ((200:Int)<(L.length:Int))=false:=decide_eq_false (by omega)
 have hbig:=hw.big
 clear hz hv hcell hz2
 go_enter Tryz.func51,Tryz.ntmps51
 go_wp2_with fail
 go_loopw [14] (fun iv wr=>∃ k:Nat,k≤L.length∧iv=.int .i64 (k:Int)∧Below w.heap.size w wr) (fun iv _=>L.length-(intOf iv).toNat)
 case atStart=>exact ⟨0,Nat.zero_le _,rfl,hbw⟩
 case round =>
  obtain ⟨k,hkl,rfl,hbr⟩:=hrel
  by_cases hk:k<L.length
  ·have hkn:decide ((k:Int)<(L.length:Int))=true:=decide_eq_true (by omega)
   have i1:(0:Int)≤(k:Int):=by omega
   have i2:(k:Int)<(L.length:Int):=by omega
   obtain ⟨c0,c1⟩:=EN.out k hk wr hbr
   have H1:=hid (HCP.out k hk)
   generalize tx (pt L k).1=p1 at *
   generalize tx (pt L k).2=p2 at *
   go_upto_region 6 with fail
   obtain ⟨wC,pI⟩ : ∃ wC,wC=wr.alloc (Obj.cells #[.string p1,.string p2] 113):=⟨_,rfl⟩
   obtain ⟨il,Ef,g0,g1⟩:=ni pI
   rw [←pI]
   clear pI
   have hbC:=hbr.trans (il.mono hbr.size)
   go_wp2_with fail
   refine (H1.out _ (hw.below hbC)).mono ?_
   rintro e w1 ⟨rfl,hb1⟩
   go_wp2
   refine ⟨⟨k+1,hk,aH k,hbC.trans (hb1.mono hbC.size)⟩,?_⟩
   show L.length-((k:Int)+1).toNat<L.length-((k:Int)).toNat
   omega
  ·have hkn:decide ((k:Int)<(L.length:Int))=false:=decide_eq_false (by omega)
   have adX:=hid (QV B off c L wr (by omega) (Zr.out wr hbr))
   have hgr:=hw.below hbr
   clear HCP
   go_wp2_with fail
   refine adX.out.mono ?_
   rintro e w2 ⟨g,cap,rfl,hc1,hc2,hg1,hg2,hH2,hb2⟩
   have hbw2:=hbr.trans (hb2.mono hbr.size)
   have hwg:w.heap.size≤g:=Nat.le_trans hbr.size hg1
   have HSO:=hid (UK g cap L (fun p hp=>(N9.out p hp).sm) w2 (hw.below hbw2) (by omega) hg2 hH2 (by omega))
   clear hH2
   go_wp2_with fail
   refine HSO.out.mono ?_
   rintro e w3 ⟨rfl,M,hperm,hsrt,hH3,hb3⟩
   have hMl:M.length=L.length:=hperm.length_eq
   have hg3:=Nat.lt_of_lt_of_le hg2 hb3.size
   have J2:=hid (Kv g cap M (by omega) (by omega) hc2 w3 hg3 hH3)
   rw [hMl] at J2
   have ace:=hbw2.trans (hb3.mono hwg)
   have UR:=hid hsrt
   have aa0:=hid hperm
   unfold Ku at J2
   clear hH3 hperm hsrt
   go_wp2_with fail
   refine J2.out.mono ?_
   rintro e w4 ⟨rfl,hH4,hb4⟩
   obtain ⟨C,hCe⟩ : ∃ C,C=iw M M.length:=⟨_,rfl⟩
   rw [←hCe] at hH4
   rw [←hCe]
   have hmC:∀ p,p∈C↔p∈L:=fun p=>by
    rw [hCe,Kw M.length (Nat.le_refl _) p,List.take_length]
    exact aa0.out.mem_iff
   have adY:∀ i j,i<j→j<C.length→dZ (pt C i) (pt C j):=by
    rw [hCe];exact (Ky UR.out M.length (Nat.le_refl _)).1
   have hCl:C.length≤L.length:=by rw [hCe,←hMl];exact Kt _ _
   have hCs:∀ p∈C,qg 402 p:=fun p hp=>N9.out p ((hmC p).1 hp)
   have hs4:=hb4.size
   have hg4:g<w4.heap.size:=Nat.lt_of_lt_of_le hg3 hs4
   have UT:=ace.trans (hb4.mono hwg)
   have HMC:=hid hmC
   have acf:=hid adY
   have Eg:=hid hCs
   have HH4:=hid hH4
   clear hCe hmC adY hCs hH4 UR aa0 HSO J2 adX
   by_cases hC3:C.length<3
   ·have n1:decide ((C.length:Int)<3)=true:=decide_eq_true (by omega)
    have acg:=hid (fun P (h:jh L P)=>UQ HMC.out hC3 h)
    go_wp2
    go_ret2
    exact ⟨.inl ⟨rfl,acg.out⟩,UT⟩
   ·have n1:decide ((C.length:Int)<3)=false:=decide_eq_false (by omega)
    have ach:=hid (Kr (0,-1) (.slice (some ⟨g,0,none⟩) C.length cap) C (by omega) (by omega) (fun p hp=>(Eg.out p hp).sm) (fun i j hij hj=>wU.2 (acf.out i j hij hj)) w4 (hw.below UT) (Fs HH4.out rfl (by omega) hc2 hg4))
    unfold yH at ach
    go_wp2_with fail
    refine ach.out.mono ?_
    rintro e w5 ⟨r1,O1,rfl,hO1,hown1,hb5⟩
    have hg5:=Nat.lt_of_lt_of_le hg4 hb5.size
    have afQ:=UT.trans (hb5.mono UT.size)
    have HRV:=hid (ZA g cap C (fun p hp=>(Eg.out p hp).sm) w5 hg5 (HH4.out.below hg4 hb5) (by omega))
    have HO1:=hid hO1
    have aa1:=hid hown1
    clear hO1 hown1 ach
    go_wp2_with fail
    refine HRV.out.mono ?_
    rintro e w6 ⟨rfl,hH6,hoth,hb6⟩
    have aa2:=hid (Nc aa1.out hg4 hoth)
    have hg6:=Nat.lt_of_lt_of_le hg5 hb6.size
    have aci:=afQ.trans (hb6.mono hwg)
    have hrl:C.reverse.length=C.length:=List.length_reverse
    have acj:=hid (Kr (0,1) (.slice (some ⟨g,0,none⟩) C.length cap) C.reverse (by omega) (by omega) (fun p hp=>(Eg.out p (List.mem_reverse.1 hp)).sm) (fun i j hij hj=>by
     rw [hrl] at hj
     rw [yn,UO (by omega),UO (by omega)]
     exact acf.out _ _ (by omega) (by omega)) w6 (hw.below aci) (Fs hH6 hrl.symm (by omega) hc2 hg6))
    unfold yH at acj
    clear hoth hH6 HRV aa1
    go_wp2_with fail
    refine acj.out.mono ?_
    rintro e w7 ⟨r2,O2,rfl,hO2,hown2,Fv⟩
    have afR:=aci.trans (Fv.mono aci.size)
    have hne:pt C 0≠pt C 1:=fun h=>by
     have:=acf.out 0 1 (by decide) (by omega)
     rw [h] at this;exact jd this
    have ack:Ec (0,1) C O2:=hO2.congr (fun p=>List.mem_reverse)
    have l1:=HO1.out.two (bX (show 0<C.length by omega)) (bX (show 1<C.length by omega)) hne
    have l2:=ack.two (bX (show 0<C.length by omega)) (bX (show 1<C.length by omega)) hne
    have hWC:=Ed HO1.out ack (bX (show 0<C.length by omega)) (bX (show 1<C.length by omega)) hne
    have hWL:=hWC.congr HMC.out
    have hol:(O1.dropLast++O2.dropLast).length=(O1.length-1)+(O2.length-1):=by rw [List.length_append,List.length_dropLast,List.length_dropLast]
    have hole:=hWL.toPart.len
    have zU:=jH aa2.out Fv
    obtain ⟨m1,hm1⟩ : ∃ m1,O1.length-1=m1+1:=⟨O1.length-2,by omega⟩
    obtain ⟨m2,hm2⟩ : ∃ m2,O2.length-1=m2+1:=⟨O2.length-2,by omega⟩
    rw [hm1] at zU hol
    rw [hm2] at hown2 hol
    obtain ⟨g1,cp1,rfl⟩:=ownsRow_succ zU
    obtain ⟨g2,cp2,rfl⟩:=ownsRow_succ hown2
    have HW:=hid hWL
    have OP:=hid zU
    have adZ:=hid (fun j u (hj:(cellsS (O2.dropLast.map aQ))[j]?=some u)=>show w7.cell? ((⟨g2,0,none⟩ : Addr).add j)=some u by
     rw [addr_add,Nat.zero_add]
     exact (dG hown2 rfl hj).1)
    have Kc:=hid (show (cellsS (O2.dropLast.map aQ)).length=(m2+1)*2 by rw [jK,List.length_map,List.length_dropLast,hm2])
    have afS:=hid (show cellsS (O1.dropLast.map aQ)++cellsS (O2.dropLast.map aQ)=cellsS ((O1.dropLast++O2.dropLast).map aQ) by rw [List.map_append];unfold cellsS;rw [List.flatMap_append])
    have HOM:=hid (fun p (hp:p∈O1.dropLast++O2.dropLast)=>hWL.mem p hp)
    obtain ⟨i0,hi,hz0,hz1,hz2⟩:=info_parts qY.info
    generalize O1.dropLast++O2.dropLast=out at *
    have hsb:w4.heap.size≤w7.heap.size:=Nat.le_trans hb5.size (Nat.le_trans hb6.size Fv.size)
    clear hO2 ack hown2 zU hWC hWL hne l1 l2 acj aa2
    have afT:out.length=m1+m2+1+1:=by omega
    have ad1:=hid (fun w8 row (hgr:w7.grownBy w8 row) (hr:∀ q,row=some q→w4.heap.size≤q)=>afR.trans (((Below.refl w4.heap.size w7).grown hgr hsb hr).mono UT.size))
    by_cases h3:out.length<3
    ·have n2:decide ((m1:Int)+(m2:Int)+1+1<3)=true:=decide_eq_true (by omega)
     have acg:=hid (fun P (h:jh L P)=>show P.length<3 by rw [h.unique HW.out];exact h3)
     go_wp2_with (at_builtin;refine mZ _ rfl (.tmp 37) (.tmp 39) 44 rfl w4.heap.size 113 i0 (.agg #[.string ⟨#[]⟩,.string ⟨#[]⟩]) 2 32 qY.ht hi hz0 hz1 hz2 qY.hzs qY.hsz _ (m1+1) _ rfl OP.out ⟨g2,0,none⟩ (m2+1) cp2 _ rfl Kc.out adZ.out (pG _) (by unfold maxLen;omega) (by omega) hsb ?_;intro v8 w8 xu CW _;rw [show m1+1+(m2+1)=(m1+m2+1)+1 by omega] at xu;obtain ⟨g8,c8,rfl⟩:=ownsRow_succ xu;have HO8:=hid xu;have HG8:=hid CW;clear xu CW)
     go_wp2
     go_ret2
     exact ⟨.inl ⟨rfl,acg.out⟩,ad1.out _ _ HG8.out (fun q hq=>(OP.out.lt q hq).1)⟩
    ·have n2:decide ((m1:Int)+(m2:Int)+1+1<3)=false:=decide_eq_false (by omega)
     go_wp2_with (at_builtin;refine mZ _ rfl (.tmp 37) (.tmp 39) 44 rfl w4.heap.size 113 i0 (.agg #[.string ⟨#[]⟩,.string ⟨#[]⟩]) 2 32 qY.ht hi hz0 hz1 hz2 qY.hzs qY.hsz _ (m1+1) _ rfl OP.out ⟨g2,0,none⟩ (m2+1) cp2 _ rfl Kc.out adZ.out (pG _) (by unfold maxLen;omega) (by omega) hsb ?_;intro v8 w8 xu CW _;rw [show m1+1+(m2+1)=(m1+m2+1)+1 by omega] at xu;obtain ⟨g8,c8,rfl⟩:=ownsRow_succ xu;have HO8:=hid xu;have HG8:=hid CW;clear xu CW)
     have acm:=ad1.out _ _ HG8.out (fun q hq=>(OP.out.lt q hq).1)
     have hP8:qh w8 (.slice (some ⟨g8,0,none⟩) (m1+m2+1+1) c8) out:=lV (by rw [List.length_map,afT,←afS.out];exact HO8.out)
     have HFI:=hid (QN _ out (by omega) (by omega) (fun p hp=>(N9.out p (HOM.out p hp)).sm) w8 (hw.below acm) hP8)
     unfold OL at HFI
     clear hP8
     go_wp2_with fail
     refine HFI.out.mono ?_
     rintro e w9 ⟨hor,SV⟩
     have afU:=acm.trans (SV.mono acm.size)
     obtain ⟨r,t,rfl,hLA,hPr⟩:=hor
     rw [HW.out.first (by omega) hLA] at hPr
     have RO:=hid hPr
     clear hPr
     go_wp2
     go_ret2
     exact ⟨.inr ⟨r,out,rfl,HW.out,by omega,RO.out.1,RO.out.2⟩,afU⟩
theorem Nf (v:Value) (P:List QP) (h2:2≤P.length) (hn:P.length≤1000) (hz:∀ p∈P,qg 1000000 p) (hA:∀ k,k+2≤P.length→Sz 900000000 (iT P k)) (w:World) (hw:Good w) (hv:qh w v P) :
  Calls Tryz.prog 145 #[v] w (RV (.string (tx (jC P))) w):=by
 have ZC:=hid (fun i (hi:i<P.length) j (hj:j<P.length) k (hk:k<P.length) w' (hg:Good w')=>Oe (pt P i) (pt P j) (pt P k) (hz _ (bX hi)) (hz _ (bX hj)) (hz _ (bX hk)) w' hg)
 have HAD:=hid (fun k (hk:k+2<P.length) w' (hg:Good w')=>uj (iT P k) (dH (pt P 0) (pt P (k+1)) (pt P (k+2))) ((hA k (by omega)).sm) ((Tq (hz _ (bX (show 0<P.length by omega))) (hz _ (bX (show k+1<P.length by omega))) (hz _ (bX hk))).sm) w' hg)
 unfold RV at ZC HAD
 unfold wR at ZC
 have HT0:=hid (show (⟨#[48]⟩ : ByteArray)=tx (iT P 0) from tx0.symm)
 obtain ⟨p,c,rfl,hcl,hcm⟩:=hv.slice
 unfold maxLen at hcm
 obtain ⟨B,off,rfl,hbl,hcell⟩:=qh.cells hv (by omega)
 have EN:=hid (fun i (hi:i<P.length) wx (h:Below w.heap.size w wx)=>And.intro ((h.cell (p:=⟨B,off+i*2,none⟩) hbl).trans (hcell i hi).1) ((h.cell (p:=⟨B,off+i*2+1,none⟩) hbl).trans (hcell i hi).2))
 have hbw:=Below.refl w.heap.size w
 clear hz hv hcell hA
 go_enter Tryz.func145,Tryz.ntmps145
 go_wp2_with fail
 go_loopw [3,4] (fun sv iv wr=>∃ (k:Nat) (s:ByteArray),k+2≤P.length∧s=tx (iT P k)∧sv=.string s∧iv=.int .i64 ((k+1:Nat):Int)∧Below w.heap.size w wr) (fun _ iv _=>P.length-(intOf iv).toNat)
 case atStart=>exact ⟨0,_,h2,HT0.out,rfl,rfl,hbw⟩
 case round =>
  obtain ⟨k,s,hk2,hs,rfl,rfl,hbr⟩:=hrel
  have HS:=hid hs
  clear hs
  have m1:IntKind.i64.wrap ((k:Int)+1+1)=(k:Int)+1+1:=IntWalk.i64_in _ (by omega)
  by_cases hk:k+1+1<P.length
  ·have hkn:decide ((k:Int)+1+1<(P.length:Int))=true:=decide_eq_true (by omega)
   obtain ⟨a0,a1⟩:=EN.out 0 (by omega) wr hbr
   obtain ⟨b0,b1⟩:=EN.out (k+1) (by omega) wr hbr
   obtain ⟨c0,c1⟩:=EN.out (k+1+1) (by omega) wr hbr
   rw [Nat.zero_mul,Nat.add_zero] at a0 a1
   have ou:B<wr.heap.size:=Nat.lt_of_lt_of_le hbl hbr.size
   have m1:IntKind.i64.wrap ((k:Int)+1+1)=(k:Int)+1+1:=IntWalk.i64_in _ (by omega)
   have m2:(0:Int)≤(k:Int)+1:=by omega
   have m3:(k:Int)+1<(P.length:Int):=by omega
   have m4:(0:Int)≤(k:Int)+1+1:=by omega
   have m5:(k:Int)+1+1<(P.length:Int):=by omega
   have m6:((k:Int)+1).toNat=k+1:=by omega
   have m7:((k:Int)+1+1).toNat=k+1+1:=by omega
   have m8:k+1<P.length:=by omega
   have m9:k+1+1<P.length:=by omega
   have m10:0<P.length:=by omega
   have H1:=hid (ZC.out 0 m10 (k+1) m8 (k+1+1) m9)
   have H2:=hid (HAD.out k hk)
   rw [←HS.out] at H2
   obtain ⟨s2,hs2⟩ : ∃ s2,s2=tx (iT P (k+1)):=⟨_,rfl⟩
   have HS2:=hid hs2
   rw [show iT P k+dH (pt P 0) (pt P (k+1)) (pt P (k+2))=iT P (k+1) from rfl,←hs2] at H2
   clear hs2
   rw [show k+2=k+1+1 from rfl] at H2
   generalize tx (dH (pt P 0) (pt P (k+1)) (pt P (k+1+1)))=t at *
   generalize tx (pt P 0).1=x1 at *
   generalize tx (pt P 0).2=x2 at *
   generalize tx (pt P (k+1)).1=y1 at *
   generalize tx (pt P (k+1)).2=y2 at *
   generalize tx (pt P (k+1+1)).1=z1 at *
   generalize tx (pt P (k+1+1)).2=z2 at *
   go_wp2_with fail
   refine aL (fun W'=>Below wr.heap.size wr W') [0,1,2,3,4,5,6,7,8,9,10,11,12] [13,14] 15 (by kernel_rfl) (by kernel_rfl) ⟨rfl,rfl,rfl,Nat.le_refl _,fun _ _=>rfl⟩ ?_
   iterate 13
    refine aG rfl ?_ rfl ?_ ?_
    rotate_left
    ·intro W' hS'
     have s0:=(hS'.cell (p:=⟨B,off,none⟩) ou).trans a0
     have s1:=(hS'.cell (p:=⟨B,off+1,none⟩) ou).trans a1
     have s2:=(hS'.cell (p:=⟨B,off+(k+1)*2,none⟩) ou).trans b0
     have s3:=(hS'.cell (p:=⟨B,off+(k+1)*2+1,none⟩) ou).trans b1
     have s4:=(hS'.cell (p:=⟨B,off+(k+1+1)*2,none⟩) ou).trans c0
     have s5:=(hS'.cell (p:=⟨B,off+(k+1+1)*2+1,none⟩) ou).trans c1
     go_simp
     try with_reducible rfl
    try simp only [zA,zB,zC,Act.put,zD,zE,zF]
   have hR0:Below wr.heap.size wr wr.drew:=⟨rfl,rfl,rfl,Nat.le_refl _,fun _ _=>rfl⟩
   refine aB rfl rfl (fun K hK=>?_)
   go_simp
   refine (H1.out _ (hw.below (hbr.trans (hR0.mono hbr.size)))).mono ?_
   rintro e u1 ⟨rfl,lW⟩
   have fq:=hR0.trans (lW.mono hR0.size)
   refine hK _ _ ⟨fq,?_⟩
   clear hK K
   try simp only [zA,zB,zC,Act.put,zD,zE,zF]
   refine aB rfl rfl (fun K hK=>?_)
   go_simp
   refine (H2.out _ (hw.below (hbr.trans (fq.mono hbr.size)))).mono ?_
   rintro e u2 ⟨rfl,Ng⟩
   have hR2:=fq.trans (Ng.mono fq.size)
   refine hK _ _ ⟨hR2,?_⟩
   clear hK K
   try simp only [zA,zB,zC,Act.put,zD,zE,zF]
   unfold bz
   simp only [List.drop_succ_cons,List.drop_zero]
   try simp only [zA,zB,zC,Act.put,zD,zE,zF]
   refine az rfl (fun K hK=>?_)
   go_simp
   refine hK _ _ ⟨trivial,aO ?_⟩
   clear hK K
   try simp only [zA,zB,zC,Act.put,zD,zE,zF]
   refine ag.mk ?_
   have hbu:=hbr.trans (hR2.mono hbr.size)
   go_wp2
   refine ⟨⟨k+1,s2,hk,HS2.out,rfl,by simp,hbu⟩,?_⟩
   show P.length-((k:Int)+1+1).toNat<P.length-((k:Int)+1).toNat
   omega
  ·have hkn:decide ((k:Int)+1+1<(P.length:Int))=false:=decide_eq_false (by omega)
   have HR:=hid (show s=tx (jC P) by rw [HS.out];unfold jC;rw [show P.length-2=k by omega])
   go_wp2
   go_ret
   exact ⟨by rw [←HR.out];rfl,hbr⟩
theorem ZE (v:Value) (P:List QP) (hP:Poly P) (h60:P.length≤60) (hz:∀ p∈P,qg 402 p) (hA:∀ k,k+2≤P.length→Sz 900000000 (iT P k)) (hok:om (jC P)) (w:World) (hw:Good w) (hv:qh w v P) :
  Calls Tryz.prog 63 #[v] w (RV (.tuple #[.string (tx (jC P)),.int .i64 0]) w):=by
 have h3:=hP.1.1
 have HC:=hid (Qm v P h3 h60 hz w hw hv)
 rw [MK hP] at HC
 have HD:=hid (fun w' (hg:Good w') (hp:qh w' v P)=>Nf v P (by omega) (by omega) (fun p hp=>(hz p hp).sm) hA w' hg hp)
 have HN:=hid (fun w' (hg:Good w')=>Qk (jC P) hok w' hg)
 unfold RV at HC HD HN
 have HV:=hid hv
 clear hz hv hA hok hP
 generalize tx (jC P)=t at *
 go_enter Tryz.func63,Tryz.ntmps63
 go_wp2_with fail
 refine HC.out.mono ?_
 rintro e w1 ⟨rfl,hb1⟩
 go_wp2_with fail
 refine (HD.out _ (hw.below hb1) (HV.out.below hb1)).mono ?_
 rintro e w2 ⟨rfl,h2⟩
 have hb2:=hb1.trans (h2.mono hb1.size)
 go_wp2_with fail
 refine (HN.out _ (hw.below hb2)).mono ?_
 rintro e w3 ⟨rfl,h3⟩
 have hb3:=hb2.trans (h3.mono hb2.size)
 go_wp2
 go_ret2
 exact ⟨rfl,hb3⟩
end Go.Proofs.YtglncfkoohgdaaaGreatDoor
