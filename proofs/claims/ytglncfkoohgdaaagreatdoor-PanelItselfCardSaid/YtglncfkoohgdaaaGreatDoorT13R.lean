import Derived.Test.YtglncfkoohgdaaaGreatDoorT5R
import Derived.Lib.SliceRun
import Derived.Laws.IdiomCopy
import Derived.BigQuiet
set_option maxRecDepth 100000
set_option maxHeartbeats 8000000
namespace Go.Proofs.YtglncfkoohgdaaaGreatDoor
open Go.RowKit Go.Shelf
open Go.Lib (decDigits itoa nDigits)
open Go.Lib (hid)
def iC (L:List QP):Nat→List QP
 | 0=>[]
 | t+1=>if 0<t∧pt L t=pt L (t-1) then iC L t else iC L t ++ [pt L t]
theorem KE (L:List QP):∀ t,(iC L t).length≤t
 | 0=>Nat.le_refl _
 | t+1=>by
  have:=KE L t
  unfold iC
  split
  ·omega
  ·rw [List.length_append,List.length_singleton];omega
theorem oH {L:List QP} {t:Nat} (h0:0<t) (h:pt L t=pt L (t-1)):iC L (t+1)=iC L t:=by
 show (if 0<t∧pt L t=pt L (t-1) then _ else _)=_
 rw [if_pos ⟨h0,h⟩]
theorem rQ {L:List QP} {t:Nat} (h:t=0∨pt L t≠pt L (t-1)):iC L (t+1)=iC L t ++ [pt L t]:=by
 show (if 0<t∧pt L t=pt L (t-1) then _ else _)=_
 rw [if_neg]
 rintro ⟨h0,h1⟩
 rcases h with h | h
 ·omega
 ·exact h h1
theorem tF {L:List QP}:∀ k,k≤L.length→(∀ j,0<j→j<k→pt L j≠pt L (j-1))→iC L k=L.take k
 | 0,_,_=>by simp [iC]
 | k+1,hk,h=>by
  have ih:=tF k (by omega) (fun j h0 h1=>h j h0 (by omega))
  rw [rQ (by rcases Nat.eq_zero_or_pos k with e | e;exact .inl e;exact .inr (h k e (by omega))),ih,List.take_succ_eq_append_getElem (by omega),cO (by omega)]
structure oI (L B:List QP) (k t:Nat):Prop where
 len:B.length=L.length
 t0:0<t
 tl:t≤L.length
 kt:k+1≤t
 kl:k=(iC L t).length
 front:∀ i,i<k→pt B i=pt (iC L t) i
 back:∀ i,t-1≤i→i<L.length→pt B i=pt L i
theorem Nf {B:List QP} {k i:Nat} {p:QP} (hi:i<B.length):pt (B.set k p) i=if k=i then p else pt B i:=by
 rw [cO (by simpa using hi),List.getElem_set,cO hi]
theorem ny {A:List QP} {p:QP} {i:Nat} (h:i<A.length):pt (A ++ [p]) i=pt A i:=by rw [cO (by simp;omega),cO h,List.getElem_append_left h]
theorem rR {A:List QP} {p:QP}:pt (A ++ [p]) A.length=p:=by rw [cO (by simp),List.getElem_append_right (Nat.le_refl _)];simp
theorem oI.skip {L B:List QP} {k t:Nat} (h:oI L B k t) (ht:t<L.length) (e:pt L t=pt L (t-1)):oI L B k (t+1) where
 len:=h.len
 t0:=Nat.succ_pos _
 tl:=ht
 kt:=by have:=h.kt;omega
 kl:=by rw [oH h.t0 e];exact h.kl
 front:=fun i hi=>by rw [oH h.t0 e];exact h.front i hi
 back:=fun i h1 h2=>h.back i (by omega) h2
theorem oI.keep {L B:List QP} {k t:Nat} (h:oI L B k t) (ht:t<L.length) (e:pt L t≠pt L (t-1)):oI L (B.set k (pt L t)) (k+1) (t+1) where
 len:=by rw [List.length_set];exact h.len
 t0:=Nat.succ_pos _
 tl:=ht
 kt:=by have:=h.kt;omega
 kl:=by rw [rQ (.inr e),List.length_append,List.length_singleton,←h.kl]
 front:=fun i hi=>by
  have hk:=h.kt
  have hl:=h.len
  rw [Nf (by omega),rQ (.inr e)]
  by_cases h1:k=i
  ·rw [if_pos h1,←h1,h.kl,rR]
  ·rw [if_neg h1,h.front i (by omega),ny (by rw [←h.kl];omega)]
 back:=fun i h1 h2=>by
  have hk:=h.kt
  have hl:=h.len
  rw [Nf (by omega),if_neg (by omega)]
  exact h.back i (by omega) h2
theorem oI.start {L:List QP} {k:Nat} (h0:0<k) (hk:k<L.length) (h:∀ j,0<j→j<k→pt L j≠pt L (j-1)) (e:pt L k=pt L (k-1)):oI L L k (k+1):=by
 have e1:iC L (k+1)=L.take k:=by rw [oH h0 e,tF k (by omega) h]
 refine ⟨rfl,Nat.succ_pos _,hk,Nat.le_refl _,by rw [e1,List.length_take];omega,fun i hi=>?_,fun _ _ _=>rfl⟩
 rw [e1,cO (by omega),cO (by rw [List.length_take];omega),List.getElem_take]
theorem gL.same {w w':World} {g:Nat} {L:List QP} (h:gL w g L) (e:w'.heap[g]?=w.heap[g]?):gL w' g L:=by
 intro i hi
 obtain ⟨h1,h2,h3,h4⟩:=h i hi
 unfold World.cell? World.frozen? at *
 simp only [e]
 exact ⟨h1,h2,h3,h4⟩
theorem gL.below {w w':World} {g:Nat} {L:List QP} (h:gL w g L) (hg:g<w.heap.size) (hb:Below w.heap.size w w'):gL w' g L:=h.same (hb.block g hg)
theorem tH {g a b:Nat} (h:a≠b):(⟨g,a,none⟩ : Addr)≠⟨g,b,none⟩:=by intro e;simp only [Addr.mk.injEq] at e;exact h e.2.1
theorem gL.put {w:World} {g k:Nat} {L:List QP} (h:gL w g L) (p:QP) (hk:k<L.length):gL ((w.setCell ⟨g,k*2,none⟩ (.string (tx p.1))).setCell ⟨g,k*2+1,none⟩ (.string (tx p.2))) g (L.set k p):=by
 intro i hi
 have hi':i<L.length:=by simpa using hi
 obtain ⟨h1,h2,h3,h4⟩:=h i hi'
 obtain ⟨k1,k2,_,_⟩:=h k hk
 rw [Nf hi',World.frozen?_setCell,World.frozen?_setCell,World.frozen?_setCell,World.frozen?_setCell]
 by_cases e:k=i
 ·subst e
  rw [if_pos rfl]
  refine ⟨?_,?_,h3,h4⟩
  ·rw [World.cell?_setCell_other (h:=tH (by omega)),World.cell?_setCell_same (h:=k1)]
  ·have hk2:(w.setCell ⟨g,k*2,none⟩ (.string (tx p.1))).cell? ⟨g,k*2+1,none⟩=some (.string (tx (pt L k).2)):=by
    rw [World.cell?_setCell_other (h:=tH (by omega))];exact k2
   exact World.cell?_setCell_same _ _ _ hk2
 ·rw [if_neg e]
  refine ⟨?_,?_,h3,h4⟩
  ·rw [World.cell?_setCell_other (h:=tH (by omega)),World.cell?_setCell_other (h:=tH (by omega))];exact h1
  ·rw [World.cell?_setCell_other (h:=tH (by omega)),World.cell?_setCell_other (h:=tH (by omega))];exact h2
theorem FJ (n:Nat):(Builtin.zeroCells #[Value.string ⟨#[]⟩,.string ⟨#[]⟩] n).toList.length=n*2:=by simp [Builtin.zeroCells]
theorem QU (n:Nat):∀ v∈(Builtin.zeroCells #[Value.string ⟨#[]⟩,.string ⟨#[]⟩] n).toList,v.oneCell'=true:=by
 intro v hv
 simp only [Builtin.zeroCells,Array.toList_map,List.mem_map] at hv
 obtain ⟨i,_,rfl⟩:=hv
 rcases (show i % 2=0∨i % 2=1 by omega) with e | e <;> simp [e,Value.oneCell']
theorem Ez (w:World) (ty:TypeId) (b o n c:Nat) (hn:0<n) (hc:∀ j,j<n*2→(w.cell? ⟨b,o+j,none⟩).isSome=true) (hf:∀ j,j<n*2→w.frozen? ⟨b,o+j,none⟩=false) :
  (Builtin.clear_ #[44] ty #[.slice (some ⟨b,o,none⟩) n c]).run Tryz.prog w=.ok (.tuple #[]) (w.setCells b o (Builtin.zeroCells #[Value.string ⟨#[]⟩,.string ⟨#[]⟩] n).toList):=by
 have hst:=run_storeCells_cells (P:=Tryz.prog) b o (Builtin.zeroCells #[Value.string ⟨#[]⟩,.string ⟨#[]⟩] n).toList 0 w (by rw [FJ];simpa using hc) (by rw [FJ];simpa using hf) (QU n)
 simp only [Nat.add_zero] at hst
 obtain ⟨m,rfl⟩ : ∃ m,n=m+1:=⟨n-1,by omega⟩
 simp [Builtin.clear_,run_underlying Tryz.underlying44,Tryz.zeroValue113,Value.cells,hst]
theorem below_setCells {B:Nat} {a w:World} {g o:Nat} {vs:List Value} (h:Below B a w) (hg:B≤g):Below B a (w.setCells g o vs):=by
 induction vs generalizing w o with
 | nil=>exact h
 | cons v vs ih=>exact ih (h.setCell (p:=⟨g,o,none⟩) hg v)
def KF (g cap:Nat) (L:List QP) (w:World) (e:Ending) (w':World):Prop:=
 e=.returned (.slice (some ⟨g,0,none⟩) (iC L L.length).length cap)∧gL w' g (iC L L.length)∧Below g w w'
theorem KG (g cap:Nat) (L:List QP) (hsz:L.length≤1000000) (hcap:L.length≤cap) (hcm:cap≤maxLen) (w:World) (hg:g<w.heap.size) (hH:gL w g L) :
  Calls Tryz.prog 116 #[.slice (some ⟨g,0,none⟩) L.length cap] w (KF g cap L w):=by
 unfold maxLen at hcm
 have HH:=hid hH
 have hguard:=UX
 have hbw:=Below.refl w.heap.size w
 clear hH
 by_cases h2:L.length<2
 ·have n1:decide ((L.length:Int)<2)=true:=decide_eq_true (by omega)
  have HE:=hid (show iC L L.length=L from (tF L.length (Nat.le_refl _) (fun j h0 h1=>by omega)).trans (List.take_length))
  go_enter Tryz.func116,Tryz.ntmps116
  go_wp2
  go_ret
  exact ⟨by rw [HE.out];rfl,by rw [HE.out];exact HH.out,Below.refl _ _⟩
 ·have n1:decide ((L.length:Int)<2)=false:=decide_eq_false (by omega)
  go_enter Tryz.func116,Tryz.ntmps116
  go_wp2_with fail
  go_loopw [3] (fun iv wr=>∃ i:Nat,i+1≤L.length∧iv=.int .i64 ((i+1:Nat):Int)∧(∀ j,0<j→j<i+1→pt L j≠pt L (j-1))∧Below w.heap.size w wr) (fun iv _=>L.length-(intOf iv).toNat)
  case atStart=>exact ⟨0,by omega,rfl,fun j h0 h1=>by omega,hbw⟩
  case round =>
   obtain ⟨i,hil,rfl,hNE,hbr⟩:=hrel
   have tQ:=hid hNE
   have HHr:=hid (HH.out.below hg hbr)
   clear hNE
   by_cases hk:i+1<L.length
   ·have hkn:decide ((i:Int)+1<(L.length:Int))=true:=decide_eq_true (by omega)
    have m1:IntKind.i64.wrap ((i:Int)+1-1)=(i:Int):=IntWalk.i64_in _ (by omega) |>.trans (by omega)
    have m2:IntKind.i64.wrap (i:Int)=(i:Int):=IntWalk.i64_in _ (by omega)
    have m3:(0:Int)≤(i:Int):=by omega
    have m4:(i:Int)<(L.length:Int):=by omega
    have m5:(i:Int)+1<(L.length:Int):=by omega
    have m6:(0:Int)≤(i:Int)+1:=by omega
    have m7:((i:Int)+1).toNat=i+1:=by omega
    have m8:i<L.length:=by omega
    obtain ⟨c0,c1,_,_⟩:=HHr.out (i+1) hk
    obtain ⟨d0,d1,_,_⟩:=HHr.out i (by omega)
    have heq:=acD (pt L (i+1)) (pt L i)
    by_cases he:pt L (i+1)=pt L i
    ·rw [decide_eq_true he] at heq
     have UZ:=hid (show oI L L (i+1) (i+2) from oI.start (Nat.succ_pos _) hk tQ.out he)
     clear he
     generalize tx (pt L (i+1)).1=x1 at *
     generalize tx (pt L (i+1)).2=x2 at *
     generalize tx (pt L i).1=y1 at *
     generalize tx (pt L i).2=y2 at *
     go_wp2_with fail
     go_quiet (fail)
     go_wp2_with fail
     obtain ⟨w2,hw2⟩ : ∃ w2,w2=wr.drewN nq:=⟨_,rfl⟩
     have hb2:Below w.heap.size w w2:=by rw [hw2];exact hbr.trans ((below_drewN wr _).mono hbr.size)
     have HH2:=hid (HH.out.below hg hb2)
     have aeg:=hb2.mono (Nat.le_of_lt hg)
     rw [←hw2]
     clear hw2 c0 c1 d0 d1 HHr hb2 m1 m2 m3 m4 m5 m6 m7 heq hkn tQ
     go_loopw [3,5] (fun kv jv wr=>∃ (k j:Nat) (B:List QP),kv=.int .i64 (k:Int)∧jv=.int .i64 ((j+1:Nat):Int)∧oI L B k (i+j+2)∧gL wr g B∧Below g w wr) (fun _ jv _=>L.length-(intOf jv).toNat)
     case atStart=>exact ⟨i+1,0,L,rfl,rfl,UZ.out,HH2.out,aeg⟩
     case round =>
      clear aeg UZ HH2 hbr
      obtain ⟨k,j,B,rfl,rfl,hC,hHB,hbr⟩:=hrel
      have HC:=hid hC
      have HB:=hid hHB
      have hkt:=hC.kt
      have htl:=hC.tl
      have hBl:=hC.len
      clear hC hHB
      by_cases hj:j+1<L.length-(i+1)
      ·have hjn:decide ((j:Int)+1<((L.length-(i+1):Nat):Int))=true:=decide_eq_true (by omega)
       have m1:IntKind.i64.wrap ((j:Int)+1-1)=(j:Int):=IntWalk.i64_in _ (by omega) |>.trans (by omega)
       have m2:IntKind.i64.wrap (j:Int)=(j:Int):=IntWalk.i64_in _ (by omega)
       have m3:(0:Int)≤(j:Int):=by omega
       have m4:(j:Int)<((L.length-(i+1):Nat):Int):=by omega
       have m5:(j:Int)+1<((L.length-(i+1):Nat):Int):=by omega
       have m6:(0:Int)≤(j:Int)+1:=by omega
       have m7:((j:Int)+1).toNat=j+1:=by omega
       have m8:j<L.length-(i+1):=by omega
       have m9:(0:Int)≤(k:Int):=by omega
       have m10:(k:Int)<(L.length:Int):=by omega
       have m11:k<L.length:=by omega
       obtain ⟨c0,c1,_,_⟩:=HB.out (i+j+2) (by omega)
       obtain ⟨d0,d1,_,_⟩:=HB.out (i+j+1) (by omega)
       rw [HC.out.back (i+j+2) (by omega) (by omega)] at c0 c1
       rw [HC.out.back (i+j+1) (by omega) (by omega)] at d0 d1
       rw [show (i+j+2)*2=(i+1)*2+(j+1)*2 by omega] at c0 c1
       rw [show (i+j+1)*2=(i+1)*2+j*2 by omega] at d0 d1
       have hneq:=acE (pt L (i+j+2)) (pt L (i+j+1))
       by_cases he:pt L (i+j+2)=pt L (i+j+1)
       ·rw [decide_eq_true he] at hneq
        have HN:=hid (show oI L B k (i+(j+1)+2) from HC.out.skip (show i+j+2<L.length by omega) he)
        clear he
        generalize tx (pt L (i+j+2)).1=x1 at *
        generalize tx (pt L (i+j+2)).2=x2 at *
        generalize tx (pt L (i+j+1)).1=y1 at *
        generalize tx (pt L (i+j+1)).2=y2 at *
        go_wp2_with fail
        go_quiet (fail)
        go_wp2
        refine ⟨⟨k,j+1,B,rfl,by simp,HN.out,HB.out.same rfl,hbr.trans ((below_drewN wr _).mono (Nat.le_trans (Nat.le_of_lt hg) hbr.size))⟩,?_⟩
        show L.length-((j:Int)+1+1).toNat<L.length-((j:Int)+1).toNat
        omega
       ·rw [decide_eq_false he] at hneq
        have HN:=hid (show oI L (B.set k (pt L (i+j+2))) (k+1) (i+(j+1)+2) from HC.out.keep (show i+j+2<L.length by omega) he)
        obtain ⟨z,hz⟩ : ∃ z,z=pt L (i+j+2):=⟨_,rfl⟩
        have UH:=hid (fun n=>(show gL (wr.drewN n) g B from HB.out.same rfl).put z (show k<B.length by omega))
        have qA:=hid (fun n=>((hbr.trans ((below_drewN wr n).mono (Nat.le_trans (Nat.le_of_lt hg) hbr.size))).setCell (p:=⟨g,k*2,none⟩) (Nat.le_refl _) (.string (tx z.1))).setCell (p:=⟨g,k*2+1,none⟩) (Nat.le_refl _) (.string (tx z.2)))
        obtain ⟨e0,e1,e2,e3⟩:=HB.out k (by omega)
        rw [←hz] at c0 c1 hneq HN
        clear he hz
        generalize tx z.1=x1 at *
        generalize tx z.2=x2 at *
        generalize tx (pt L (i+j+1)).1=y1 at *
        generalize tx (pt L (i+j+1)).2=y2 at *
        generalize tx (pt B k).1=v1 at *
        generalize tx (pt B k).2=v2 at *
        go_wp2_with fail
        go_quiet (fail)
        go_wp2
        refine ⟨⟨k+1,j+1,_,by simp,by simp,HN.out,UH.out _,qA.out _⟩,?_⟩
        show L.length-((j:Int)+1+1).toNat<L.length-((j:Int)+1).toNat
        omega
      ·have hjn:decide ((j:Int)+1<((L.length-(i+1):Nat):Int))=false:=decide_eq_false (by omega)
       have hte:i+j+2=L.length:=by omega
       have hcl:=fun ty=>Ez wr ty g (k*2) (L.length-k) (cap-k) (by omega) (fun t ht=>by
        obtain ⟨q0,q1,_,_⟩:=HB.out (k+t/2) (by omega)
        rcases (show t % 2=0∨t % 2=1 by omega) with e | e
        ·rw [show k*2+t=(k+t/2)*2 by omega,q0];rfl
        ·rw [show k*2+t=(k+t/2)*2+1 by omega,q1];rfl) (fun t ht=>by
        obtain ⟨_,_,q2,q3⟩:=HB.out (k+t/2) (by omega)
        rcases (show t % 2=0∨t % 2=1 by omega) with e | e
        ·rw [show k*2+t=(k+t/2)*2 by omega];exact q2
        ·rw [show k*2+t=(k+t/2)*2+1 by omega];exact q3)
       have hkl:=HC.out.kl
       rw [hte] at hkl
       obtain ⟨vs,hvs⟩ : ∃ vs,vs=(Builtin.zeroCells #[Value.string ⟨#[]⟩,.string ⟨#[]⟩] (L.length-k)).toList:=⟨_,rfl⟩
       rw [←hvs] at hcl
       have ZA:=hid (show gL (wr.setCells g (k*2) vs) g (iC L L.length) from fun t ht=>by
        obtain ⟨q0,q1,q2,q3⟩:=HB.out t (by omega)
        have hf:=HC.out.front t (by omega)
        rw [hte] at hf
        rw [hf] at q0 q1
        rw [World.frozen?_setCells,World.frozen?_setCells,World.cell?_setCells_out _ _ _ _ _ (fun _ _=>.inl (by show t*2<k*2;omega)),World.cell?_setCells_out _ _ _ _ _ (fun _ _=>.inl (by show t*2+1<k*2;omega))]
        exact ⟨q0,q1,q2,q3⟩)
       have QV:=hid (below_setCells (o:=k*2) (vs:=vs) hbr (Nat.le_refl g))
       have HKL:=hid hkl
       have m9:(0:Int)≤(k:Int):=by omega
       have m10:(k:Int)≤(L.length:Int):=by omega
       have m11:k≤L.length:=by omega
       have m12:¬ cap=k:=by omega
       have m13:k≤cap:=by omega
       have m14:(k:Int)≤(cap:Int):=by omega
       clear hvs hkl hte
       go_wp2
       go_ret
       exact ⟨by rw [←HKL.out];rfl,ZA.out,QV.out⟩
    ·rw [decide_eq_false he] at heq
     have HN:=hid (show ∀ j,0<j→j<i+1+1→pt L j≠pt L (j-1) from fun j h0 h1=>by
      rcases (show j<i+1∨j=i+1 by omega) with e | e
      ·exact tQ.out j h0 e
      ·rw [e];exact he)
     clear he
     generalize tx (pt L (i+1)).1=x1 at *
     generalize tx (pt L (i+1)).2=x2 at *
     generalize tx (pt L i).1=y1 at *
     generalize tx (pt L i).2=y2 at *
     go_wp2_with fail
     go_quiet (fail)
     go_wp2
     refine ⟨⟨i+1,hk,by simp,HN.out,hbr.trans ((below_drewN wr _).mono hbr.size)⟩,?_⟩
     show L.length-((i:Int)+1+1).toNat<L.length-((i:Int)+1).toNat
     omega
   ·have hkn:decide ((i:Int)+1<(L.length:Int))=false:=decide_eq_false (by omega)
    have HE:=hid (show iC L L.length=L from (tF L.length (Nat.le_refl _) (fun j h0 h1=>tQ.out j h0 (by omega))).trans (List.take_length))
    go_wp2
    go_ret
    exact ⟨by rw [HE.out];rfl,by rw [HE.out];exact HHr.out,hbr.mono (Nat.le_of_lt hg)⟩
theorem Em.congr {e:QP} {S S' O:List QP} (h:Em e S O) (hm:∀ p,p∈S↔p∈S'):Em e S' O where
 ne:=h.ne
 mem:=fun p hp=>(hm p).1 (h.mem p hp)
 low:=fun p hp=>h.low p ((hm p).2 hp)
 top:=fun p hp=>h.top p ((hm p).2 hp)
 I6:=h.I6
 nx:=fun i hi=>(h.nx i hi).congr (fun p hp=>(hm p).2 hp)
theorem KH {L:List QP}:∀ t,t≤L.length→∀ p,p∈iC L t↔p∈L.take t
 | 0,_,p=>by simp [iC]
 | t+1,ht,p=>by
  have ih:=KH (L:=L) t (by omega) p
  have e1:L.take (t+1)=L.take t ++ [pt L t]:=by rw [List.take_succ_eq_append_getElem (show t<L.length by omega),cO (show t<L.length by omega)]
  rw [e1,List.mem_append,List.mem_singleton,←ih]
  by_cases h:0<t∧pt L t=pt L (t-1)
  ·rw [oH h.1 h.2]
   constructor
   ·exact .inl
   ·rintro (h1 | h1)
    ·exact h1
    ·rw [ih,h1,h.2,cO (show t-1<L.length by omega)]
     have hl:t-1<(L.take t).length:=by rw [List.length_take];omega
     have e2:(L.take t)[t-1]'hl=L[t-1]'(by omega):=List.getElem_take ..
     rw [←e2]
     exact List.getElem_mem hl
  ·rw [rQ (by rcases Nat.eq_zero_or_pos t with e | e;exact .inl e;exact .inr (fun h2=>h ⟨e,h2⟩)),List.mem_append,List.mem_singleton]
theorem KI {L:List QP} (hs:∀ i j,i<j→j<L.length→¬ eB (pt L j) (pt L i)):∀ t,t≤L.length →
  (∀ i j,i<j→j<(iC L t).length→eB (pt (iC L t) i) (pt (iC L t) j))∧(0<t→pt (iC L t) ((iC L t).length-1)=pt L (t-1))
 | 0,_=>⟨fun i j _ hj=>by simp [iC] at hj,fun h=>absurd h (Nat.lt_irrefl _)⟩
 | t+1,ht=>by
  obtain ⟨ih1,ih2⟩:=KI hs t (by omega)
  by_cases h:0<t∧pt L t=pt L (t-1)
  ·rw [oH h.1 h.2]
   exact ⟨ih1,fun _=>by rw [ih2 h.1,Nat.add_sub_cancel,h.2]⟩
  ·have hn:t=0∨pt L t≠pt L (t-1):=by
    rcases Nat.eq_zero_or_pos t with e | e
    ·exact .inl e
    ·exact .inr (fun h2=>h ⟨e,h2⟩)
   rw [rQ hn]
   refine ⟨fun i j hij hj=>?_,fun _=>by rw [List.length_append,List.length_singleton,Nat.add_sub_cancel,rR,Nat.add_sub_cancel]⟩
   rw [List.length_append,List.length_singleton] at hj
   rcases (show j<(iC L t).length∨j=(iC L t).length by omega) with h1 | h1
   ·rw [ny h1,ny (by omega)];exact ih1 i j hij h1
   ·subst h1
    rw [rR,ny hij]
    have ht0:0<t:=by
     rcases Nat.eq_zero_or_pos t with e | e
     ·subst e;simp [iC] at hij
     ·exact e
    have hne:=hn.resolve_left (by omega)
    have hl:eB (pt L (t-1)) (pt L t):=by
     rcases vw hne with h2 | h2
     ·exact absurd h2 (hs (t-1) t (by omega) (by omega))
     ·exact h2
    rcases (show i=(iC L t).length-1∨i<(iC L t).length-1 by omega) with h2 | h2
    ·rw [h2,ih2 ht0];exact hl
    ·have:=ih1 i ((iC L t).length-1) h2 (by omega)
     rw [ih2 ht0] at this
     exact pJ this hl
theorem U0 {C:List QP} {i:Nat} (hi:i<C.length):pt C.reverse i=pt C (C.length-1-i):=by
 rw [cO (by simpa using hi),cO (by omega),List.getElem_reverse]
theorem Ng {w w':World} {base g n size:Nat} {e:TypeId} {v:Value} {xs:List Value} (h:w.ownsRow base e size v n xs) (hg:g<base) (hs:∀ k,k≠g→w'.heap[k]?=w.heap[k]?):w'.ownsRow base e size v n xs:=by
 refine ⟨h.1,?_⟩
 rcases h.2 with h1 | ⟨g',cap,cur,h1,h2,h3,h4⟩
 ·exact .inl h1
 ·exact .inr ⟨g',cap,cur,h1,h2,by rw [hs g' (by omega)];exact h3,h4⟩
def QW (L:List QP) (w:World) (e:Ending) (w':World):Prop:=
 ((e=.returned (.tuple #[.slice none 0 0,.int .i64 13])∧∀ P,ji L P→P.length<3)∨(∃ r P,e=.returned (.tuple #[r,.int .i64 0])∧ji L P∧3≤P.length∧(qp w' r P∧M3 w' r)))∧Below w.heap.size w w'
theorem U1 {L C P:List QP} (hm:∀ p,p∈C↔p∈L) (hc:C.length<3) (h:ji L P):P.length<3:=by
 have:=yG P C h.toPart.nodup (fun p hp=>(hm p).2 (h.mem p hp))
 omega
theorem ji.first {L P:List QP} (h:ji L P) (h3:3≤P.length) {t:Nat} (ht:iK P t):JZ P t=P:=by
 have hp:=h.poly h3
 have:t=0:=iK.unique hp.1 ht hp.least
 subst this
 simp [JZ]
theorem aab (v:Value) (L:List QP) (h0:0<L.length) (hn:L.length≤60) (hz:∀ p∈L,rf 402 p) (w:World) (hw:Good w) (hv:qp w v L) :
  Calls Tryz.prog 51 #[v] w (QW L w):=by
 have hz2:=hz
 have Mi:=hid hz2
 have YP:=hid (fun i (hi:i<L.length) w' (hg:Good w')=>yI (pt L i) (hz _ (bV hi)) w' hg)
 unfold RV at YP
 obtain ⟨p,c,rfl,hcl,hcm⟩:=hv.slice
 unfold maxLen at hcm
 obtain ⟨B,off,rfl,hbl,hcell⟩:=qp.cells hv h0
 have Cw:=hid (fun i (hi:i<L.length) wx (h:Below w.heap.size w wx)=>And.intro ((h.cell (p:=⟨B,off+i*2,none⟩) hbl).trans (hcell i hi).1) ((h.cell (p:=⟨B,off+i*2+1,none⟩) hbl).trans (hcell i hi).2))
 have ZZ:=hid (fun wx (h:Below w.heap.size w wx) i (hi:i<(L.map aR).length)=>show wx.cell? ⟨B,off+i*2,none⟩=some (.string (L.map aR)[i].1)∧wx.cell? ⟨B,off+i*2+1,none⟩=some (.string (L.map aR)[i].2) by
  have hi':i<L.length:=by simpa using hi
  have:=Cw.out i hi' wx h
  rw [cO hi'] at this
  simpa [aR] using this)
 have hbw:=Below.refl w.heap.size w
 have q1:decide ((L.length:Int)>200)=false:=decide_eq_false (by omega)
 have q2:decide ((200:Int)<(L.length:Int))=false:=decide_eq_false (by omega)
 have hbig:=hw.big
 clear hz hv hcell hz2
 go_enter Tryz.func51,Tryz.ntmps51
 go_wp2_with fail
 go_loopw [14] (fun iv wr=>∃ k:Nat,k≤L.length∧iv=.int .i64 (k:Int)∧Below w.heap.size w wr) (fun iv _=>L.length-(intOf iv).toNat)
 case atStart=>exact ⟨0,Nat.zero_le _,rfl,hbw⟩
 case round =>
  obtain ⟨k,hkl,rfl,hbr⟩:=hrel
  by_cases hk:k<L.length
  ·have hkn:decide ((k:Int)<(L.length:Int))=true:=decide_eq_true (by omega)
   have i1:(0:Int)≤(k:Int):=by omega
   have i2:(k:Int)<(L.length:Int):=by omega
   obtain ⟨c0,c1⟩:=Cw.out k hk wr hbr
   have H1:=hid (YP.out k hk)
   generalize tx (pt L k).1=p1 at *
   generalize tx (pt L k).2=p2 at *
   go_upto_region 6 with fail
   obtain ⟨wC,pM⟩ : ∃ wC,wC=wr.alloc (Obj.cells #[.string p1,.string p2] 113):=⟨_,rfl⟩
   obtain ⟨iw,Eo,g0,g1⟩:=mY pM
   rw [←pM]
   clear pM
   have hbC:=hbr.trans (iw.mono hbr.size)
   go_wp2_with fail
   refine (H1.out _ (hw.below hbC)).mono ?_
   rintro e w1 ⟨rfl,hb1⟩
   go_wp2
   refine ⟨⟨k+1,hk,aA k,hbC.trans (hb1.mono hbC.size)⟩,?_⟩
   show L.length-((k:Int)+1).toNat<L.length-((k:Int)).toNat
   omega
  ·have hkn:decide ((k:Int)<(L.length:Int))=false:=decide_eq_false (by omega)
   have aeh:=hid (QT B off c L wr (by omega) (ZZ.out wr hbr))
   have hgr:=hw.below hbr
   clear YP
   go_wp2_with fail
   refine aeh.out.mono ?_
   rintro e w2 ⟨g,cap,rfl,hc1,hc2,hg1,hg2,hH2,hb2⟩
   have hbw2:=hbr.trans (hb2.mono hbr.size)
   have hwg:w.heap.size≤g:=Nat.le_trans hbr.size hg1
   have HSO:=hid (UW g cap L (fun p hp=>(Mi.out p hp).sm) w2 (hw.below hbw2) (by omega) hg2 hH2 (by omega))
   clear hH2
   go_wp2_with fail
   refine HSO.out.mono ?_
   rintro e w3 ⟨rfl,M,hperm,hsrt,hH3,hb3⟩
   have hMl:M.length=L.length:=hperm.length_eq
   have hg3:=Nat.lt_of_lt_of_le hg2 hb3.size
   have Kh:=hid (KG g cap M (by omega) (by omega) hc2 w3 hg3 hH3)
   rw [hMl] at Kh
   have agb:=hbw2.trans (hb3.mono hwg)
   have U2:=hid hsrt
   have abt:=hid hperm
   unfold KF at Kh
   clear hH3 hperm hsrt
   go_wp2_with fail
   refine Kh.out.mono ?_
   rintro e w4 ⟨rfl,hH4,hb4⟩
   obtain ⟨C,hCe⟩ : ∃ C,C=iC M M.length:=⟨_,rfl⟩
   rw [←hCe] at hH4
   rw [←hCe]
   have hmC:∀ p,p∈C↔p∈L:=fun p=>by
    rw [hCe,KH M.length (Nat.le_refl _) p,List.take_length]
    exact abt.out.mem_iff
   have aei:∀ i j,i<j→j<C.length→eB (pt C i) (pt C j):=by
    rw [hCe];exact (KI U2.out M.length (Nat.le_refl _)).1
   have hCl:C.length≤L.length:=by rw [hCe,←hMl];exact KE _ _
   have hCs:∀ p∈C,rf 402 p:=fun p hp=>Mi.out p ((hmC p).1 hp)
   have hs4:=hb4.size
   have hg4:g<w4.heap.size:=Nat.lt_of_lt_of_le hg3 hs4
   have U3:=agb.trans (hb4.mono hwg)
   have HMC:=hid hmC
   have acF:=hid aei
   have CB:=hid hCs
   have HH4:=hid hH4
   clear hCe hmC aei hCs hH4 U2 abt HSO Kh aeh
   by_cases hC3:C.length<3
   ·have n1:decide ((C.length:Int)<3)=true:=decide_eq_true (by omega)
    have acG:=hid (fun P (h:ji L P)=>U1 HMC.out hC3 h)
    go_wp2
    go_ret2
    exact ⟨.inl ⟨rfl,acG.out⟩,U3⟩
   ·have n1:decide ((C.length:Int)<3)=false:=decide_eq_false (by omega)
    have acH:=hid (KD (0,-1) (.slice (some ⟨g,0,none⟩) C.length cap) C (by omega) (by omega) (fun p hp=>(CB.out p hp).sm) (fun i j hij hj=>xq.2 (acF.out i j hij hj)) w4 (hw.below U3) (FI HH4.out rfl (by omega) hc2 hg4))
    unfold yR at acH
    go_wp2_with fail
    refine acH.out.mono ?_
    rintro e w5 ⟨r1,O1,rfl,hO1,hown1,hb5⟩
    have hg5:=Nat.lt_of_lt_of_le hg4 hb5.size
    have agc:=U3.trans (hb5.mono U3.size)
    have HRV:=hid (aaa g cap C (fun p hp=>(CB.out p hp).sm) w5 hg5 (HH4.out.below hg4 hb5) (by omega))
    have HO1:=hid hO1
    have abu:=hid hown1
    clear hO1 hown1 acH
    go_wp2_with fail
    refine HRV.out.mono ?_
    rintro e w6 ⟨rfl,hH6,hoth,hb6⟩
    have abv:=hid (Ng abu.out hg4 hoth)
    have hg6:=Nat.lt_of_lt_of_le hg5 hb6.size
    have QX:=agc.trans (hb6.mono hwg)
    have hrl:C.reverse.length=C.length:=List.length_reverse
    have acI:=hid (KD (0,1) (.slice (some ⟨g,0,none⟩) C.length cap) C.reverse (by omega) (by omega) (fun p hp=>(CB.out p (List.mem_reverse.1 hp)).sm) (fun i j hij hj=>by
     rw [hrl] at hj
     rw [yH,U0 (by omega),U0 (by omega)]
     exact acF.out _ _ (by omega) (by omega)) w6 (hw.below QX) (FI hH6 hrl.symm (by omega) hc2 hg6))
    unfold yR at acI
    clear hoth hH6 HRV abu
    go_wp2_with fail
    refine acI.out.mono ?_
    rintro e w7 ⟨r2,O2,rfl,hO2,hown2,Db⟩
    have agd:=QX.trans (Db.mono QX.size)
    have hne:pt C 0≠pt C 1:=fun h=>by
     have:=acF.out 0 1 (by decide) (by omega)
     rw [h] at this;exact jY this
    have acJ:Em (0,1) C O2:=hO2.congr (fun p=>List.mem_reverse)
    have l1:=HO1.out.two (bV (show 0<C.length by omega)) (bV (show 1<C.length by omega)) hne
    have l2:=acJ.two (bV (show 0<C.length by omega)) (bV (show 1<C.length by omega)) hne
    have hWC:=En HO1.out acJ (bV (show 0<C.length by omega)) (bV (show 1<C.length by omega)) hne
    have hWL:=hWC.congr HMC.out
    have hol:(O1.dropLast++O2.dropLast).length=(O1.length-1)+(O2.length-1):=by rw [List.length_append,List.length_dropLast,List.length_dropLast]
    have hole:=hWL.toPart.len
    have Ad:=di abv.out Db
    obtain ⟨m1,hm1⟩ : ∃ m1,O1.length-1=m1+1:=⟨O1.length-2,by omega⟩
    obtain ⟨m2,hm2⟩ : ∃ m2,O2.length-1=m2+1:=⟨O2.length-2,by omega⟩
    rw [hm1] at Ad hol
    rw [hm2] at hown2 hol
    obtain ⟨g1,cp1,rfl⟩:=ownsRow_succ Ad
    obtain ⟨g2,cp2,rfl⟩:=ownsRow_succ hown2
    have HW:=hid hWL
    have OQ:=hid Ad
    have aej:=hid (fun j u (hj:(cellsS (O2.dropLast.map aR))[j]?=some u)=>show w7.cell? ((⟨g2,0,none⟩ : Addr).add j)=some u by
     rw [addr_add,Nat.zero_add]
     exact (dH hown2 rfl hj).1)
    have Eu:=hid (show (cellsS (O2.dropLast.map aR)).length=(m2+1)*2 by rw [jI,List.length_map,List.length_dropLast,hm2])
    have age:=hid (show cellsS (O1.dropLast.map aR)++cellsS (O2.dropLast.map aR)=cellsS ((O1.dropLast++O2.dropLast).map aR) by rw [List.map_append];unfold cellsS;rw [List.flatMap_append])
    have HOM:=hid (fun p (hp:p∈O1.dropLast++O2.dropLast)=>hWL.mem p hp)
    obtain ⟨i0,hi,hz0,hz1,hz2⟩:=info_parts rE.info
    generalize O1.dropLast++O2.dropLast=out at *
    have hsb:w4.heap.size≤w7.heap.size:=Nat.le_trans hb5.size (Nat.le_trans hb6.size Db.size)
    clear hO2 acJ hown2 Ad hWC hWL hne l1 l2 acI abv
    have agf:out.length=m1+m2+1+1:=by omega
    have aek:=hid (fun w8 row (hgr:w7.grownBy w8 row) (hr:∀ q,row=some q→w4.heap.size≤q)=>agd.trans (((Below.refl w4.heap.size w7).grown hgr hsb hr).mono U3.size))
    by_cases h3:out.length<3
    ·have n2:decide ((m1:Int)+(m2:Int)+1+1<3)=true:=decide_eq_true (by omega)
     have acG:=hid (fun P (h:ji L P)=>show P.length<3 by rw [h.unique HW.out];exact h3)
     go_wp2_with (at_builtin;refine mX _ rfl (.tmp 37) (.tmp 39) 44 rfl w4.heap.size 113 i0 (.agg #[.string ⟨#[]⟩,.string ⟨#[]⟩]) 2 32 rE.ht hi hz0 hz1 hz2 rE.hzs rE.hsz _ (m1+1) _ rfl OQ.out ⟨g2,0,none⟩ (m2+1) cp2 _ rfl Eu.out aej.out (pK _) (by unfold maxLen;omega) (by omega) hsb ?_;intro v8 w8 xL Dc _;rw [show m1+1+(m2+1)=(m1+m2+1)+1 by omega] at xL;obtain ⟨g8,c8,rfl⟩:=ownsRow_succ xL;have HO8:=hid xL;have HG8:=hid Dc;clear xL Dc)
     go_wp2
     go_ret2
     exact ⟨.inl ⟨rfl,acG.out⟩,aek.out _ _ HG8.out (fun q hq=>(OQ.out.lt q hq).1)⟩
    ·have n2:decide ((m1:Int)+(m2:Int)+1+1<3)=false:=decide_eq_false (by omega)
     go_wp2_with (at_builtin;refine mX _ rfl (.tmp 37) (.tmp 39) 44 rfl w4.heap.size 113 i0 (.agg #[.string ⟨#[]⟩,.string ⟨#[]⟩]) 2 32 rE.ht hi hz0 hz1 hz2 rE.hzs rE.hsz _ (m1+1) _ rfl OQ.out ⟨g2,0,none⟩ (m2+1) cp2 _ rfl Eu.out aej.out (pK _) (by unfold maxLen;omega) (by omega) hsb ?_;intro v8 w8 xL Dc _;rw [show m1+1+(m2+1)=(m1+m2+1)+1 by omega] at xL;obtain ⟨g8,c8,rfl⟩:=ownsRow_succ xL;have HO8:=hid xL;have HG8:=hid Dc;clear xL Dc)
     have acK:=aek.out _ _ HG8.out (fun q hq=>(OQ.out.lt q hq).1)
     have hP8:qp w8 (.slice (some ⟨g8,0,none⟩) (m1+m2+1+1) c8) out:=lU (by rw [List.length_map,agf,←age.out];exact HO8.out)
     have HFI:=hid (QL _ out (by omega) (by omega) (fun p hp=>(Mi.out p (HOM.out p hp)).sm) w8 (hw.below acK) hP8)
     unfold OM at HFI
     clear hP8
     go_wp2_with fail
     refine HFI.out.mono ?_
     rintro e w9 ⟨hor,Td⟩
     have agh:=acK.trans (Td.mono acK.size)
     obtain ⟨r,t,rfl,hLA,hPr⟩:=hor
     rw [HW.out.first (by omega) hLA] at hPr
     have FB:=hid hPr
     clear hPr
     go_wp2
     go_ret2
     exact ⟨.inr ⟨r,out,rfl,HW.out,by omega,FB.out.1,FB.out.2⟩,agh⟩
theorem Nh (v:Value) (P:List QP) (h2:2≤P.length) (hn:P.length≤1000) (hz:∀ p∈P,rf 1000000 p) (hA:∀ k,k+2≤P.length→Sz 900000000 (iU P k)) (w:World) (hw:Good w) (hv:qp w v P) :
  Calls Tryz.prog 145 #[v] w (RV (.string (tx (jD P))) w):=by
 have HAR:=hid (fun i (hi:i<P.length) j (hj:j<P.length) k (hk:k<P.length) w' (hg:Good w')=>Og (pt P i) (pt P j) (pt P k) (hz _ (bV hi)) (hz _ (bV hj)) (hz _ (bV hk)) w' hg)
 have HAD:=hid (fun k (hk:k+2<P.length) w' (hg:Good w')=>uz (iU P k) (eu (pt P 0) (pt P (k+1)) (pt P (k+2))) ((hA k (by omega)).sm) ((Ty (hz _ (bV (show 0<P.length by omega))) (hz _ (bV (show k+1<P.length by omega))) (hz _ (bV hk))).sm) w' hg)
 unfold RV at HAR HAD
 unfold xm at HAR
 have HT0:=hid (show (⟨#[48]⟩ : ByteArray)=tx (iU P 0) from tx0.symm)
 obtain ⟨p,c,rfl,hcl,hcm⟩:=hv.slice
 unfold maxLen at hcm
 obtain ⟨B,off,rfl,hbl,hcell⟩:=qp.cells hv (by omega)
 have Cw:=hid (fun i (hi:i<P.length) wx (h:Below w.heap.size w wx)=>And.intro ((h.cell (p:=⟨B,off+i*2,none⟩) hbl).trans (hcell i hi).1) ((h.cell (p:=⟨B,off+i*2+1,none⟩) hbl).trans (hcell i hi).2))
 have hbw:=Below.refl w.heap.size w
 clear hz hv hcell hA
 go_enter Tryz.func145,Tryz.ntmps145
 go_wp2_with fail
 go_loopw [3,4] (fun sv iv wr=>∃ (k:Nat) (s:ByteArray),k+2≤P.length∧s=tx (iU P k)∧sv=.string s∧iv=.int .i64 ((k+1:Nat):Int)∧Below w.heap.size w wr) (fun _ iv _=>P.length-(intOf iv).toNat)
 case atStart=>exact ⟨0,_,h2,HT0.out,rfl,rfl,hbw⟩
 case round =>
  obtain ⟨k,s,hk2,hs,rfl,rfl,hbr⟩:=hrel
  have HS:=hid hs
  clear hs
  have m1:IntKind.i64.wrap ((k:Int)+1+1)=(k:Int)+1+1:=IntWalk.i64_in _ (by omega)
  by_cases hk:k+1+1<P.length
  ·have hkn:decide ((k:Int)+1+1<(P.length:Int))=true:=decide_eq_true (by omega)
   obtain ⟨a0,a1⟩:=Cw.out 0 (by omega) wr hbr
   obtain ⟨b0,b1⟩:=Cw.out (k+1) (by omega) wr hbr
   obtain ⟨c0,c1⟩:=Cw.out (k+1+1) (by omega) wr hbr
   rw [Nat.zero_mul,Nat.add_zero] at a0 a1
   have oD:B<wr.heap.size:=Nat.lt_of_lt_of_le hbl hbr.size
   have m1:IntKind.i64.wrap ((k:Int)+1+1)=(k:Int)+1+1:=IntWalk.i64_in _ (by omega)
   have m2:(0:Int)≤(k:Int)+1:=by omega
   have m3:(k:Int)+1<(P.length:Int):=by omega
   have m4:(0:Int)≤(k:Int)+1+1:=by omega
   have m5:(k:Int)+1+1<(P.length:Int):=by omega
   have m6:((k:Int)+1).toNat=k+1:=by omega
   have m7:((k:Int)+1+1).toNat=k+1+1:=by omega
   have m8:k+1<P.length:=by omega
   have m9:k+1+1<P.length:=by omega
   have m10:0<P.length:=by omega
   have H1:=hid (HAR.out 0 m10 (k+1) m8 (k+1+1) m9)
   have H2:=hid (HAD.out k hk)
   rw [←HS.out] at H2
   obtain ⟨s2,hs2⟩ : ∃ s2,s2=tx (iU P (k+1)):=⟨_,rfl⟩
   have HS2:=hid hs2
   rw [show iU P k+eu (pt P 0) (pt P (k+1)) (pt P (k+2))=iU P (k+1) from rfl,←hs2] at H2
   clear hs2
   rw [show k+2=k+1+1 from rfl] at H2
   generalize tx (eu (pt P 0) (pt P (k+1)) (pt P (k+1+1)))=t at *
   generalize tx (pt P 0).1=x1 at *
   generalize tx (pt P 0).2=x2 at *
   generalize tx (pt P (k+1)).1=y1 at *
   generalize tx (pt P (k+1)).2=y2 at *
   generalize tx (pt P (k+1+1)).1=z1 at *
   generalize tx (pt P (k+1+1)).2=z2 at *
   go_wp2_with fail
   refine aN (fun W'=>Below wr.heap.size wr W') [0,1,2,3,4,5,6,7,8,9,10,11,12] [13,14] 15 (by kernel_rfl) (by kernel_rfl) ⟨rfl,rfl,rfl,Nat.le_refl _,fun _ _=>rfl⟩ ?_
   iterate 13
    refine aL rfl ?_ rfl ?_ ?_
    rotate_left
    ·intro W' hS'
     have s0:=(hS'.cell (p:=⟨B,off,none⟩) oD).trans a0
     have s1:=(hS'.cell (p:=⟨B,off+1,none⟩) oD).trans a1
     have s2:=(hS'.cell (p:=⟨B,off+(k+1)*2,none⟩) oD).trans b0
     have s3:=(hS'.cell (p:=⟨B,off+(k+1)*2+1,none⟩) oD).trans b1
     have s4:=(hS'.cell (p:=⟨B,off+(k+1+1)*2,none⟩) oD).trans c0
     have s5:=(hS'.cell (p:=⟨B,off+(k+1+1)*2+1,none⟩) oD).trans c1
     go_simp
     try with_reducible rfl
    try simp only [zA,zB,zC,Act.put,zD,zE,zF]
   have hR0:Below wr.heap.size wr wr.drew:=⟨rfl,rfl,rfl,Nat.le_refl _,fun _ _=>rfl⟩
   refine aD rfl rfl (fun K hK=>?_)
   go_simp
   refine (H1.out _ (hw.below (hbr.trans (hR0.mono hbr.size)))).mono ?_
   rintro e u1 ⟨rfl,lV⟩
   have eY:=hR0.trans (lV.mono hR0.size)
   refine hK _ _ ⟨eY,?_⟩
   clear hK K
   try simp only [zA,zB,zC,Act.put,zD,zE,zF]
   refine aD rfl rfl (fun K hK=>?_)
   go_simp
   refine (H2.out _ (hw.below (hbr.trans (eY.mono hbr.size)))).mono ?_
   rintro e u2 ⟨rfl,Ni⟩
   have hR2:=eY.trans (Ni.mono eY.size)
   refine hK _ _ ⟨hR2,?_⟩
   clear hK K
   try simp only [zA,zB,zC,Act.put,zD,zE,zF]
   unfold bE
   simp only [List.drop_succ_cons,List.drop_zero]
   try simp only [zA,zB,zC,Act.put,zD,zE,zF]
   refine aB rfl (fun K hK=>?_)
   go_simp
   refine hK _ _ ⟨trivial,aQ ?_⟩
   clear hK K
   try simp only [zA,zB,zC,Act.put,zD,zE,zF]
   refine ag.mk ?_
   have hbu:=hbr.trans (hR2.mono hbr.size)
   go_wp2
   refine ⟨⟨k+1,s2,hk,HS2.out,rfl,by simp,hbu⟩,?_⟩
   show P.length-((k:Int)+1+1).toNat<P.length-((k:Int)+1).toNat
   omega
  ·have hkn:decide ((k:Int)+1+1<(P.length:Int))=false:=decide_eq_false (by omega)
   have HR:=hid (show s=tx (jD P) by rw [HS.out];unfold jD;rw [show P.length-2=k by omega])
   go_wp2
   go_ret
   exact ⟨by rw [←HR.out];rfl,hbr⟩
theorem aac (v:Value) (P:List QP) (hP:Poly P) (h60:P.length≤60) (hz:∀ p∈P,rf 402 p) (hA:∀ k,k+2≤P.length→Sz 900000000 (iU P k)) (hok:oz (jD P)) (w:World) (hw:Good w) (hv:qp w v P) :
  Calls Tryz.prog 63 #[v] w (RV (.tuple #[.string (tx (jD P)),.int .i64 0]) w):=by
 have h3:=hP.1.1
 have HC:=hid (Qm v P h3 h60 hz w hw hv)
 rw [MM hP] at HC
 have HD:=hid (fun w' (hg:Good w') (hp:qp w' v P)=>Nh v P (by omega) (by omega) (fun p hp=>(hz p hp).sm) hA w' hg hp)
 have HN:=hid (fun w' (hg:Good w')=>Qk (jD P) hok w' hg)
 unfold RV at HC HD HN
 have HV:=hid hv
 clear hz hv hA hok hP
 generalize tx (jD P)=t at *
 go_enter Tryz.func63,Tryz.ntmps63
 go_wp2_with fail
 refine HC.out.mono ?_
 rintro e w1 ⟨rfl,hb1⟩
 go_wp2_with fail
 refine (HD.out _ (hw.below hb1) (HV.out.below hb1)).mono ?_
 rintro e w2 ⟨rfl,h2⟩
 have hb2:=hb1.trans (h2.mono hb1.size)
 go_wp2_with fail
 refine (HN.out _ (hw.below hb2)).mono ?_
 rintro e w3 ⟨rfl,h3⟩
 have hb3:=hb2.trans (h3.mono hb2.size)
 go_wp2
 go_ret2
 exact ⟨rfl,hb3⟩
end Go.Proofs.YtglncfkoohgdaaaGreatDoor
