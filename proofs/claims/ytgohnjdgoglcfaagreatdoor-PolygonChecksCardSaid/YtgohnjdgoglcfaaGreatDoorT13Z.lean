import Derived.Test.YtgohnjdgoglcfaaGreatDoorT12Z
import Derived.Lib.SliceRun
import Derived.Laws.IdiomCopy
import Derived.BigQuiet
set_option maxRecDepth 100000
set_option maxHeartbeats 8000000
namespace Go.Proofs.YtgohnjdgoglcfaaGreatDoor
open Go.RowKit Go.Shelf
open Go.Lib (decDigits itoa nDigits)
open Go.Lib (hid)
def cmpT (L:List QP):Nat→List QP
 | 0=>[]
 | t+1=>if 0<t∧pt L t=pt L (t-1) then cmpT L t else cmpT L t ++ [pt L t]
theorem cmpT_len (L:List QP):∀ t,(cmpT L t).length≤t
 | 0=>Nat.le_refl _
 | t+1=>by
  have:=cmpT_len L t
  unfold cmpT
  split
  ·omega
  ·rw [List.length_append,List.length_singleton];omega
theorem cmpT_same {L:List QP} {t:Nat} (h0:0<t) (h:pt L t=pt L (t-1)):cmpT L (t+1)=cmpT L t:=by
 show (if 0<t∧pt L t=pt L (t-1) then _ else _)=_
 rw [if_pos ⟨h0,h⟩]
theorem cmpT_new {L:List QP} {t:Nat} (h:t=0∨pt L t≠pt L (t-1)):cmpT L (t+1)=cmpT L t ++ [pt L t]:=by
 show (if 0<t∧pt L t=pt L (t-1) then _ else _)=_
 rw [if_neg]
 rintro ⟨h0,h1⟩
 rcases h with h | h
 ·omega
 ·exact h h1
theorem cmpT_take {L:List QP}:∀ k,k≤L.length→(∀ j,0<j→j<k→pt L j≠pt L (j-1))→cmpT L k=L.take k
 | 0,_,_=>by simp [cmpT]
 | k+1,hk,h=>by
  have ih:=cmpT_take k (by omega) (fun j h0 h1=>h j h0 (by omega))
  rw [cmpT_new (by rcases Nat.eq_zero_or_pos k with e | e;exact .inl e;exact .inr (h k e (by omega))),ih,List.take_succ_eq_append_getElem (by omega),pt_eq (by omega)]
structure CompB (L B:List QP) (k t:Nat):Prop where
 len:B.length=L.length
 t0:0<t
 tl:t≤L.length
 kt:k+1≤t
 kl:k=(cmpT L t).length
 front:∀ i,i<k→pt B i=pt (cmpT L t) i
 back:∀ i,t-1≤i→i<L.length→pt B i=pt L i
theorem pt_set {B:List QP} {k i:Nat} {p:QP} (hi:i<B.length):pt (B.set k p) i=if k=i then p else pt B i:=by
 rw [pt_eq (by simpa using hi),List.getElem_set,pt_eq hi]
theorem pt_app_left {A:List QP} {p:QP} {i:Nat} (h:i<A.length):pt (A ++ [p]) i=pt A i:=by rw [pt_eq (by simp;omega),pt_eq h,List.getElem_append_left h]
theorem pt_app_last {A:List QP} {p:QP}:pt (A ++ [p]) A.length=p:=by rw [pt_eq (by simp),List.getElem_append_right (Nat.le_refl _)];simp
theorem CompB.skip {L B:List QP} {k t:Nat} (h:CompB L B k t) (ht:t<L.length) (e:pt L t=pt L (t-1)):CompB L B k (t+1) where
 len:=h.len
 t0:=Nat.succ_pos _
 tl:=ht
 kt:=by have:=h.kt;omega
 kl:=by rw [cmpT_same h.t0 e];exact h.kl
 front:=fun i hi=>by rw [cmpT_same h.t0 e];exact h.front i hi
 back:=fun i h1 h2=>h.back i (by omega) h2
theorem CompB.keep {L B:List QP} {k t:Nat} (h:CompB L B k t) (ht:t<L.length) (e:pt L t≠pt L (t-1)):CompB L (B.set k (pt L t)) (k+1) (t+1) where
 len:=by rw [List.length_set];exact h.len
 t0:=Nat.succ_pos _
 tl:=ht
 kt:=by have:=h.kt;omega
 kl:=by rw [cmpT_new (.inr e),List.length_append,List.length_singleton,←h.kl]
 front:=fun i hi=>by
  have hk:=h.kt
  have hl:=h.len
  rw [pt_set (by omega),cmpT_new (.inr e)]
  by_cases h1:k=i
  ·rw [if_pos h1,←h1,h.kl,pt_app_last]
  ·rw [if_neg h1,h.front i (by omega),pt_app_left (by rw [←h.kl];omega)]
 back:=fun i h1 h2=>by
  have hk:=h.kt
  have hl:=h.len
  rw [pt_set (by omega),if_neg (by omega)]
  exact h.back i (by omega) h2
theorem CompB.start {L:List QP} {k:Nat} (h0:0<k) (hk:k<L.length) (h:∀ j,0<j→j<k→pt L j≠pt L (j-1)) (e:pt L k=pt L (k-1)):CompB L L k (k+1):=by
 have e1:cmpT L (k+1)=L.take k:=by rw [cmpT_same h0 e,cmpT_take k (by omega) h]
 refine ⟨rfl,Nat.succ_pos _,hk,Nat.le_refl _,by rw [e1,List.length_take];omega,fun i hi=>?_,fun _ _ _=>rfl⟩
 rw [e1,pt_eq (by omega),pt_eq (by rw [List.length_take];omega),List.getElem_take]
theorem HoldQ.same {w w':World} {g:Nat} {L:List QP} (h:HoldQ w g L) (e:w'.heap[g]?=w.heap[g]?):HoldQ w' g L:=by
 intro i hi
 obtain ⟨h1,h2,h3,h4⟩:=h i hi
 unfold World.cell? World.frozen? at *
 simp only [e]
 exact ⟨h1,h2,h3,h4⟩
theorem HoldQ.below {w w':World} {g:Nat} {L:List QP} (h:HoldQ w g L) (hg:g<w.heap.size) (hb:Below w.heap.size w w'):HoldQ w' g L:=h.same (hb.block g hg)
theorem addr_ne {g a b:Nat} (h:a≠b):(⟨g,a,none⟩ : Addr)≠⟨g,b,none⟩:=by intro e;simp only [Addr.mk.injEq] at e;exact h e.2.1
theorem HoldQ.put {w:World} {g k:Nat} {L:List QP} (h:HoldQ w g L) (p:QP) (hk:k<L.length):HoldQ ((w.setCell ⟨g,k*2,none⟩ (.string (tx p.1))).setCell ⟨g,k*2+1,none⟩ (.string (tx p.2))) g (L.set k p):=by
 intro i hi
 have hi':i<L.length:=by simpa using hi
 obtain ⟨h1,h2,h3,h4⟩:=h i hi'
 obtain ⟨k1,k2,_,_⟩:=h k hk
 rw [pt_set hi',World.frozen?_setCell,World.frozen?_setCell,World.frozen?_setCell,World.frozen?_setCell]
 by_cases e:k=i
 ·subst e
  rw [if_pos rfl]
  refine ⟨?_,?_,h3,h4⟩
  ·rw [World.cell?_setCell_other (h:=addr_ne (by omega)),World.cell?_setCell_same (h:=k1)]
  ·have hk2:(w.setCell ⟨g,k*2,none⟩ (.string (tx p.1))).cell? ⟨g,k*2+1,none⟩=some (.string (tx (pt L k).2)):=by
    rw [World.cell?_setCell_other (h:=addr_ne (by omega))];exact k2
   exact World.cell?_setCell_same _ _ _ hk2
 ·rw [if_neg e]
  refine ⟨?_,?_,h3,h4⟩
  ·rw [World.cell?_setCell_other (h:=addr_ne (by omega)),World.cell?_setCell_other (h:=addr_ne (by omega))];exact h1
  ·rw [World.cell?_setCell_other (h:=addr_ne (by omega)),World.cell?_setCell_other (h:=addr_ne (by omega))];exact h2
theorem zeros_len (n:Nat):(Builtin.zeroCells #[Value.string ⟨#[]⟩,.string ⟨#[]⟩] n).toList.length=n*2:=by simp [Builtin.zeroCells]
theorem zeros_one (n:Nat):∀ v∈(Builtin.zeroCells #[Value.string ⟨#[]⟩,.string ⟨#[]⟩] n).toList,v.oneCell'=true:=by
 intro v hv
 simp only [Builtin.zeroCells,Array.toList_map,List.mem_map] at hv
 obtain ⟨i,_,rfl⟩:=hv
 rcases (show i % 2=0∨i % 2=1 by omega) with e | e <;> simp [e,Value.oneCell']
theorem run_clear_pts (w:World) (ty:TypeId) (b o n c:Nat) (hn:0<n) (hc:∀ j,j<n*2→(w.cell? ⟨b,o+j,none⟩).isSome=true) (hf:∀ j,j<n*2→w.frozen? ⟨b,o+j,none⟩=false) :
  (Builtin.clear_ #[22] ty #[.slice (some ⟨b,o,none⟩) n c]).run Tryz.prog w=.ok (.tuple #[]) (w.setCells b o (Builtin.zeroCells #[Value.string ⟨#[]⟩,.string ⟨#[]⟩] n).toList):=by
 have hst:=run_storeCells_cells (P:=Tryz.prog) b o (Builtin.zeroCells #[Value.string ⟨#[]⟩,.string ⟨#[]⟩] n).toList 0 w (by rw [zeros_len];simpa using hc) (by rw [zeros_len];simpa using hf) (zeros_one n)
 simp only [Nat.add_zero] at hst
 obtain ⟨m,rfl⟩ : ∃ m,n=m+1:=⟨n-1,by omega⟩
 simp [Builtin.clear_,run_underlying Tryz.underlying22,Tryz.zeroValue31,Value.cells,hst]
theorem below_setCells {B:Nat} {a w:World} {g o:Nat} {vs:List Value} (h:Below B a w) (hg:B≤g):Below B a (w.setCells g o vs):=by
 induction vs generalizing w o with
 | nil=>exact h
 | cons v vs ih=>exact ih (h.setCell (p:=⟨g,o,none⟩) hg v)
def CompPost (g cap:Nat) (L:List QP) (w:World) (e:Ending) (w':World):Prop:=
 e=.returned (.slice (some ⟨g,0,none⟩) (cmpT L L.length).length cap)∧HoldQ w' g (cmpT L L.length)∧Below g w w'
theorem compact_pts (g cap:Nat) (L:List QP) (hsz:L.length≤1000000) (hcap:L.length≤cap) (hcm:cap≤maxLen) (w:World) (hg:g<w.heap.size) (hH:HoldQ w g L) :
  Calls Tryz.prog 56 #[.slice (some ⟨g,0,none⟩) L.length cap] w (CompPost g cap L w):=by
 unfold maxLen at hcm
 have HH:=hid hH
 have hguard:=guardPts
 have hbw:=Below.refl w.heap.size w
 clear hH
 by_cases h2:L.length<2
 ·have n1:decide ((L.length:Int)<2)=true:=decide_eq_true (by omega)
  have HE:=hid (show cmpT L L.length=L from (cmpT_take L.length (Nat.le_refl _) (fun j h0 h1=>by omega)).trans (List.take_length))
  go_enter Tryz.func56,Tryz.ntmps56
  go_wp2
  go_ret
  exact ⟨by rw [HE.out];rfl,by rw [HE.out];exact HH.out,Below.refl _ _⟩
 ·have n1:decide ((L.length:Int)<2)=false:=decide_eq_false (by omega)
  go_enter Tryz.func56,Tryz.ntmps56
  go_wp2_with fail
  go_loopw [3] (fun iv wr=>∃ i:Nat,i+1≤L.length∧iv=.int .i64 ((i+1:Nat):Int)∧(∀ j,0<j→j<i+1→pt L j≠pt L (j-1))∧Below w.heap.size w wr) (fun iv _=>L.length-(intOf iv).toNat)
  case atStart=>exact ⟨0,by omega,rfl,fun j h0 h1=>by omega,hbw⟩
  case round =>
   obtain ⟨i,hil,rfl,hNE,hbr⟩:=hrel
   have HNE:=hid hNE
   have HHr:=hid (HH.out.below hg hbr)
   clear hNE
   by_cases hk:i+1<L.length
   ·have hkn:decide ((i:Int)+1<(L.length:Int))=true:=decide_eq_true (by omega)
    have m1:IntKind.i64.wrap ((i:Int)+1-1)=(i:Int):=IntWalk.i64_in _ (by omega) |>.trans (by omega)
    have m2:IntKind.i64.wrap (i:Int)=(i:Int):=IntWalk.i64_in _ (by omega)
    have m3:(0:Int)≤(i:Int):=by omega
    have m4:(i:Int)<(L.length:Int):=by omega
    have m5:(i:Int)+1<(L.length:Int):=by omega
    have m6:(0:Int)≤(i:Int)+1:=by omega
    have m7:((i:Int)+1).toNat=i+1:=by omega
    have m8:i<L.length:=by omega
    obtain ⟨c0,c1,_,_⟩:=HHr.out (i+1) hk
    obtain ⟨d0,d1,_,_⟩:=HHr.out i (by omega)
    have heq:=eqlPts (pt L (i+1)) (pt L i)
    by_cases he:pt L (i+1)=pt L i
    ·rw [decide_eq_true he] at heq
     have HSTART:=hid (show CompB L L (i+1) (i+2) from CompB.start (Nat.succ_pos _) hk HNE.out he)
     clear he
     generalize tx (pt L (i+1)).1=x1 at *
     generalize tx (pt L (i+1)).2=x2 at *
     generalize tx (pt L i).1=y1 at *
     generalize tx (pt L i).2=y2 at *
     go_wp2_with fail
     go_quiet (fail)
     go_wp2_with fail
     obtain ⟨w2,hw2⟩ : ∃ w2,w2=wr.drewN nq:=⟨_,rfl⟩
     have hb2:Below w.heap.size w w2:=by rw [hw2];exact hbr.trans ((below_drewN wr _).mono hbr.size)
     have HH2:=hid (HH.out.below hg hb2)
     have hb2g:=hb2.mono (Nat.le_of_lt hg)
     rw [←hw2]
     clear hw2 c0 c1 d0 d1 HHr hb2 m1 m2 m3 m4 m5 m6 m7 heq hkn HNE
     go_loopw [3,5] (fun kv jv wr=>∃ (k j:Nat) (B:List QP),kv=.int .i64 (k:Int)∧jv=.int .i64 ((j+1:Nat):Int)∧CompB L B k (i+j+2)∧HoldQ wr g B∧Below g w wr) (fun _ jv _=>L.length-(intOf jv).toNat)
     case atStart=>exact ⟨i+1,0,L,rfl,rfl,HSTART.out,HH2.out,hb2g⟩
     case round =>
      clear hb2g HSTART HH2 hbr
      obtain ⟨k,j,B,rfl,rfl,hC,hHB,hbr⟩:=hrel
      have HC:=hid hC
      have HB:=hid hHB
      have hkt:=hC.kt
      have htl:=hC.tl
      have hBl:=hC.len
      clear hC hHB
      by_cases hj:j+1<L.length-(i+1)
      ·have hjn:decide ((j:Int)+1<((L.length-(i+1):Nat):Int))=true:=decide_eq_true (by omega)
       have m1:IntKind.i64.wrap ((j:Int)+1-1)=(j:Int):=IntWalk.i64_in _ (by omega) |>.trans (by omega)
       have m2:IntKind.i64.wrap (j:Int)=(j:Int):=IntWalk.i64_in _ (by omega)
       have m3:(0:Int)≤(j:Int):=by omega
       have m4:(j:Int)<((L.length-(i+1):Nat):Int):=by omega
       have m5:(j:Int)+1<((L.length-(i+1):Nat):Int):=by omega
       have m6:(0:Int)≤(j:Int)+1:=by omega
       have m7:((j:Int)+1).toNat=j+1:=by omega
       have m8:j<L.length-(i+1):=by omega
       have m9:(0:Int)≤(k:Int):=by omega
       have m10:(k:Int)<(L.length:Int):=by omega
       have m11:k<L.length:=by omega
       obtain ⟨c0,c1,_,_⟩:=HB.out (i+j+2) (by omega)
       obtain ⟨d0,d1,_,_⟩:=HB.out (i+j+1) (by omega)
       rw [HC.out.back (i+j+2) (by omega) (by omega)] at c0 c1
       rw [HC.out.back (i+j+1) (by omega) (by omega)] at d0 d1
       rw [show (i+j+2)*2=(i+1)*2+(j+1)*2 by omega] at c0 c1
       rw [show (i+j+1)*2=(i+1)*2+j*2 by omega] at d0 d1
       have hneq:=neqPts (pt L (i+j+2)) (pt L (i+j+1))
       by_cases he:pt L (i+j+2)=pt L (i+j+1)
       ·rw [decide_eq_true he] at hneq
        have HN:=hid (show CompB L B k (i+(j+1)+2) from HC.out.skip (show i+j+2<L.length by omega) he)
        clear he
        generalize tx (pt L (i+j+2)).1=x1 at *
        generalize tx (pt L (i+j+2)).2=x2 at *
        generalize tx (pt L (i+j+1)).1=y1 at *
        generalize tx (pt L (i+j+1)).2=y2 at *
        go_wp2_with fail
        go_quiet (fail)
        go_wp2
        refine ⟨⟨k,j+1,B,rfl,by simp,HN.out,HB.out.same rfl,hbr.trans ((below_drewN wr _).mono (Nat.le_trans (Nat.le_of_lt hg) hbr.size))⟩,?_⟩
        show L.length-((j:Int)+1+1).toNat<L.length-((j:Int)+1).toNat
        omega
       ·rw [decide_eq_false he] at hneq
        have HN:=hid (show CompB L (B.set k (pt L (i+j+2))) (k+1) (i+(j+1)+2) from HC.out.keep (show i+j+2<L.length by omega) he)
        obtain ⟨z,hz⟩ : ∃ z,z=pt L (i+j+2):=⟨_,rfl⟩
        have HPUT:=hid (fun n=>(show HoldQ (wr.drewN n) g B from HB.out.same rfl).put z (show k<B.length by omega))
        have HBW:=hid (fun n=>((hbr.trans ((below_drewN wr n).mono (Nat.le_trans (Nat.le_of_lt hg) hbr.size))).setCell (p:=⟨g,k*2,none⟩) (Nat.le_refl _) (.string (tx z.1))).setCell (p:=⟨g,k*2+1,none⟩) (Nat.le_refl _) (.string (tx z.2)))
        obtain ⟨e0,e1,e2,e3⟩:=HB.out k (by omega)
        rw [←hz] at c0 c1 hneq HN
        clear he hz
        generalize tx z.1=x1 at *
        generalize tx z.2=x2 at *
        generalize tx (pt L (i+j+1)).1=y1 at *
        generalize tx (pt L (i+j+1)).2=y2 at *
        generalize tx (pt B k).1=v1 at *
        generalize tx (pt B k).2=v2 at *
        go_wp2_with fail
        go_quiet (fail)
        go_wp2
        refine ⟨⟨k+1,j+1,_,by simp,by simp,HN.out,HPUT.out _,HBW.out _⟩,?_⟩
        show L.length-((j:Int)+1+1).toNat<L.length-((j:Int)+1).toNat
        omega
      ·have hjn:decide ((j:Int)+1<((L.length-(i+1):Nat):Int))=false:=decide_eq_false (by omega)
       have hte:i+j+2=L.length:=by omega
       have hcl:=fun ty=>run_clear_pts wr ty g (k*2) (L.length-k) (cap-k) (by omega) (fun t ht=>by
        obtain ⟨q0,q1,_,_⟩:=HB.out (k+t/2) (by omega)
        rcases (show t % 2=0∨t % 2=1 by omega) with e | e
        ·rw [show k*2+t=(k+t/2)*2 by omega,q0];rfl
        ·rw [show k*2+t=(k+t/2)*2+1 by omega,q1];rfl) (fun t ht=>by
        obtain ⟨_,_,q2,q3⟩:=HB.out (k+t/2) (by omega)
        rcases (show t % 2=0∨t % 2=1 by omega) with e | e
        ·rw [show k*2+t=(k+t/2)*2 by omega];exact q2
        ·rw [show k*2+t=(k+t/2)*2+1 by omega];exact q3)
       have hkl:=HC.out.kl
       rw [hte] at hkl
       obtain ⟨vs,hvs⟩ : ∃ vs,vs=(Builtin.zeroCells #[Value.string ⟨#[]⟩,.string ⟨#[]⟩] (L.length-k)).toList:=⟨_,rfl⟩
       rw [←hvs] at hcl
       have HFIN:=hid (show HoldQ (wr.setCells g (k*2) vs) g (cmpT L L.length) from fun t ht=>by
        obtain ⟨q0,q1,q2,q3⟩:=HB.out t (by omega)
        have hf:=HC.out.front t (by omega)
        rw [hte] at hf
        rw [hf] at q0 q1
        rw [World.frozen?_setCells,World.frozen?_setCells,World.cell?_setCells_out _ _ _ _ _ (fun _ _=>.inl (by show t*2<k*2;omega)),World.cell?_setCells_out _ _ _ _ _ (fun _ _=>.inl (by show t*2+1<k*2;omega))]
        exact ⟨q0,q1,q2,q3⟩)
       have HBF:=hid (below_setCells (o:=k*2) (vs:=vs) hbr (Nat.le_refl g))
       have HKL:=hid hkl
       have m9:(0:Int)≤(k:Int):=by omega
       have m10:(k:Int)≤(L.length:Int):=by omega
       have m11:k≤L.length:=by omega
       have m12:¬ cap=k:=by omega
       have m13:k≤cap:=by omega
       have m14:(k:Int)≤(cap:Int):=by omega
       clear hvs hkl hte
       go_wp2
       go_ret
       exact ⟨by rw [←HKL.out];rfl,HFIN.out,HBF.out⟩
    ·rw [decide_eq_false he] at heq
     have HN:=hid (show ∀ j,0<j→j<i+1+1→pt L j≠pt L (j-1) from fun j h0 h1=>by
      rcases (show j<i+1∨j=i+1 by omega) with e | e
      ·exact HNE.out j h0 e
      ·rw [e];exact he)
     clear he
     generalize tx (pt L (i+1)).1=x1 at *
     generalize tx (pt L (i+1)).2=x2 at *
     generalize tx (pt L i).1=y1 at *
     generalize tx (pt L i).2=y2 at *
     go_wp2_with fail
     go_quiet (fail)
     go_wp2
     refine ⟨⟨i+1,hk,by simp,HN.out,hbr.trans ((below_drewN wr _).mono hbr.size)⟩,?_⟩
     show L.length-((i:Int)+1+1).toNat<L.length-((i:Int)+1).toNat
     omega
   ·have hkn:decide ((i:Int)+1<(L.length:Int))=false:=decide_eq_false (by omega)
    have HE:=hid (show cmpT L L.length=L from (cmpT_take L.length (Nat.le_refl _) (fun j h0 h1=>HNE.out j h0 (by omega))).trans (List.take_length))
    go_wp2
    go_ret
    exact ⟨by rw [HE.out];rfl,by rw [HE.out];exact HHr.out,hbr.mono (Nat.le_of_lt hg)⟩
theorem Chn.congr {e:QP} {S S' O:List QP} (h:Chn e S O) (hm:∀ p,p∈S↔p∈S'):Chn e S' O where
 ne:=h.ne
 mem:=fun p hp=>(hm p).1 (h.mem p hp)
 low:=fun p hp=>h.low p ((hm p).2 hp)
 top:=fun p hp=>h.top p ((hm p).2 hp)
 asc:=h.asc
 nx:=fun i hi=>(h.nx i hi).congr (fun p hp=>(hm p).2 hp)
theorem cmpT_mem {L:List QP}:∀ t,t≤L.length→∀ p,p∈cmpT L t↔p∈L.take t
 | 0,_,p=>by simp [cmpT]
 | t+1,ht,p=>by
  have ih:=cmpT_mem (L:=L) t (by omega) p
  have e1:L.take (t+1)=L.take t ++ [pt L t]:=by rw [List.take_succ_eq_append_getElem (show t<L.length by omega),pt_eq (show t<L.length by omega)]
  rw [e1,List.mem_append,List.mem_singleton,←ih]
  by_cases h:0<t∧pt L t=pt L (t-1)
  ·rw [cmpT_same h.1 h.2]
   constructor
   ·exact .inl
   ·rintro (h1 | h1)
    ·exact h1
    ·rw [ih,h1,h.2,pt_eq (show t-1<L.length by omega)]
     have hl:t-1<(L.take t).length:=by rw [List.length_take];omega
     have e2:(L.take t)[t-1]'hl=L[t-1]'(by omega):=List.getElem_take ..
     rw [←e2]
     exact List.getElem_mem hl
  ·rw [cmpT_new (by rcases Nat.eq_zero_or_pos t with e | e;exact .inl e;exact .inr (fun h2=>h ⟨e,h2⟩)),List.mem_append,List.mem_singleton]
theorem cmpT_inc {L:List QP} (hs:∀ i j,i<j→j<L.length→¬ lssP (pt L j) (pt L i)):∀ t,t≤L.length →
  (∀ i j,i<j→j<(cmpT L t).length→lssP (pt (cmpT L t) i) (pt (cmpT L t) j))∧(0<t→pt (cmpT L t) ((cmpT L t).length-1)=pt L (t-1))
 | 0,_=>⟨fun i j _ hj=>by simp [cmpT] at hj,fun h=>absurd h (Nat.lt_irrefl _)⟩
 | t+1,ht=>by
  obtain ⟨ih1,ih2⟩:=cmpT_inc hs t (by omega)
  by_cases h:0<t∧pt L t=pt L (t-1)
  ·rw [cmpT_same h.1 h.2]
   exact ⟨ih1,fun _=>by rw [ih2 h.1,Nat.add_sub_cancel,h.2]⟩
  ·have hn:t=0∨pt L t≠pt L (t-1):=by
    rcases Nat.eq_zero_or_pos t with e | e
    ·exact .inl e
    ·exact .inr (fun h2=>h ⟨e,h2⟩)
   rw [cmpT_new hn]
   refine ⟨fun i j hij hj=>?_,fun _=>by rw [List.length_append,List.length_singleton,Nat.add_sub_cancel,pt_app_last,Nat.add_sub_cancel]⟩
   rw [List.length_append,List.length_singleton] at hj
   rcases (show j<(cmpT L t).length∨j=(cmpT L t).length by omega) with h1 | h1
   ·rw [pt_app_left h1,pt_app_left (by omega)];exact ih1 i j hij h1
   ·subst h1
    rw [pt_app_last,pt_app_left hij]
    have ht0:0<t:=by
     rcases Nat.eq_zero_or_pos t with e | e
     ·subst e;simp [cmpT] at hij
     ·exact e
    have hne:=hn.resolve_left (by omega)
    have hl:lssP (pt L (t-1)) (pt L t):=by
     rcases lssP_total hne with h2 | h2
     ·exact absurd h2 (hs (t-1) t (by omega) (by omega))
     ·exact h2
    rcases (show i=(cmpT L t).length-1∨i<(cmpT L t).length-1 by omega) with h2 | h2
    ·rw [h2,ih2 ht0];exact hl
    ·have:=ih1 i ((cmpT L t).length-1) h2 (by omega)
     rw [ih2 ht0] at this
     exact lssP_trans this hl
theorem pt_rev {C:List QP} {i:Nat} (hi:i<C.length):pt C.reverse i=pt C (C.length-1-i):=by
 rw [pt_eq (by simpa using hi),pt_eq (by omega),List.getElem_reverse]
theorem owns_other {w w':World} {base g n size:Nat} {e:TypeId} {v:Value} {xs:List Value} (h:w.ownsRow base e size v n xs) (hg:g<base) (hs:∀ k,k≠g→w'.heap[k]?=w.heap[k]?):w'.ownsRow base e size v n xs:=by
 refine ⟨h.1,?_⟩
 rcases h.2 with h1 | ⟨g',cap,cur,h1,h2,h3,h4⟩
 ·exact .inl h1
 ·exact .inr ⟨g',cap,cur,h1,h2,by rw [hs g' (by omega)];exact h3,h4⟩
def PHullPost (L:List QP) (w:World) (e:Ending) (w':World):Prop:=
 ((e=.returned (.tuple #[.slice none 0 0,.int .i64 13])∧∀ P,Wrap L P→P.length<3)∨(∃ r P,e=.returned (.tuple #[r,.int .i64 0])∧Wrap L P∧3≤P.length∧Pts w' r P))∧Below w.heap.size w w'
theorem few_hull {L C P:List QP} (hm:∀ p,p∈C↔p∈L) (hc:C.length<3) (h:Wrap L P):P.length<3:=by
 have:=nodup_len P C h.toPart.nodup (fun p hp=>(hm p).2 (h.mem p hp))
 omega
theorem OkB.q {p:QP} (h:OkB p.1∧OkB p.2):okQ p:=OkB.two h
theorem Wrap.first {L P:List QP} (h:Wrap L P) (h3:3≤P.length) {t:Nat} (ht:LeastAt P t):rotL P t=P:=by
 have hp:=h.poly h3
 have:t=0:=LeastAt.unique hp.1 ht hp.least
 subst this
 simp [rotL]
theorem pg_hull (v:Value) (L:List QP) (h0:0<L.length) (hn:L.length≤60) (hz:∀ p∈L,OkB p.1∧OkB p.2) (w:World) (hw:Good w) (hv:Pts w v L) :
  Calls Tryz.prog 14 #[v] w (PHullPost L w):=by
 have hz2:∀ p∈L,Sz2 402 p:=fun p hp=>okP_sz (hz p hp)
 have HSZ:=hid hz2
 have HOKQ:=hid (fun p hp=>OkB.q (hz p hp))
 have HCP:=hid (fun i (hi:i<L.length) w' (hg:Good w')=>vec_pointS (tx (pt L i).1) (tx (pt L i).2) (Nat.le_trans (hz _ (pt_mem hi)).1.sz (by decide)) (Nat.le_trans (hz _ (pt_mem hi)).2.sz (by decide)) w' hg)
 have HOK:=hid (fun i (hi:i<L.length)=>OkB.two (hz _ (pt_mem hi)))
 unfold RV at HCP
 obtain ⟨p,c,rfl,hcl,hcm⟩:=hv.slice
 unfold maxLen at hcm
 obtain ⟨B,off,rfl,hbl,hcell⟩:=Pts.cells hv h0
 have HCL:=hid (fun i (hi:i<L.length) wx (h:Below w.heap.size w wx)=>And.intro ((h.cell (p:=⟨B,off+i*2,none⟩) hbl).trans (hcell i hi).1) ((h.cell (p:=⟨B,off+i*2+1,none⟩) hbl).trans (hcell i hi).2))
 have HRAW:=hid (fun wx (h:Below w.heap.size w wx) i (hi:i<(L.map textP).length)=>show wx.cell? ⟨B,off+i*2,none⟩=some (.string (L.map textP)[i].1)∧wx.cell? ⟨B,off+i*2+1,none⟩=some (.string (L.map textP)[i].2) by
  have hi':i<L.length:=by simpa using hi
  have:=HCL.out i hi' wx h
  rw [pt_eq hi'] at this
  simpa [textP] using this)
 have hbw:=Below.refl w.heap.size w
 have q1:decide ((L.length:Int)>200)=false:=decide_eq_false (by omega)
 have q2:decide ((200:Int)<(L.length:Int))=false:=decide_eq_false (by omega)
 have hbig:=hw.big
 clear hz hv hcell hz2
 go_enter Tryz.func14,Tryz.ntmps14
 go_wp2_with fail
 go_loopw [14] (fun iv wr=>∃ k:Nat,k≤L.length∧iv=.int .i64 (k:Int)∧Below w.heap.size w wr) (fun iv _=>L.length-(intOf iv).toNat)
 case atStart=>exact ⟨0,Nat.zero_le _,rfl,hbw⟩
 case round =>
  obtain ⟨k,hkl,rfl,hbr⟩:=hrel
  by_cases hk:k<L.length
  ·have hkn:decide ((k:Int)<(L.length:Int))=true:=decide_eq_true (by omega)
   have i1:(0:Int)≤(k:Int):=by omega
   have i2:(k:Int)<(L.length:Int):=by omega
   obtain ⟨c0,c1⟩:=HCL.out k hk wr hbr
   have H1:=hid (HCP.out k hk)
   rw [HOK.out k hk] at H1
   simp only [if_true] at H1
   generalize tx (pt L k).1=p1 at *
   generalize tx (pt L k).2=p2 at *
   go_upto_region 6 with fail
   obtain ⟨wC,hwwC⟩ : ∃ wC,wC=wr.alloc (Obj.cells #[.string p1,.string p2] 31):=⟨_,rfl⟩
   obtain ⟨hbwC,lwC,g0,g1⟩:=box_new hwwC
   rw [←hwwC]
   clear hwwC
   have hbC:=hbr.trans (hbwC.mono hbr.size)
   go_wp2_with fail
   refine (H1.out _ (hw.below hbC)).mono ?_
   rintro e w1 ⟨rfl,hb1⟩
   go_wp2
   refine ⟨⟨k+1,hk,int_succ k,hbC.trans (hb1.mono hbC.size)⟩,?_⟩
   show L.length-((k:Int)+1).toNat<L.length-((k:Int)).toNat
   omega
  ·have hkn:decide ((k:Int)<(L.length:Int))=false:=decide_eq_false (by omega)
   have HCLO:=hid (clone_pts B off c L wr (by omega) (HRAW.out wr hbr))
   have hgr:=hw.below hbr
   clear HCP HOK
   go_wp2_with fail
   refine HCLO.out.mono ?_
   rintro e w2 ⟨g,cap,rfl,hc1,hc2,hg1,hg2,hH2,hb2⟩
   have hbw2:=hbr.trans (hb2.mono hbr.size)
   have hwg:w.heap.size≤g:=Nat.le_trans hbr.size hg1
   have HSO:=hid (sort_pts g cap L (fun p hp=>(HSZ.out p hp).mono (by decide)) w2 (hw.below hbw2) (by omega) hg2 hH2 (by omega))
   clear hH2
   go_wp2_with fail
   refine HSO.out.mono ?_
   rintro e w3 ⟨rfl,M,hperm,hsrt,hH3,hb3⟩
   have hMl:M.length=L.length:=hperm.length_eq
   have hg3:=Nat.lt_of_lt_of_le hg2 hb3.size
   have HCO:=hid (compact_pts g cap M (by omega) (by omega) hc2 w3 hg3 hH3)
   rw [hMl] at HCO
   have hbw3:=hbw2.trans (hb3.mono hwg)
   have HSRT:=hid hsrt
   have HPERM:=hid hperm
   unfold CompPost at HCO
   clear hH3 hperm hsrt
   go_wp2_with fail
   refine HCO.out.mono ?_
   rintro e w4 ⟨rfl,hH4,hb4⟩
   obtain ⟨C,hCe⟩ : ∃ C,C=cmpT M M.length:=⟨_,rfl⟩
   rw [←hCe] at hH4
   rw [←hCe]
   have hmC:∀ p,p∈C↔p∈L:=fun p=>by
    rw [hCe,cmpT_mem M.length (Nat.le_refl _) p,List.take_length]
    exact HPERM.out.mem_iff
   have hInc:∀ i j,i<j→j<C.length→lssP (pt C i) (pt C j):=by
    rw [hCe];exact (cmpT_inc HSRT.out M.length (Nat.le_refl _)).1
   have hCl:C.length≤L.length:=by rw [hCe,←hMl];exact cmpT_len _ _
   have hCs:∀ p∈C,Sz2 402 p:=fun p hp=>HSZ.out p ((hmC p).1 hp)
   have hs4:=hb4.size
   have hg4:g<w4.heap.size:=Nat.lt_of_lt_of_le hg3 hs4
   have hbw4:=hbw3.trans (hb4.mono hwg)
   have HMC:=hid hmC
   have HINC:=hid hInc
   have HCS:=hid hCs
   have HH4:=hid hH4
   clear hCe hmC hInc hCs hH4 HSRT HPERM HSO HCO HCLO
   by_cases hC3:C.length<3
   ·have n1:decide ((C.length:Int)<3)=true:=decide_eq_true (by omega)
    have HFEW:=hid (fun P (h:Wrap L P)=>few_hull HMC.out hC3 h)
    go_wp2
    go_ret2
    exact ⟨.inl ⟨rfl,HFEW.out⟩,hbw4⟩
   ·have n1:decide ((C.length:Int)<3)=false:=decide_eq_false (by omega)
    have HCH1:=hid (pg_chain (0,-1) (.slice (some ⟨g,0,none⟩) C.length cap) C (by omega) (by omega) (fun p hp=>(HCS.out p hp).mono (by decide)) (fun i j hij hj=>half_low.2 (HINC.out i j hij hj)) w4 (hw.below hbw4) (holdQ_pts HH4.out rfl (by omega) hc2 hg4))
    unfold ChainPost at HCH1
    go_wp2_with fail
    refine HCH1.out.mono ?_
    rintro e w5 ⟨r1,O1,rfl,hO1,hown1,hb5⟩
    have hg5:=Nat.lt_of_lt_of_le hg4 hb5.size
    have hbw5:=hbw4.trans (hb5.mono hbw4.size)
    have HRV:=hid (rev_pts g cap C (fun p hp=>(HCS.out p hp).mono (by decide)) w5 hg5 (HH4.out.below hg4 hb5) (by omega))
    have HO1:=hid hO1
    have HOWN1:=hid hown1
    clear hO1 hown1 HCH1
    go_wp2_with fail
    refine HRV.out.mono ?_
    rintro e w6 ⟨rfl,hH6,hoth,hb6⟩
    have HOWN6:=hid (owns_other HOWN1.out hg4 hoth)
    have hg6:=Nat.lt_of_lt_of_le hg5 hb6.size
    have hbw6:=hbw5.trans (hb6.mono hwg)
    have hrl:C.reverse.length=C.length:=List.length_reverse
    have HCH2:=hid (pg_chain (0,1) (.slice (some ⟨g,0,none⟩) C.length cap) C.reverse (by omega) (by omega) (fun p hp=>(HCS.out p (List.mem_reverse.1 hp)).mono (by decide)) (fun i j hij hj=>by
     rw [hrl] at hj
     rw [half_high,pt_rev (by omega),pt_rev (by omega)]
     exact HINC.out _ _ (by omega) (by omega)) w6 (hw.below hbw6) (holdQ_pts hH6 hrl.symm (by omega) hc2 hg6))
    unfold ChainPost at HCH2
    clear hoth hH6 HRV HOWN1
    go_wp2_with fail
    refine HCH2.out.mono ?_
    rintro e w7 ⟨r2,O2,rfl,hO2,hown2,hb7⟩
    have hbw7:=hbw6.trans (hb7.mono hbw6.size)
    have hne:pt C 0≠pt C 1:=fun h=>by
     have:=HINC.out 0 1 (by decide) (by omega)
     rw [h] at this;exact lssP_irrefl this
    have hO2':Chn (0,1) C O2:=hO2.congr (fun p=>List.mem_reverse)
    have l1:=HO1.out.two (pt_mem (show 0<C.length by omega)) (pt_mem (show 1<C.length by omega)) hne
    have l2:=hO2'.two (pt_mem (show 0<C.length by omega)) (pt_mem (show 1<C.length by omega)) hne
    have hWC:=wrap_of_sides HO1.out hO2' (pt_mem (show 0<C.length by omega)) (pt_mem (show 1<C.length by omega)) hne
    have hWL:=hWC.congr HMC.out
    have hol:(O1.dropLast++O2.dropLast).length=(O1.length-1)+(O2.length-1):=by rw [List.length_append,List.length_dropLast,List.length_dropLast]
    have hole:=hWL.toPart.len
    have hown7:=owns_below HOWN6.out hb7
    obtain ⟨m1,hm1⟩ : ∃ m1,O1.length-1=m1+1:=⟨O1.length-2,by omega⟩
    obtain ⟨m2,hm2⟩ : ∃ m2,O2.length-1=m2+1:=⟨O2.length-2,by omega⟩
    rw [hm1] at hown7 hol
    rw [hm2] at hown2 hol
    obtain ⟨g1,cp1,rfl⟩:=ownsRow_succ hown7
    obtain ⟨g2,cp2,rfl⟩:=ownsRow_succ hown2
    have HW:=hid hWL
    have HOWN7:=hid hown7
    have HSRC:=hid (fun j u (hj:(cellsS (O2.dropLast.map textP))[j]?=some u)=>show w7.cell? ((⟨g2,0,none⟩ : Addr).add j)=some u by
     rw [addr_add,Nat.zero_add]
     exact (owns_row_cells hown2 rfl hj).1)
    have HLN:=hid (show (cellsS (O2.dropLast.map textP)).length=(m2+1)*2 by rw [cellsS_len,List.length_map,List.length_dropLast,hm2])
    have HCAT:=hid (show cellsS (O1.dropLast.map textP)++cellsS (O2.dropLast.map textP)=cellsS ((O1.dropLast++O2.dropLast).map textP) by rw [List.map_append];unfold cellsS;rw [List.flatMap_append])
    have HOM:=hid (fun p (hp:p∈O1.dropLast++O2.dropLast)=>hWL.mem p hp)
    obtain ⟨i0,hi,hz0,hz1,hz2⟩:=info_parts slPt.info
    generalize O1.dropLast++O2.dropLast=out at *
    have hsb:w4.heap.size≤w7.heap.size:=Nat.le_trans hb5.size (Nat.le_trans hb6.size hb7.size)
    clear hO2 hO2' hown2 hown7 hWC hWL hne l1 l2 HCH2 HOWN6
    have hol2:out.length=m1+m2+1+1:=by omega
    have HBW8:=hid (fun w8 row (hgr:w7.grownBy w8 row) (hr:∀ q,row=some q→w4.heap.size≤q)=>hbw7.trans (((Below.refl w4.heap.size w7).grown hgr hsb hr).mono hbw4.size))
    by_cases h3:out.length<3
    ·have n2:decide ((m1:Int)+(m2:Int)+1+1<3)=true:=decide_eq_true (by omega)
     have HFEW:=hid (fun P (h:Wrap L P)=>show P.length<3 by rw [h.unique HW.out];exact h3)
     go_wp2_with (at_builtin;refine wpList_append_two _ rfl (.tmp 37) (.tmp 39) 22 rfl w4.heap.size 31 i0 (.agg #[.string ⟨#[]⟩,.string ⟨#[]⟩]) 2 32 slPt.ht hi hz0 hz1 hz2 slPt.hzs slPt.hsz _ (m1+1) _ rfl HOWN7.out ⟨g2,0,none⟩ (m2+1) cp2 _ rfl HLN.out HSRC.out (cellsS_one _) (by unfold maxLen;omega) (by omega) hsb ?_;intro v8 w8 hown8 hgrow8 _;rw [show m1+1+(m2+1)=(m1+m2+1)+1 by omega] at hown8;obtain ⟨g8,c8,rfl⟩:=ownsRow_succ hown8;have HO8:=hid hown8;have HG8:=hid hgrow8;clear hown8 hgrow8)
     go_wp2
     go_ret2
     exact ⟨.inl ⟨rfl,HFEW.out⟩,HBW8.out _ _ HG8.out (fun q hq=>(HOWN7.out.lt q hq).1)⟩
    ·have n2:decide ((m1:Int)+(m2:Int)+1+1<3)=false:=decide_eq_false (by omega)
     go_wp2_with (at_builtin;refine wpList_append_two _ rfl (.tmp 37) (.tmp 39) 22 rfl w4.heap.size 31 i0 (.agg #[.string ⟨#[]⟩,.string ⟨#[]⟩]) 2 32 slPt.ht hi hz0 hz1 hz2 slPt.hzs slPt.hsz _ (m1+1) _ rfl HOWN7.out ⟨g2,0,none⟩ (m2+1) cp2 _ rfl HLN.out HSRC.out (cellsS_one _) (by unfold maxLen;omega) (by omega) hsb ?_;intro v8 w8 hown8 hgrow8 _;rw [show m1+1+(m2+1)=(m1+m2+1)+1 by omega] at hown8;obtain ⟨g8,c8,rfl⟩:=ownsRow_succ hown8;have HO8:=hid hown8;have HG8:=hid hgrow8;clear hown8 hgrow8)
     have hbw8:=HBW8.out _ _ HG8.out (fun q hq=>(HOWN7.out.lt q hq).1)
     have hP8:Pts w8 (.slice (some ⟨g8,0,none⟩) (m1+m2+1+1) c8) out:=pairs_of_cells (by rw [List.length_map,hol2,←HCAT.out];exact HO8.out)
     have HFI:=hid (pg_finish _ out (by omega) (by omega) (fun p hp=>(HSZ.out p (HOM.out p hp)).mono (by decide)) w8 (hw.below hbw8) hP8)
     unfold FinPost at HFI
     clear hP8
     go_wp2_with fail
     refine HFI.out.mono ?_
     rintro e w9 ⟨hor,hb9⟩
     have hbw9:=hbw8.trans (hb9.mono hbw8.size)
     rcases hor with ⟨r,t,_,rfl,hLA,hPr⟩ | ⟨⟨p,hp,hnp⟩,_⟩
     ·rw [HW.out.first (by omega) hLA] at hPr
      have HPR:=hid hPr
      clear hPr
      go_wp2
      go_ret2
      exact ⟨.inr ⟨r,out,rfl,HW.out,by omega,HPR.out⟩,hbw9⟩
     ·exact absurd (HOKQ.out p (HOM.out p hp)) hnp
end Go.Proofs.YtgohnjdgoglcfaaGreatDoor
