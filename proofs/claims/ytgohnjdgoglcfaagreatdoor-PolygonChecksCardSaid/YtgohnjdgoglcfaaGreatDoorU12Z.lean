import Derived.Test.YtgohnjdgoglcfaaGreatDoorU8Z
import Derived.Test.YtgohnjdgoglcfaaGreatDoorM1Z
import Derived.Test.YtgohnjdgoglcfaaGreatDoorBxZ
set_option maxRecDepth 100000
set_option maxHeartbeats 8000000
namespace Go.Proofs.YtgohnjdgoglcfaaGreatDoor
open Go.RowKit Go.Shelf
open Go.Lib (decDigits itoa nDigits)
open Go.Lib (hid)
attribute [local go_sem] Oper.semAt_some
theorem pg_checks (b:Nat) (t:TypeId) (p1 p2:Option Addr) (n1 n2 c1 c2:Nat) (e2:Int) (w:World) (hw:Good w) (hx:w.heap[b]?=some (.cells #[.slice p1 n1 c1,.slice p2 n2 c2] t (0,0)))
  (h1:∀ w',Good w'→Below w.heap.size w w'→Calls Tryz.prog 18 #[.slice p1 n1 c1] w' (RV (.int .i64 0) w'))
  (h2:∀ w',Good w'→Below w.heap.size w w'→Calls Tryz.prog 18 #[.slice p2 n2 c2] w' (RV (.int .i64 e2) w')) :
  Calls Tryz.prog 96 #[.slice (some ⟨b,0,none⟩) 2 2] w (RV (.int .i64 e2) w):=by
 have H1:=hid h1
 have H2:=hid h2
 have lb:=lt_of_blk hx
 obtain ⟨x0,x1,_,_⟩:=two_cells hx
 unfold RV at H1 H2
 have hbw:=Below.refl w.heap.size w
 clear h1 h2 hx
 go_enter Tryz.func96,Tryz.ntmps96
 go_wp2_with fail
 go_loopw [2,4,5,8] (fun rv _ _ iv wr=>∃ k:Nat,k≤2∧(k=2→e2=0)∧rv=.int .i64 0∧iv=.int .i64 (k:Int)∧Below w.heap.size w wr) (fun _ _ _ iv _=>2-(intOf iv).toNat)
 case atStart=>exact ⟨0,by decide,fun h=>absurd h (by decide),rfl,rfl,hbw⟩
 case round =>
  obtain ⟨k,hkl,hke,rfl,rfl,hbr⟩:=hrel
  have HKE:=hid hke
  have y0:=(hbr.cell (p:=⟨b,0,none⟩) lb).trans x0
  have y1:=(hbr.cell (p:=⟨b,1,none⟩) lb).trans x1
  clear hke
  rcases (show k=0∨k=1∨k=2 by omega) with rfl | rfl | rfl
  ·go_wp2_with fail
   refine (H1.out _ (hw.below hbr) hbr).mono ?_
   rintro e w1 ⟨rfl,h1⟩
   go_wp2
   exact ⟨⟨1,by decide,fun h=>absurd h (by decide),rfl,rfl,hbr.trans (h1.mono hbr.size)⟩,by decide⟩
  ·by_cases he:e2=0
   ·subst he
    go_wp2_with fail
    refine (H2.out _ (hw.below hbr) hbr).mono ?_
    rintro e w1 ⟨rfl,h1⟩
    go_wp2
    exact ⟨⟨2,by decide,by simp,rfl,rfl,hbr.trans (h1.mono hbr.size)⟩,by decide⟩
   ·have n1:(e2 != 0)=true:=by simpa using he
    have n2:(e2 == 0)=false:=beq_eq_false_iff_ne.2 he
    go_wp2_with fail
    refine (H2.out _ (hw.below hbr) hbr).mono ?_
    rintro e w1 ⟨rfl,h1⟩
    go_wp2
    go_ret
    exact ⟨rfl,hbr.trans (h1.mono hbr.size)⟩
  ·go_wp2
   go_ret
   exact ⟨by rw [HKE.out (by simp)];rfl,hbr⟩
theorem pg_inter1 (B1 B2:Nat) (a b x:QP) (ha:Sz2 1000000 a) (hb:Sz2 1000000 b) (hx:Sz2 1000000 x) (w:World) (hw:Good w) (h1:w.heap[B1]?=some (.cells #[.string (tx a.1),.string (tx a.2)] 31 (0,0))) (h2:w.heap[B2]?=some (.cells #[.string (tx b.1),.string (tx b.2)] 31 (0,0))) :
  Calls Tryz.prog 97 (#[ptV x] ++ #[.pointer (some ⟨B1,0,none⟩),.pointer (some ⟨B2,0,none⟩)]) w (RV (.string (tx (crs a b x))) w):=by
 have HA:=hid (fun w' (hg:Good w')=>pg_area a b x ha hb hx w' hg)
 unfold RV at HA
 unfold ptV at HA ⊢
 clear ha hb hx
 generalize tx a.1=a1 at *
 generalize tx a.2=a2 at *
 generalize tx b.1=b1 at *
 generalize tx b.2=b2 at *
 generalize tx x.1=x1 at *
 generalize tx x.2=x2 at *
 generalize tx (crs a b x)=r at *
 obtain ⟨wA,hwA⟩ : ∃ wA,wA=w.alloc (Obj.cells #[.string x1,.string x2] 31):=⟨_,rfl⟩
 obtain ⟨hbA,lA,c0,c1⟩:=box_new hwA
 have HWA:=hid hwA
 have l1:=Nat.lt_of_lt_of_le (lt_of_blk h1) hbA.size
 have l2:=Nat.lt_of_lt_of_le (lt_of_blk h2) hbA.size
 obtain ⟨d0,d1,_,_⟩:=two_cells ((hbA.block _ (lt_of_blk h1)).trans h1)
 obtain ⟨e0,e1,_,_⟩:=two_cells ((hbA.block _ (lt_of_blk h2)).trans h2)
 clear hwA h1 h2
 simp only [List.append_toArray,List.nil_append,List.cons_append]
 go_enter Tryz.func97,Tryz.ntmps97
 go_upto_region 1 with fail
 rw [←HWA.out]
 go_wp2_with fail
 refine (HA.out _ (hw.below hbA)).mono ?_
 rintro e w1 ⟨rfl,h1⟩
 go_wp2
 go_ret
 exact ⟨rfl,hbA.trans (h1.mono hbA.size)⟩
theorem Pts.set1 {W:World} {B0:Nat} {v u:Value} {t:TypeId} {L:List QP} (h:Pts W v L) (hb:W.heap[B0]?=some (.cells #[u] t (0,0))) (hu:∀ s,u≠.string s) (x:Value):Pts (W.setCell ⟨B0,0,none⟩ x) v L:=by
 obtain ⟨p,c,h1,h2,h3,h4⟩:=h
 refine ⟨p,c,h1,h2,h3,fun h0=>?_⟩
 obtain ⟨b,off,e1,e2,e3⟩:=h4 h0
 have hne:b≠B0:=by
  intro e
  have hc:=(e3 0 h0).1
  rw [e] at hc
  simp only [World.cell?,hb,Nat.zero_mul,Nat.add_zero] at hc
  rcases Nat.eq_zero_or_pos off with h5 | h5
  ·rw [h5] at hc
   simp at hc
   exact hu _ hc
  ·rw [Array.getElem?_eq_none (show (#[u]:Array Value).size≤off from h5)] at hc
   simp at hc
 refine ⟨b,off,e1,by simpa [World.setCell] using e2,fun i hi=>?_⟩
 have key:∀ o,(W.setCell ⟨B0,0,none⟩ x).cell? ⟨b,o,none⟩=W.cell? ⟨b,o,none⟩:=fun o=>World.cell?_of_block (Below.heap_setCell _ _ _ b hne)
 rw [key,key]
 exact e3 i hi
theorem Pts.put {W:World} {Dk:Nat} {v:Value} {L:List QP} {o:Obj} (h:Pts W v L) (hK:∀ c t fz,W.heap[Dk]?≠some (.cells c t fz)):Pts (W.putObj Dk o) v L:=by
 obtain ⟨p,c,h1,h2,h3,h4⟩:=h
 refine ⟨p,c,h1,h2,h3,fun h0=>?_⟩
 obtain ⟨b,off,e1,e2,e3⟩:=h4 h0
 have hne:b≠Dk:=by
  intro e
  have hc:=(e3 0 h0).1
  rw [e] at hc
  rcases hx:W.heap[Dk]? with _ | o
  ·simp [World.cell?,hx] at hc
  ·cases o <;> first | exact hK _ _ _ hx | simp [World.cell?,hx] at hc
 refine ⟨b,off,e1,by simpa [World.putObj] using e2,fun i hi=>?_⟩
 have key:∀ z,(W.putObj Dk o).cell? ⟨b,z,none⟩=W.cell? ⟨b,z,none⟩:=fun z=>World.cell?_of_block (by simp only [World.putObj];rw [Array.getElem?_setIfInBounds,if_neg (fun e=>hne e.symm)])
 rw [key,key]
 exact e3 i hi
structure MtCells (b4:Nat) (r:Value) (fd:Bool) (W:World):Prop where
 r:W.heap[b4]?=some (slBox r)
 d:W.heap[b4+1]?=some (.cells #[.bool fd] 4 (0,0))
 e:W.heap[b4+1+1]?=some (.cells #[.int .i64 0] 25 (0,0))
theorem MtCells.below {b4:Nat} {r:Value} {fd:Bool} {W W':World} (h:MtCells b4 r fd W) (hb:Below (b4+3) W W'):MtCells b4 r fd W':=
 ⟨(hb.block _ (by omega)).trans h.r,(hb.block _ (by omega)).trans h.d,(hb.block _ (by omega)).trans h.e⟩
theorem MtCells.other {b4 b8:Nat} {r:Value} {fd:Bool} {W:World} (h:MtCells b4 r fd W) (h8:b4+3≤b8) (x:Value):MtCells b4 r fd (W.setCell ⟨b8,0,none⟩ x):=
 have one:∀ j,j≠b8→(W.setCell ⟨b8,0,none⟩ x).heap[j]?=W.heap[j]?:=fun j hj=>Below.heap_setCell _ _ _ j hj
 ⟨(one _ (by omega)).trans h.r,(one _ (by omega)).trans h.d,(one _ (by omega)).trans h.e⟩
theorem MtCells.own {T:TypeId} {b4 B:Nat} {r:Value} {fd:Bool} {W W':World} {row:Option Nat} (h:MtCells b4 r fd W) (hB:b4+3≤B) (hg:W.grownBy W' row) (hr:∀ r,row=some r→B≤r∧∃ o:Obj,W.heap[r]?=some o∧(o.isCells=false∨∃ c fz,o=.cells c T fz)):MtCells b4 r fd W':=by
 have keep:∀ j,j<B→(o:Obj)→W.heap[j]?=some o→W'.heap[j]?=some o:=fun j hj o ho=>(hg.block _ (lt_of_some ho) fun e=>by have:=(hr _ e.symm).1;omega).trans ho
 exact ⟨keep _ (by omega) _ h.r,keep _ (by omega) _ h.d,keep _ (by omega) _ h.e⟩
def MtRow (B:Nat) (vp:Value) (P:List QP) (W:World) (ov:Value) (O:List QP):Prop:=(ov=vp∧O=P)∨W.ownsRow B 31 2 ov O.length (cellsS (O.map textP))
structure MtInv (wS:World) (b4 b8 Bp:Nat) (vp:Value) (P Q:List QP) (k:Nat) (W:World):Prop where
 low:Below b4 wS W
 cells:MtCells b4 (.slice none 0 0) false W
 out:∃ ov O,W.heap[b8]?=some (slBox ov)∧Meet P Q k O∧MtRow wS.heap.size vp P W ov O
 box:W.heap[Bp]?=wS.heap[Bp]?
 sz:wS.heap.size≤W.heap.size
structure MtStop (wS:World) (b4:Nat) (P Q:List QP) (c:Code) (_k:Nat) (W:World):Prop where
 ret:c=.ret
 low:Below b4 wS W
 cells:MtCells b4 (.slice none 0 0) false W
 out:¬ ∃ x,InS P x∧InS Q x
 sz:wS.heap.size≤W.heap.size
theorem MtInv.own {wS:World} {b4 b8 Bp:Nat} {vp:Value} {P Q:List QP} (h8:b4+3≤wS.heap.size) (hb:b8<wS.heap.size) (hp:Bp<wS.heap.size):OwnT 64 wS.heap.size (MtInv wS b4 b8 Bp vp P Q):=by
 intro k X Y row ⟨h1,h2,⟨ov,O,h3,h4,h5⟩,h6,h7⟩ hg hr
 have keep:∀ j,j<wS.heap.size→Y.heap[j]?=X.heap[j]?:=fun j hj=>hg.block _ (by omega) fun e=>by have:=(hr _ e.symm).1;omega
 exact ⟨below_keptT h1 (by omega) (by omega) hg hr,h2.own h8 hg hr,⟨ov,O,(keep _ hb).trans h3,h4,h5.imp id fun h=>ownsRow_keptT hg hr h (by decide)⟩,(keep _ hp).trans h6,Nat.le_trans h7 hg.size⟩
theorem MtStop.own {T:TypeId} {wS:World} {b4:Nat} {P Q:List QP} (c:Code) (h8:b4+3≤wS.heap.size):OwnT T wS.heap.size (MtStop wS b4 P Q c):=by
 intro k X Y row ⟨h0,h1,h2,h3,h5⟩ hg hr
 exact ⟨h0,below_keptT h1 (by omega) (by omega) hg hr,h2.own h8 hg hr,h3,Nat.le_trans h5 hg.size⟩
theorem MtRow.below {B:Nat} {vp:Value} {P:List QP} {W W':World} {ov:Value} {O:List QP} (h:MtRow B vp P W ov O) (hb:Below W.heap.size W W'):MtRow B vp P W' ov O:=h.imp id fun h=>owns_below h hb
theorem MtRow.pts {B:Nat} {vp:Value} {P:List QP} {w W:World} {ov:Value} {O:List QP} (h:MtRow B vp P W ov O) (hv:Pts w vp P) (hb:Below w.heap.size w W):Pts W ov O:=by
 rcases h with ⟨rfl,rfl⟩ | h
 ·exact hv.below hb
 ·exact pairs_of_cells (by rw [List.length_map];exact h)
def mtSet (b4:Nat) (V:World) (r:Value) (d:Bool):World:=((V.setCell ⟨b4,0,none⟩ r).setCell ⟨b4+1,0,none⟩ (.bool d)).setCell ⟨b4+1+1,0,none⟩ (.int .i64 0)
theorem mtSet_keep {b4:Nat} {V:World} (r:Value) (d:Bool) {j:Nat} (hj:b4+3≤j):(mtSet b4 V r d).heap[j]?=V.heap[j]?:=by
 unfold mtSet
 rw [Below.heap_setCell _ _ _ j (by show j≠b4+1+1;omega),Below.heap_setCell _ _ _ j (by show j≠b4+1;omega),Below.heap_setCell _ _ _ j (by show j≠b4;omega)]
theorem MtCells.all {b4:Nat} {r:Value} {fd:Bool} {W:World} (h:MtCells b4 r fd W) (r':Value) (d:Bool):MtCells b4 r' d (mtSet b4 W r' d):=by
 refine ⟨?_,?_,?_⟩
 ·unfold mtSet
  rw [Below.heap_setCell _ _ _ _ (by show b4≠b4+1+1;omega),Below.heap_setCell _ _ _ _ (by show b4≠b4+1;omega)]
  exact set_block r' h.r
 ·unfold mtSet
  rw [Below.heap_setCell _ _ _ _ (by show b4+1≠b4+1+1;omega)]
  exact set_block (.bool d) ((Below.heap_setCell _ _ _ _ (by show b4+1≠b4;omega)).trans h.d)
 ·exact set_block (.int .i64 0) (((Below.heap_setCell _ _ _ _ (by show b4+1+1≠b4+1;omega)).trans (Below.heap_setCell _ _ _ _ (by show b4+1+1≠b4;omega))).trans h.e)
theorem below_mtSet {n b4:Nat} {W V:World} (h:Below n W V) (hn:n≤b4) (r:Value) (d:Bool):Below n W (mtSet b4 V r d):=
 ((h.setCell (p:=⟨b4,0,none⟩) hn _).setCell (p:=⟨b4+1,0,none⟩) (by show n≤b4+1;omega) _).setCell (p:=⟨b4+1+1,0,none⟩) (by show n≤b4+1+1;omega) _
theorem keeps_mtSet {b4:Nat} {W V:World} (h:KeepsOthers W V) (r:Value) (d:Bool):KeepsOthers W (mtSet b4 V r d):=((h.trans (KeepsOthers.setCell _ _ _)).trans (KeepsOthers.setCell _ _ _)).trans (KeepsOthers.setCell _ _ _)
theorem Pts.mtSet {b4:Nat} {r:Value} {fd:Bool} {W:World} {v:Value} {L:List QP} (h:Pts W v L) (hc:MtCells b4 r fd W) (hr:∀ s,r≠.string s) (r':Value) (d:Bool):Pts (mtSet b4 W r' d) v L:=by
 refine ((h.set1 hc.r hr r').set1 (u:=.bool fd) ((Below.heap_setCell _ _ _ _ (by show b4+1≠b4;omega)).trans hc.d) (fun s=>by simp) _).set1 (u:=.int .i64 0) (((Below.heap_setCell _ _ _ _ (by show b4+1+1≠b4+1;omega)).trans (Below.heap_setCell _ _ _ _ (by show b4+1+1≠b4;omega))).trans hc.e) (fun s=>by simp) _
theorem MtInv.next {wS W V:World} {b4 b8 Bp k:Nat} {vp ov r:Value} {P Q O:List QP} {x:Act} (h:MtInv wS b4 b8 Bp vp P Q k W) (hM:Meet P Q k O) (hQ:Cvx Q) (hk:k<Q.length) (hp:∃ p∈O,0<sdF Q k p) (hov:W.heap[b8]?=some (slBox ov)) (hb:Below W.heap.size W V)
  (hr:V.ownsRow W.heap.size 31 2 r (clipL (sdF Q k) O).length (cellsS ((clipL (sdF Q k) O).map textP))) (h8:b4+3≤b8) (h9:b8<Bp) (hB:Bp<wS.heap.size) :
  RoundAt wS.heap.size (KeepQ b4 Bp) (MtInv wS b4 b8 Bp vp P Q) (MtStop wS b4 P Q) k W .normal x (V.setCell ⟨b8,0,none⟩ r):=by
 have hs:=h.sz
 have hz:=hb.size
 have hB4:Below b4 W (V.setCell ⟨b8,0,none⟩ r):=(hb.mono (by omega)).setCell (p:=⟨b8,0,none⟩) (by show b4≤b8;omega) _
 have hbx:(V.setCell ⟨b8,0,none⟩ r).heap[Bp]?=W.heap[Bp]?:=(Below.heap_setCell _ (⟨b8,0,none⟩ : Addr) _ Bp (by show Bp≠b8;omega)).trans (hb.block _ (by omega))
 refine ⟨(KeepsOthers.trans ⟨hb.size,fun j o h _=>(hb.block j (lt_of_some h)).trans h⟩ (KeepsOthers.setCell _ _ _)).from _,⟨hB4,hbx⟩,h.low.trans hB4,(h.cells.below (hb.mono (by omega))).other h8 _,⟨r,_,set_block r ((hb.block _ (lt_of_some hov)).trans hov),hM.next hQ hk hp,.inr ?_⟩,hbx.trans h.box,Nat.le_trans hs hB4.size⟩
 refine ownsRow_setCell_below ⟨hr.1,?_⟩ (by show b8<wS.heap.size;omega) _
 rcases hr.2 with h | ⟨g,cap,cur,e1,e2,e3⟩
 ·exact .inl h
 ·exact .inr ⟨g,cap,cur,e1,by omega,e3⟩
theorem MtInv.halt {wS W V:World} {b4 b8 Bp k:Nat} {vp r:Value} {P Q O:List QP} {x:Act} (h:MtInv wS b4 b8 Bp vp P Q k W) (hM:Meet P Q k O) (hQ:Cvx Q) (hk:k<Q.length) (hp:¬ ∃ p∈O,0<sdF Q k p) (hb:Below W.heap.size W V) (h8:b4+3≤b8) (hB:b8<wS.heap.size) :
  RoundAt wS.heap.size (KeepQ b4 Bp) (MtInv wS b4 b8 Bp vp P Q) (MtStop wS b4 P Q) k W .ret x (mtSet b4 (V.setCell ⟨b8,0,none⟩ r) (.slice none 0 0) false):=by
 have hs:=h.sz
 have hz:=hb.size
 have hB4:Below b4 W (V.setCell ⟨b8,0,none⟩ r):=(hb.mono (by omega)).setCell (p:=⟨b8,0,none⟩) (by show b4≤b8;omega) _
 have hB5:=below_mtSet hB4 (Nat.le_refl _) (.slice none 0 0) false
 refine ⟨(keeps_mtSet (KeepsOthers.trans ⟨hb.size,fun j o h _=>(hb.block j (lt_of_some h)).trans h⟩ (KeepsOthers.setCell _ _ _)) _ _).from _,rfl,h.low.trans hB5,((h.cells.below (hb.mono (by omega))).other h8 _).all _ _,hM.stop hQ hk hp,Nat.le_trans hs hB5.size⟩
def MeetPost (P Q:List QP) (w:World) (e:Ending) (w':World):Prop:=∃ R r,e=.returned (.tuple #[r,.bool (decide (0<R.length)),.int .i64 0])∧Common P Q R∧Pts w' r R∧Below w.heap.size w w'
theorem boxes_meet {w wB:World} {vp vq:Value} (hwB:wB=(((w.alloc (Obj.cells #[.slice none 0 0] 22)).alloc (Obj.cells #[.bool false] 4)).alloc (Obj.cells #[.int .i64 0] 25)).alloc (Obj.cells #[vp,vq] 22)) :
  Below w.heap.size w wB∧wB.heap.size=w.heap.size+1+1+1+1∧MtCells w.heap.size (.slice none 0 0) false wB∧wB.heap[w.heap.size+1+1+1]?=some (.cells #[vp,vq] 22 (0,0)):=by
 have e1:=World.alloc_heap_new w (Obj.cells #[.slice none 0 0] 22)
 have p1:=alloc_below w (Obj.cells #[.slice none 0 0] 22)
 have s1:(w.alloc (Obj.cells #[.slice none 0 0] 22)).heap.size=w.heap.size+1:=by simp
 generalize w.alloc (Obj.cells #[.slice none 0 0] 22)=w1 at *
 have e2:=World.alloc_heap_new w1 (Obj.cells #[.bool false] 4)
 have p2:=alloc_below w1 (Obj.cells #[.bool false] 4)
 have s2:(w1.alloc (Obj.cells #[.bool false] 4)).heap.size=w1.heap.size+1:=by simp
 generalize w1.alloc (Obj.cells #[.bool false] 4)=w2 at *
 have e3:=World.alloc_heap_new w2 (Obj.cells #[.int .i64 0] 25)
 have p3:=alloc_below w2 (Obj.cells #[.int .i64 0] 25)
 have s3:(w2.alloc (Obj.cells #[.int .i64 0] 25)).heap.size=w2.heap.size+1:=by simp
 generalize w2.alloc (Obj.cells #[.int .i64 0] 25)=w3 at *
 have e4:=World.alloc_heap_new w3 (Obj.cells #[vp,vq] 22)
 have p4:=alloc_below w3 (Obj.cells #[vp,vq] 22)
 have s4:(w3.alloc (Obj.cells #[vp,vq] 22)).heap.size=w3.heap.size+1:=by simp
 rw [←hwB] at e4 p4 s4
 have q4:=p4
 have q3:=p3.trans (q4.mono (by omega))
 have q2:=p2.trans (q3.mono (by omega))
 have q1:=p1.trans (q2.mono (by omega))
 refine ⟨q1,by omega,⟨?_,?_,?_⟩,?_⟩
 ·exact (q2.block _ (by omega)).trans e1
 ·rw [←s1];exact (q3.block _ (by omega)).trans e2
 ·rw [←s1,←s2];exact (q4.block _ (by omega)).trans e3
 ·rw [←s1,←s2,←s3];exact e4
theorem pts_none (w:World):Pts w (.slice none 0 0) []:=⟨none,0,rfl,Nat.le_refl _,by decide,fun h=>absurd h (Nat.lt_irrefl _)⟩
theorem pg_inter_in (v u:Value) (P Q:List QP) (hP:Drf P) (hQ:Drf Q) (w:World) (hw:Good w) (hv:Pts w v P) (hu:Pts w u Q) :
  CallsIn Fence.wide 9 Tryz.prog 40 #[v,u] w (MeetPost P Q w):=by
 have hQ3:=hQ.poly.1.1
 have hQ8:=hQ.le8
 have hP3:=hP.poly.1.1
 have hP8:=hP.le8
 have HCP:=hid (fun w' (hg:Good w') (hp:Pts w' v P)=>pg_checkP v P hP3 (by omega) hP.ok w' hg hp)
 have HCQ:=hid (fun w' (hg:Good w') (hp:Pts w' u Q)=>pg_checkP u Q hQ3 (by omega) hQ.ok w' hg hp)
 rw [polyC_poly hP.poly] at HCP
 rw [polyC_poly hQ.poly] at HCQ
 have HDR:=hid (And.intro hP hQ)
 have HSD:=hid (fun p m c W=>pg_sides 8 p m c W)
 have HV:=hid hv
 have HU:=hid hu
 have hzQ:∀ i,i<Q.length→Sz2 402 (pt Q i):=fun i hi=>okP_sz (hQ.ok _ (pt_mem hi))
 have heg:∀ args w,(callFunc 97 args).run Tryz.prog w=.ok (.enter 97 args) w:=enters_of Tryz.func97 (by kernel_rfl) rfl
 have HKP:=hid (fun k (hk:k<Q.length) O (hM:Meet P Q k O) ov B1 B2 W (hg:Good W) (hp:Pts W ov O) (h1:W.heap[B1]?=some (.cells #[.string (tx (pt Q k).1),.string (tx (pt Q k).2)] 31 (0,0))) (h2:W.heap[B2]?=some (.cells #[.string (tx (pt Q (nxI Q.length k)).1),.string (tx (pt Q (nxI Q.length k)).2)] 31 (0,0))) =>
  callsIn_wide.1 (pg_keep_inT 97 #[.pointer (some ⟨B1,0,none⟩),.pointer (some ⟨B2,0,none⟩)] heg (sdF Q k) O (by have:=(hM.le hP hQ (by omega)).1;omega) (by have:=(hM.le hP hQ (by omega)).2;omega) (fun p hp=>(okP_sz (hM.ok hP hQ p hp)).mono (by decide))
   (fun p hp=>(sz_crs (hzQ k hk) (hzQ _ (nxI_lt (by omega))) (okP_sz (hM.ok hP hQ p hp))).mono (by decide)) ov W hg hp
   (fun p hp W' hgW hbW=>pg_inter1 B1 B2 (pt Q k) (pt Q (nxI Q.length k)) p ((hzQ k hk).mono (by decide)) ((hzQ _ (nxI_lt (by omega))).mono (by decide)) ((okP_sz (hM.ok hP hQ p hp)).mono (by decide)) W' hgW ((hbW.block _ (lt_of_blk h1)).trans h1) ((hbW.block _ (lt_of_blk h2)).trans h2))))
 have HFN:=hid (fun O (hM:Meet P Q Q.length O) ov W (hg:Good W) (hp:Pts W ov O)=>pg_finish ov O (by have:=(hM.le hP hQ (Nat.le_refl _)).1;omega) (by have:=(hM.le hP hQ (Nat.le_refl _)).2;omega) (fun p hp=>(okP_sz (hM.ok hP hQ p hp)).mono (by decide)) W hg hp)
 have HSB:=hid (fun k O=>some_left_iff (sdF Q k) O)
 unfold KeepPostT at HKP
 unfold FinPost at HFN
 have qnil:∀ (w:World) (a:Addr) (n c:Nat),(binOp .eql 22 (.slice (some a) n c) (.slice none 0 0)).run Tryz.prog w=.ok (.bool false) w:=fun w a n c=>Lib.run_eql_slice_nil w _ _ (some a) n c 0 0 Tryz.underlying22
 have qnil0:∀ (w:World),(binOp .eql 22 (.slice none 0 0) (.slice none 0 0)).run Tryz.prog w=.ok (.bool true) w:=fun w=>Lib.run_eql_slice_nil w _ _ none 0 0 0 0 Tryz.underlying22
 obtain ⟨p1,c1,rfl,_,_⟩:=hv.slice
 obtain ⟨p2,c2,rfl,_,hcm⟩:=hu.slice
 clear hv hu hzQ heg hP hQ
 obtain ⟨wA,hwA⟩ : ∃ wA,wA=(((w.alloc (Obj.cells #[.slice none 0 0] 22)).alloc (Obj.cells #[.bool false] 4)).alloc (Obj.cells #[.int .i64 0] 25)).alloc (Obj.cells #[.slice p1 P.length c1,.slice p2 Q.length c2] 22):=⟨_,rfl⟩
 have HWA:=hid hwA
 obtain ⟨hbA,lA,hcA,hxA⟩:=boxes_meet hwA
 have HCC:=hid hcA
 have HXA:=hid hxA
 clear hcA hxA
 refine callsIn_of_wp_marks Tryz.func40 rfl trivial ?_ rfl
 simp only [Tryz.ntmps40,List.size_toArray,List.length_cons,List.length_nil,Nat.reduceAdd,Nat.reduceSub,Array.replicate_succ,Array.replicate_zero,List.push_toArray,List.append_toArray,List.nil_append,List.cons_append]
 clear hwA
 gi_wp2
 rw [←HWA.out]
 refine ⟨trivial,?_⟩
 refine (callsIn_wide.2 (pg_checks (w.heap.size+1+1+1) _ p1 p2 P.length Q.length c1 c2 0 wA (hw.below hbA) HXA.out (fun w' hg hb=>HCP.out w' hg (HV.out.below (hbA.trans (hb.mono hbA.size)))) (fun w' hg hb=>HCQ.out w' hg (HU.out.below (hbA.trans (hb.mono hbA.size)))))).mono ?_
 rintro e w1 ⟨rfl,h1⟩
 have hb1:=hbA.trans (h1.mono hbA.size)
 have HC1:=hid (HCC.out.below (h1.mono (by omega)))
 have l1:=h1.size
 clear HWA HCC HXA HCP HCQ
 gi_wp2
 obtain ⟨wL,hwL⟩ : ∃ wL,wL=w1.alloc (Obj.cells #[.slice p1 P.length c1] 22):=⟨_,rfl⟩
 obtain ⟨hbL,hxL⟩:=box_any hwL
 have hsL:wL.heap.size=w1.heap.size+1:=by rw [hwL];simp
 rw [←hwL]
 have HXL:=hid hxL
 have HCL:=hid (HC1.out.below (hbL.mono (by omega)))
 have hbL2:=hb1.trans (hbL.mono hb1.size)
 clear hwL hxL HC1
 refine ⟨trivial,?_⟩
 refine (HSD.out p2 Q.length c2 wL).mono ?_
 rintro e wS ⟨rfl,hwS⟩
 have hbS:Below wL.heap.size wL wS:=by rw [hwS];exact alloc_below _ _
 have hsS:wS.heap.size=wL.heap.size+1:=by rw [hwS];simp
 have hxS:wS.heap[wL.heap.size]?=some (slBox (.slice p2 Q.length c2)):=by rw [hwS];exact World.alloc_heap_new _ _
 have HXS:=hid hxS
 obtain ⟨b8,hb8⟩ : ∃ b8,b8=w1.heap.size:=⟨_,rfl⟩
 have h8:w.heap.size+3≤b8:=by omega
 have h9:b8<wL.heap.size:=by omega
 have h9S:wL.heap.size<wS.heap.size:=by omega
 have h8S:b8<wS.heap.size:=by omega
 have h3S:w.heap.size+3≤wS.heap.size:=by omega
 have hbwS:=hbL2.trans (hbS.mono (by omega))
 have HCS:=hid (HCL.out.below (hbS.mono (by omega)))
 rw [←hb8] at HXL ⊢
 have HOS:=hid (show wS.heap[b8]?=some (slBox (.slice p1 P.length c1)) from (hbS.block _ h9).trans HXL.out)
 clear hwS hxS HCL HXL hsS hsL hb8 hbL2 hbL
 gi_wp2
 refine wpIn_rangeFunc_side (n:=9) 21 22 9 10 Q rfl (by decide) (gf:=112) (lb:=#[.pointer (some ⟨wL.heap.size,0,none⟩)]) rfl trivial (enters_of Tryz.func112 (by kernel_rfl) rfl)
  (sides_at 64 8 (by decide) wL.heap.size w Q _ HU.out (by omega) (by omega) wS hbwS HXS.out)
  KeepQ.trans (KeepQ.put (by omega) h9S) (Below.refl _ _) (fun _=>rfl)
  (MtInv wS w.heap.size b8 wL.heap.size (.slice p1 P.length c1) P Q) (MtStop wS w.heap.size P Q) (MtInv.own h3S h8S h9S) (fun c=>MtStop.own c h3S)
  ⟨Below.refl _ _,HCS.out,⟨_,P,HOS.out,Meet.zero Q HDR.out.1.poly.1,.inl ⟨rfl,rfl⟩⟩,rfl,Nat.le_refl _⟩ ?assign ?body ?done ?stop
 case assign =>
  intro l k hk W K hi hK
  have hsz:=hi.sz
  simp only [sideE,ptV]
  obtain ⟨hbb,b1,b2⟩:=boxes2 (w:=W) (a:=.string (tx (pt Q k).1)) (b:=.string (tx (pt Q k).2)) (c:=.string (tx (pt Q (nxI Q.length k)).1)) (d:=.string (tx (pt Q (nxI Q.length k)).2)) (t:=31) rfl
  have HBB:=hid hbb
  have HB1:=hid b1
  have HB2:=hid b2
  have HI:=hid hi
  clear hbb b1 b2 hi
  generalize hp1:tx (pt Q k).1=t1 at *
  generalize hp2:tx (pt Q k).2=t2 at *
  generalize hq1:tx (pt Q (nxI Q.length k)).1=t3 at *
  generalize hq2:tx (pt Q (nxI Q.length k)).2=t4 at *
  have HPQ:=hid (And.intro hp1 (And.intro hp2 (And.intro hq1 hq2)))
  clear hp1 hp2 hq1 hq2
  gi_wp2
  obtain ⟨hp1,hp2,hq1,hq2⟩:=HPQ.out
  subst hp1 hp2 hq1 hq2
  obtain ⟨ov,O,hov,hM,hrow⟩:=HI.out.out
  exact hK _ _ (keepsFrom_below HBB.out) (KeepQ.of_below HBB.out (by omega) (by omega)) ⟨HI.out.low.trans (HBB.out.mono (by omega)),HI.out.cells.below (HBB.out.mono (by omega)),⟨ov,O,(HBB.out.block _ (by omega)).trans hov,hM,hrow.below HBB.out⟩,(HBB.out.block _ (by omega)).trans HI.out.box,Nat.le_trans hsz HBB.out.size⟩ ⟨W.heap.size,W.heap.size+1,hsz,by omega,HB1.out,HB2.out,rfl⟩
 case body =>
  rintro l k hk a' W hl hinv ⟨B1,B2,hB1,hB2,hd1,hd2,rfl⟩
  simp only [List.setIfInBounds_toArray,List.set_cons_zero,List.set_cons_succ,ptV]
  have hsW:=hinv.sz
  have hlow:=hinv.low
  have hgW:Good W:=hw.below (hbwS.trans hlow)
  have HINV:=hid hinv
  obtain ⟨ov,O,hov,hM,hrow⟩:=hinv.out
  have hpt:=hrow.pts HV.out (hbwS.trans hlow)
  obtain ⟨po,co,rfl,_,_⟩:=hpt.slice
  have HM:=hid hM
  have HOV:=hid hov
  have H1:=hid (HKP.out k hk O hM _ B1 B2 W hgW hpt hd1 hd2)
  have HS:=hid (HSB.out k O)
  have hC:=hinv.cells
  have HCW:=hid hC
  obtain ⟨o0,o1⟩:=one_cell (show W.heap[b8]?=some (.cells #[_] 22 (0,0)) from hov)
  clear hinv hd1 hd2 hM hrow hpt hov hC HKP
  generalize tx (pt Q k).1=t1 at *
  generalize tx (pt Q k).2=t2 at *
  generalize tx (pt Q (nxI Q.length k)).1=t3 at *
  generalize tx (pt Q (nxI Q.length k)).2=t4 at *
  gi_wp2
  refine ⟨trivial,?_⟩
  refine (CallsIn.inRound l (callsIn_wide.2 H1.out)).mono ?_
  rintro e V ⟨r,rfl,hV,hor⟩
  have HC2:=hid (HCW.out.below (hV.mono (by omega)))
  have HO2:=hid ((hV.block _ (lt_of_blk HOV.out)).trans HOV.out)
  clear o0 o1
  obtain ⟨o0,o1⟩:=one_cell (show V.heap[b8]?=some (.cells #[_] 22 (0,0)) from HO2.out)
  obtain ⟨r0,r1⟩:=one_cell (show V.heap[w.heap.size]?=some (.cells #[_] 22 (0,0)) from HC2.out.r)
  obtain ⟨d0,d1⟩:=one_cell HC2.out.d
  obtain ⟨e0,e1⟩:=one_cell HC2.out.e
  rcases hor with ⟨hs,_,hrw⟩ | ⟨hs,rfl⟩
  ·have hex:=HS.out.1 hs
   have HEX:=hid hex
   have h3c:3≤(clipL (sdF Q k) O).length:=(HM.out.three HDR.out.2.poly.1 hk).2 hex
   have HRW:=hid hrw
   rcases hrw.2 with ⟨_,h0⟩ | ⟨g,cap,cur,rfl,_⟩
   ·omega
   ·clear hrw hs hex
    generalize hcl:(clipL (sdF Q k) O).length=nc at *
    have HCLN:=hid hcl
    clear hcl
    gi_wp2
    exact HINV.out.next HM.out HDR.out.2.poly.1 hk HEX.out HOV.out hV (by rw [HCLN.out];exact HRW.out) h8 h9 h9S
  ·have HEX:=hid (show ¬ ∃ p∈O,0<sdF Q k p from fun h=>by have:=HS.out.2 h;rw [hs] at this;exact Bool.noConfusion this)
   clear hs
   gi_wp2
   exact HINV.out.halt HM.out HDR.out.2.poly.1 hk HEX.out hV h8 h8S
 case done =>
  rintro Dk W hD hinv hK
  have hsW:=hinv.sz
  have hlow:=hinv.low
  have hgW:Good W:=hw.below (hbwS.trans hlow)
  have HLOW:=hid (hbwS.trans hlow)
  obtain ⟨ov,O,hov,hM,hrow⟩:=hinv.out
  have hpt:=hrow.pts HV.out (hbwS.trans hlow)
  obtain ⟨po,co,rfl,_,_⟩:=hpt.slice
  have HM:=hid hM
  have HOV:=hid hov
  have HCW:=hid hinv.cells
  have HDD:=hid hK
  have H1:=hid (HFN.out O hM _ W hgW hpt)
  have hO3:=(hM.le HDR.out.1 HDR.out.2 (Nat.le_refl _)).1
  obtain ⟨o0,o1⟩:=one_cell (show W.heap[b8]?=some (.cells #[_] 22 (0,0)) from hov)
  clear hinv hM hrow hpt hov hK hlow HFN HKP
  gi_wp2
  refine ⟨trivial,?_⟩
  refine (callsIn_wide.2 H1.out).mono ?_
  rintro e V ⟨hor,hV⟩
  rcases hor with ⟨r,t,_,rfl,hLA,hPt⟩ | ⟨⟨p,hp,hnp⟩,_⟩
  ·have hn:=rotL_len O (Nat.le_of_lt hLA.1)
   have HLA:=hid hLA
   have HPT:=hid hPt
   obtain ⟨pr,cr,rfl,_,_⟩:=hPt.slice
   have HC2:=hid (HCW.out.below (hV.mono (by omega)))
   have HO2:=hid (show V.heap[b8]?=some (.cells #[.slice po O.length co] 22 (0,0)) from (hV.block _ (lt_of_blk HOV.out)).trans HOV.out)
   have hlv:=hV.size
   have hDk:=(hV.block Dk (lt_of_some HDD.out)).trans HDD.out
   have HDV:=hid hDk
   have HN:=hid hn
   clear o0 o1 hLA hPt hDk
   generalize hRL:rotL O t=RL at *
   have HRL:=hid hRL
   clear hRL hn
   obtain ⟨o0,o1⟩:=one_cell HO2.out
   obtain ⟨r0,r1⟩:=one_cell (show V.heap[w.heap.size]?=some (.cells #[_] 22 (0,0)) from HC2.out.r)
   obtain ⟨d0,d1⟩:=one_cell HC2.out.d
   obtain ⟨e0,e1⟩:=one_cell HC2.out.e
   gi_wp2
   obtain ⟨X,hX⟩ : ∃ X,X=(V.setCell ⟨b8,0,none⟩ (.slice pr RL.length cr)).setCell ⟨w.heap.size+1+1,0,none⟩ (.int .i64 0):=⟨_,rfl⟩
   have hcX:MtCells w.heap.size (.slice none 0 0) false X:=by
    have hc:=HC2.out.other h8 (.slice pr RL.length cr)
    rw [hX]
    exact ⟨(Below.heap_setCell _ _ _ _ (by show w.heap.size≠w.heap.size+1+1;omega)).trans hc.r,(Below.heap_setCell _ _ _ _ (by show w.heap.size+1≠w.heap.size+1+1;omega)).trans hc.d,set_block (.int .i64 0) hc.e⟩
   have hpX:Pts X (.slice pr RL.length cr) RL:=by
    rw [hX]
    exact (HPT.out.set1 HO2.out (fun s=>by simp) _).set1 (HC2.out.other h8 _).e (fun s=>by simp) _
   have hbX:Below w.heap.size w X:=by
    rw [hX]
    exact ((HLOW.out.trans (hV.mono (by omega))).setCell (p:=⟨b8,0,none⟩) (by show w.heap.size≤b8;omega) _).setCell (p:=⟨w.heap.size+1+1,0,none⟩) (by show w.heap.size≤w.heap.size+1+1;omega) _
   have hKX:X.heap[Dk]?=some (.deferred (some [])):=by
    rw [hX,Below.heap_setCell _ _ _ _ (by show Dk≠w.heap.size+1+1;omega),Below.heap_setCell _ _ _ _ (by show Dk≠b8;omega)]
    exact HDV.out
   rw [←hX]
   have hcY:=hcX.all (.slice pr RL.length cr) true
   have hpY:=hpX.mtSet hcX (fun s=>by simp) (.slice pr RL.length cr) true
   have hbY:=below_mtSet hbX (Nat.le_refl _) (.slice pr RL.length cr) true
   have hKY:(mtSet w.heap.size X (.slice pr RL.length cr) true).heap[Dk]?=some (.deferred (some [])):=(mtSet_keep _ _ (by omega)).trans hKX
   have hpw:=putObj_below (mtSet w.heap.size X (.slice pr RL.length cr) true) Dk (.deferred none) (B:=w.heap.size+3) (by omega)
   have hcZ:=hcY.below hpw
   have HPZ:=hid (hpY.put (o:=.deferred none) (fun c t fz h=>by rw [hKY] at h;cases h))
   have HBZ:=hid (hbY.trans (hpw.mono (by omega)))
   clear o0 o1 r0 r1 d0 d1 e0 e1
   obtain ⟨r0,r1⟩:=one_cell (show (World.putObj _ _ _).heap[w.heap.size]?=some (.cells #[_] 22 (0,0)) from hcZ.r)
   obtain ⟨d0,d1⟩:=one_cell hcZ.d
   obtain ⟨e0,e1⟩:=one_cell hcZ.e
   unfold mtSet at hKY r0 d0 e0 HPZ HBZ
   refine ⟨by simp,.inl ⟨_,_,rfl,run_takeDeferred hKY,?_⟩⟩
   refine ⟨.tuple #[.slice pr RL.length cr,.bool true,.int .i64 0],by simp [results,Tryz.results40,go_sem,r0,d0,e0],?_⟩
   refine ⟨RL,_,by rw [decide_eq_true (show 0<RL.length by have:=HN.out;omega)],?_,HPZ.out,HBZ.out⟩
   rw [←HRL.out]
   exact HM.out.all HLA.out
  ·exact absurd (OkB.q (HM.out.ok HDR.out.1 HDR.out.2 p hp)) hnp
 case stop =>
  rintro Dk c k W hD hk ⟨rfl,hlow,hcc,hout,hsz⟩ hK
  have hpw:=putObj_below W Dk (.deferred none) (B:=w.heap.size+3) (by omega)
  have hcp:=hcc.below hpw
  obtain ⟨r0,r1⟩:=one_cell (show (World.putObj _ _ _).heap[w.heap.size]?=some (.cells #[_] 22 (0,0)) from hcp.r)
  obtain ⟨d0,d1⟩:=one_cell hcp.d
  obtain ⟨e0,e1⟩:=one_cell hcp.e
  have HOUT:=hid hout
  have HLOW:=hid (hbwS.trans hlow)
  clear hout hlow
  gi_wp2
  refine ⟨by simp,.inl ⟨_,_,rfl,run_takeDeferred hK,?_⟩⟩
  refine ⟨.tuple #[.slice none 0 0,.bool false,.int .i64 0],by simp [results,Tryz.results40,go_sem,r0,d0,e0],?_⟩
  exact ⟨[],_,rfl,.inl ⟨rfl,HOUT.out⟩,pts_none _,HLOW.out.trans (hpw.mono (by omega))⟩
theorem pg_Intersect (v u:Value) (P Q:List QP) (hP:Drf P) (hQ:Drf Q) (w:World) (hw:Good w) (hv:Pts w v P) (hu:Pts w u Q) :
  Calls Tryz.prog 40 #[v,u] w (MeetPost P Q w):=callsIn_wide.1 (pg_inter_in v u P Q hP hQ w hw hv hu)
end Go.Proofs.YtgohnjdgoglcfaaGreatDoor
