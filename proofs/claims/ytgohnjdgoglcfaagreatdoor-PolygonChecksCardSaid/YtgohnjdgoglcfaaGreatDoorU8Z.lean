import Derived.Test.YtgohnjdgoglcfaaGreatDoorU5Z
set_option maxRecDepth 100000
set_option maxHeartbeats 8000000
namespace Go.Proofs.YtgohnjdgoglcfaaGreatDoor
open Go.RowKit Go.Shelf
open Go.Lib (decDigits itoa nDigits)
open Go.Lib (hid)
attribute [local go_sem] Oper.semAt_some
def ChIn (P:List QP) (a b:QP) (n:Nat):Prop:=∀ i,i<n→¬ (sdU P a i<0∧sdU P b i<0)
def ChordOut (P:List QP) (a b:QP) (v:Value):Prop:=
 (ChIn P a b P.length∧loP P a b P.length<hiP P a b P.length∧v=.tuple #[.string (tx (loP P a b P.length)),.string (tx (hiP P a b P.length)),.bool true,.int .i64 0]) ∨
 (¬ (ChIn P a b P.length∧loP P a b P.length<hiP P a b P.length)∧v=.tuple #[.string ⟨#[]⟩,.string ⟨#[]⟩,.bool false,.int .i64 0])
theorem loP_sz {P:List QP} {a b:QP} {n:Nat} (h:∀ k,k<P.length→Sz n (sdK P a b k)) (h0:1≤n):∀ k,k≤P.length→Sz n (loP P a b k)
 | 0,_=>Nat.le_trans (show (tx 0).size≤1 by decide +kernel) h0
 | k+1,hk=>by
  unfold loP
  split
  ·exact h k hk
  ·exact loP_sz h h0 k (by omega)
theorem hiP_sz {P:List QP} {a b:QP} {n:Nat} (h:∀ k,k<P.length→Sz n (sdK P a b k)) (h0:1≤n):∀ k,k≤P.length→Sz n (hiP P a b k)
 | 0,_=>Nat.le_trans (show (tx 1).size≤1 by decide +kernel) h0
 | k+1,hk=>by
  unfold hiP
  split
  ·exact h k hk
  ·exact hiP_sz h h0 k (by omega)
structure ChCells (b4:Nat) (a1 a2 b1 b2 f t:ByteArray) (fd:Bool) (er:Int) (W:World):Prop where
 a:W.heap[b4]?=some (.cells #[.string a1,.string a2] 31 (0,0))
 b:W.heap[b4+1]?=some (.cells #[.string b1,.string b2] 31 (0,0))
 f:W.heap[b4+1+1]?=some (.cells #[.string f] 29 (0,0))
 t:W.heap[b4+1+1+1]?=some (.cells #[.string t] 29 (0,0))
 d:W.heap[b4+1+1+1+1]?=some (.cells #[.bool fd] 4 (0,0))
 e:W.heap[b4+1+1+1+1+1]?=some (.cells #[.int .i64 er] 25 (0,0))
theorem ChCells.below {b4:Nat} {a1 a2 b1 b2 f t:ByteArray} {fd:Bool} {er:Int} {W W':World} (h:ChCells b4 a1 a2 b1 b2 f t fd er W) (hb:Below (b4+6) W W'):ChCells b4 a1 a2 b1 b2 f t fd er W':=
 ⟨(hb.block _ (by omega)).trans h.a,(hb.block _ (by omega)).trans h.b,(hb.block _ (by omega)).trans h.f,(hb.block _ (by omega)).trans h.t,(hb.block _ (by omega)).trans h.d,(hb.block _ (by omega)).trans h.e⟩
theorem ChCells.setF {b4:Nat} {a1 a2 b1 b2 f t:ByteArray} {fd:Bool} {er:Int} {W:World} (h:ChCells b4 a1 a2 b1 b2 f t fd er W) (f':ByteArray):ChCells b4 a1 a2 b1 b2 f' t fd er (W.setCell ⟨b4+1+1,0,none⟩ (.string f')):=by
 have one:∀ j,j≠b4+1+1→(W.setCell ⟨b4+1+1,0,none⟩ (.string f')).heap[j]?=W.heap[j]?:=fun j hj=>Below.heap_setCell _ _ _ j hj
 exact ⟨(one _ (by omega)).trans h.a,(one _ (by omega)).trans h.b,set_block (.string f') h.f,(one _ (by omega)).trans h.t,(one _ (by omega)).trans h.d,(one _ (by omega)).trans h.e⟩
theorem ChCells.setT {b4:Nat} {a1 a2 b1 b2 f t:ByteArray} {fd:Bool} {er:Int} {W:World} (h:ChCells b4 a1 a2 b1 b2 f t fd er W) (t':ByteArray):ChCells b4 a1 a2 b1 b2 f t' fd er (W.setCell ⟨b4+1+1+1,0,none⟩ (.string t')):=by
 have one:∀ j,j≠b4+1+1+1→(W.setCell ⟨b4+1+1+1,0,none⟩ (.string t')).heap[j]?=W.heap[j]?:=fun j hj=>Below.heap_setCell _ _ _ j hj
 exact ⟨(one _ (by omega)).trans h.a,(one _ (by omega)).trans h.b,(one _ (by omega)).trans h.f,set_block (.string t') h.t,(one _ (by omega)).trans h.d,(one _ (by omega)).trans h.e⟩
theorem ChCells.setD {b4:Nat} {a1 a2 b1 b2 f t:ByteArray} {fd:Bool} {er:Int} {W:World} (h:ChCells b4 a1 a2 b1 b2 f t fd er W) (d':Bool):ChCells b4 a1 a2 b1 b2 f t d' er (W.setCell ⟨b4+1+1+1+1,0,none⟩ (.bool d')):=by
 have one:∀ j,j≠b4+1+1+1+1→(W.setCell ⟨b4+1+1+1+1,0,none⟩ (.bool d')).heap[j]?=W.heap[j]?:=fun j hj=>Below.heap_setCell _ _ _ j hj
 exact ⟨(one _ (by omega)).trans h.a,(one _ (by omega)).trans h.b,(one _ (by omega)).trans h.f,(one _ (by omega)).trans h.t,set_block (.bool d') h.d,(one _ (by omega)).trans h.e⟩
theorem ChCells.setE {b4:Nat} {a1 a2 b1 b2 f t:ByteArray} {fd:Bool} {er:Int} {W:World} (h:ChCells b4 a1 a2 b1 b2 f t fd er W) (e':Int):ChCells b4 a1 a2 b1 b2 f t fd e' (W.setCell ⟨b4+1+1+1+1+1,0,none⟩ (.int .i64 e')):=by
 have one:∀ j,j≠b4+1+1+1+1+1→(W.setCell ⟨b4+1+1+1+1+1,0,none⟩ (.int .i64 e')).heap[j]?=W.heap[j]?:=fun j hj=>Below.heap_setCell _ _ _ j hj
 exact ⟨(one _ (by omega)).trans h.a,(one _ (by omega)).trans h.b,(one _ (by omega)).trans h.f,(one _ (by omega)).trans h.t,(one _ (by omega)).trans h.d,set_block (.int .i64 e') h.e⟩
theorem ChCells.own {T:TypeId} {b4 B:Nat} {a1 a2 b1 b2 f t:ByteArray} {fd:Bool} {er:Int} {W W':World} {row:Option Nat} (h:ChCells b4 a1 a2 b1 b2 f t fd er W) (hB:b4+6≤B) (hg:W.grownBy W' row) (hr:∀ r,row=some r→B≤r∧∃ o:Obj,W.heap[r]?=some o∧(o.isCells=false∨∃ c fz,o=.cells c T fz)):ChCells b4 a1 a2 b1 b2 f t fd er W':=by
 have keep:∀ j,j<B→(o:Obj)→W.heap[j]?=some o→W'.heap[j]?=some o:=fun j hj o ho=>(hg.block _ (lt_of_some ho) fun e=>by have:=(hr _ e.symm).1;omega).trans ho
 exact ⟨keep _ (by omega) _ h.a,keep _ (by omega) _ h.b,keep _ (by omega) _ h.f,keep _ (by omega) _ h.t,keep _ (by omega) _ h.d,keep _ (by omega) _ h.e⟩
structure ChInv (wS:World) (b4 Bp:Nat) (a1 a2 b1 b2:ByteArray) (P:List QP) (a b:QP) (k:Nat) (W:World):Prop where
 low:Below b4 wS W
 cells:ChCells b4 a1 a2 b1 b2 (tx (loP P a b k)) (tx (hiP P a b k)) false 0 W
 inn:ChIn P a b k
 box:W.heap[Bp]?=wS.heap[Bp]?
 sz:wS.heap.size≤W.heap.size
structure ChStop (wS:World) (b4:Nat) (a1 a2 b1 b2:ByteArray) (P:List QP) (a b:QP) (c:Code) (_k:Nat) (W:World):Prop where
 ret:c=.ret
 low:Below b4 wS W
 cells:ChCells b4 a1 a2 b1 b2 ⟨#[]⟩ ⟨#[]⟩ false 0 W
 out:¬ ChIn P a b P.length
 sz:wS.heap.size≤W.heap.size
theorem ChInv.own {T:TypeId} {wS:World} {b4 Bp:Nat} {a1 a2 b1 b2:ByteArray} {P:List QP} {a b:QP} (h8:b4+6≤wS.heap.size) (hp:Bp<wS.heap.size):OwnT T wS.heap.size (ChInv wS b4 Bp a1 a2 b1 b2 P a b):=by
 intro k X Y row ⟨h1,h2,h3,h4,h5⟩ hg hr
 refine ⟨below_keptT h1 (by omega) (by omega) hg hr,h2.own h8 hg hr,h3,?_,Nat.le_trans h5 hg.size⟩
 refine (hg.block _ (by omega) fun e=>?_).trans h4
 have:=(hr _ e.symm).1
 omega
theorem ChStop.own {T:TypeId} {wS:World} {b4:Nat} {a1 a2 b1 b2:ByteArray} {P:List QP} {a b:QP} (c:Code) (h8:b4+6≤wS.heap.size):OwnT T wS.heap.size (ChStop wS b4 a1 a2 b1 b2 P a b c):=by
 intro k X Y row ⟨h0,h1,h2,h3,h5⟩ hg hr
 exact ⟨h0,below_keptT h1 (by omega) (by omega) hg hr,h2.own h8 hg hr,h3,Nat.le_trans h5 hg.size⟩
theorem ChInv.inn_succ {P:List QP} {a b:QP} {k:Nat} (h:ChIn P a b k) (hin:¬ (sdU P a k<0∧sdU P b k<0)):ChIn P a b (k+1):=fun i hi=>by
 rcases (show i<k∨i=k by omega) with h1 | h1
 ·exact h i h1
 ·rw [h1];exact hin
theorem ChInv.nextN {wS W V:World} {b4 Bp:Nat} {a1 a2 b1 b2:ByteArray} {P:List QP} {a b:QP} {k:Nat} {x:Act} (h:ChInv wS b4 Bp a1 a2 b1 b2 P a b k W) (hb:Below W.heap.size W V) (hin:¬ (sdU P a k<0∧sdU P b k<0)) (h6:b4+6≤wS.heap.size) (hp:Bp<wS.heap.size)
  (hl:loP P a b (k+1)=loP P a b k) (hh:hiP P a b (k+1)=hiP P a b k):RoundAt wS.heap.size (KeepQ b4 Bp) (ChInv wS b4 Bp a1 a2 b1 b2 P a b) (ChStop wS b4 a1 a2 b1 b2 P a b) k W .normal x V:=by
 have hs:=h.sz
 have hz:=hb.size
 refine ⟨(show KeepsOthers W V from ⟨hb.size,fun j o h _=>(hb.block j (lt_of_some h)).trans h⟩).from _,⟨hb.mono (by omega),hb.block _ (by omega)⟩,h.low.trans (hb.mono (by omega)),?_,ChInv.inn_succ h.inn hin,(hb.block _ (by omega)).trans h.box,by omega⟩
 rw [hl,hh]
 exact h.cells.below (hb.mono (by omega))
theorem ChInv.nextF {wS W V:World} {b4 Bp:Nat} {a1 a2 b1 b2 r:ByteArray} {P:List QP} {a b:QP} {k:Nat} {x:Act} (h:ChInv wS b4 Bp a1 a2 b1 b2 P a b k W) (hb:Below W.heap.size W V) (hin:¬ (sdU P a k<0∧sdU P b k<0)) (hp:Bp<wS.heap.size) (hpb:b4+6≤Bp)
  (hl:tx (loP P a b (k+1))=r) (hh:hiP P a b (k+1)=hiP P a b k):RoundAt wS.heap.size (KeepQ b4 Bp) (ChInv wS b4 Bp a1 a2 b1 b2 P a b) (ChStop wS b4 a1 a2 b1 b2 P a b) k W .normal x (V.setCell ⟨b4+1+1,0,none⟩ (.string r)):=by
 have hs:=h.sz
 have hz:=hb.size
 have hB:Below b4 W (V.setCell ⟨b4+1+1,0,none⟩ (.string r)):=(hb.mono (by omega)).setCell (p:=⟨b4+1+1,0,none⟩) (by show b4≤b4+1+1;omega) _
 have hbx:(V.setCell ⟨b4+1+1,0,none⟩ (.string r)).heap[Bp]?=W.heap[Bp]?:=(Below.heap_setCell _ (⟨b4+1+1,0,none⟩ : Addr) _ Bp (by show Bp≠b4+1+1;omega)).trans (hb.block _ (by omega))
 refine ⟨(KeepsOthers.trans ⟨hb.size,fun j o h _=>(hb.block j (lt_of_some h)).trans h⟩ (KeepsOthers.setCell _ _ _)).from _,⟨hB,hbx⟩,h.low.trans hB,?_,ChInv.inn_succ h.inn hin,hbx.trans h.box,Nat.le_trans hs hB.size⟩
 rw [hl,hh]
 exact (h.cells.below (hb.mono (by omega))).setF r
theorem ChInv.nextT {wS W V:World} {b4 Bp:Nat} {a1 a2 b1 b2 r:ByteArray} {P:List QP} {a b:QP} {k:Nat} {x:Act} (h:ChInv wS b4 Bp a1 a2 b1 b2 P a b k W) (hb:Below W.heap.size W V) (hin:¬ (sdU P a k<0∧sdU P b k<0)) (hp:Bp<wS.heap.size) (hpb:b4+6≤Bp)
  (hl:loP P a b (k+1)=loP P a b k) (hh:tx (hiP P a b (k+1))=r):RoundAt wS.heap.size (KeepQ b4 Bp) (ChInv wS b4 Bp a1 a2 b1 b2 P a b) (ChStop wS b4 a1 a2 b1 b2 P a b) k W .normal x (V.setCell ⟨b4+1+1+1,0,none⟩ (.string r)):=by
 have hs:=h.sz
 have hz:=hb.size
 have hB:Below b4 W (V.setCell ⟨b4+1+1+1,0,none⟩ (.string r)):=(hb.mono (by omega)).setCell (p:=⟨b4+1+1+1,0,none⟩) (by show b4≤b4+1+1+1;omega) _
 have hbx:(V.setCell ⟨b4+1+1+1,0,none⟩ (.string r)).heap[Bp]?=W.heap[Bp]?:=(Below.heap_setCell _ (⟨b4+1+1+1,0,none⟩ : Addr) _ Bp (by show Bp≠b4+1+1+1;omega)).trans (hb.block _ (by omega))
 refine ⟨(KeepsOthers.trans ⟨hb.size,fun j o h _=>(hb.block j (lt_of_some h)).trans h⟩ (KeepsOthers.setCell _ _ _)).from _,⟨hB,hbx⟩,h.low.trans hB,?_,ChInv.inn_succ h.inn hin,hbx.trans h.box,Nat.le_trans hs hB.size⟩
 rw [hl,hh]
 exact (h.cells.below (hb.mono (by omega))).setT r
def chSet (b4:Nat) (V:World) (f t:ByteArray) (d:Bool) (e:Int):World:=(((V.setCell ⟨b4+1+1,0,none⟩ (.string f)).setCell ⟨b4+1+1+1,0,none⟩ (.string t)).setCell ⟨b4+1+1+1+1,0,none⟩ (.bool d)).setCell ⟨b4+1+1+1+1+1,0,none⟩ (.int .i64 e)
theorem ChCells.all {b4:Nat} {a1 a2 b1 b2 f t:ByteArray} {fd:Bool} {er:Int} {W:World} (h:ChCells b4 a1 a2 b1 b2 f t fd er W) (f' t':ByteArray) (d':Bool) (e':Int):ChCells b4 a1 a2 b1 b2 f' t' d' e' (chSet b4 W f' t' d' e'):=
 (((h.setF f').setT t').setD d').setE e'
theorem below_chSet {n b4:Nat} {W V:World} (h:Below n W V) (hn:n≤b4) (f t:ByteArray) (d:Bool) (e:Int):Below n W (chSet b4 V f t d e):=
 (((h.setCell (p:=⟨b4+1+1,0,none⟩) (by show n≤b4+1+1;omega) _).setCell (p:=⟨b4+1+1+1,0,none⟩) (by show n≤b4+1+1+1;omega) _).setCell (p:=⟨b4+1+1+1+1,0,none⟩) (by show n≤b4+1+1+1+1;omega) _).setCell (p:=⟨b4+1+1+1+1+1,0,none⟩) (by show n≤b4+1+1+1+1+1;omega) _
theorem chSet_keep {b4:Nat} {V:World} (f t:ByteArray) (d:Bool) (e:Int) {j:Nat} (hj:b4+6≤j):(chSet b4 V f t d e).heap[j]?=V.heap[j]?:=by
 unfold chSet
 rw [Below.heap_setCell _ _ _ j (by show j≠b4+1+1+1+1+1;omega),Below.heap_setCell _ _ _ j (by show j≠b4+1+1+1+1;omega),Below.heap_setCell _ _ _ j (by show j≠b4+1+1+1;omega),Below.heap_setCell _ _ _ j (by show j≠b4+1+1;omega)]
theorem ChInv.halt {wS W V:World} {b4 Bp:Nat} {a1 a2 b1 b2:ByteArray} {P:List QP} {a b:QP} {k:Nat} {x:Act} (h:ChInv wS b4 Bp a1 a2 b1 b2 P a b k W) (hb:Below W.heap.size W V) (hin:sdU P a k<0∧sdU P b k<0) (hk:k<P.length) (h6:b4+6≤wS.heap.size) :
  RoundAt wS.heap.size (KeepQ b4 Bp) (ChInv wS b4 Bp a1 a2 b1 b2 P a b) (ChStop wS b4 a1 a2 b1 b2 P a b) k W .ret x (chSet b4 V ⟨#[]⟩ ⟨#[]⟩ false 0):=by
 have hs:=h.sz
 have hz:=hb.size
 have hB:Below b4 W (chSet b4 V ⟨#[]⟩ ⟨#[]⟩ false 0):=below_chSet (hb.mono (by omega)) (Nat.le_refl _) _ _ _ _
 refine ⟨?_,rfl,h.low.trans hB,(h.cells.below (hb.mono (by omega))).all _ _ _ _,fun hc=>hc k hk hin,Nat.le_trans hs hB.size⟩
 have k0:KeepsOthers W V:=⟨hb.size,fun j o h _=>(hb.block j (lt_of_some h)).trans h⟩
 exact ((((k0.trans (KeepsOthers.setCell _ _ _)).trans (KeepsOthers.setCell _ _ _)).trans (KeepsOthers.setCell _ _ _)).trans (KeepsOthers.setCell _ _ _)).from _
theorem boxes_chord {w wA:World} {a1 a2 b1 b2:ByteArray} (hwA:wA=(((((w.alloc (Obj.cells #[.string a1,.string a2] 31)).alloc (Obj.cells #[.string b1,.string b2] 31)).alloc (Obj.cells #[.string ⟨#[]⟩] 29)).alloc (Obj.cells #[.string ⟨#[]⟩] 29)).alloc (Obj.cells #[.bool false] 4)).alloc (Obj.cells #[.int .i64 0] 25)) :
  Below w.heap.size w wA∧wA.heap.size=w.heap.size+1+1+1+1+1+1∧ChCells w.heap.size a1 a2 b1 b2 ⟨#[]⟩ ⟨#[]⟩ false 0 wA:=by
 have e1:=World.alloc_heap_new w (Obj.cells #[.string a1,.string a2] 31)
 have p1:=alloc_below w (Obj.cells #[.string a1,.string a2] 31)
 have s1:(w.alloc (Obj.cells #[.string a1,.string a2] 31)).heap.size=w.heap.size+1:=by simp
 generalize w.alloc (Obj.cells #[.string a1,.string a2] 31)=w1 at *
 have e2:=World.alloc_heap_new w1 (Obj.cells #[.string b1,.string b2] 31)
 have p2:=alloc_below w1 (Obj.cells #[.string b1,.string b2] 31)
 have s2:(w1.alloc (Obj.cells #[.string b1,.string b2] 31)).heap.size=w1.heap.size+1:=by simp
 generalize w1.alloc (Obj.cells #[.string b1,.string b2] 31)=w2 at *
 have e3:=World.alloc_heap_new w2 (Obj.cells #[.string ⟨#[]⟩] 29)
 have p3:=alloc_below w2 (Obj.cells #[.string ⟨#[]⟩] 29)
 have s3:(w2.alloc (Obj.cells #[.string ⟨#[]⟩] 29)).heap.size=w2.heap.size+1:=by simp
 generalize w2.alloc (Obj.cells #[.string ⟨#[]⟩] 29)=w3 at *
 have e4:=World.alloc_heap_new w3 (Obj.cells #[.string ⟨#[]⟩] 29)
 have p4:=alloc_below w3 (Obj.cells #[.string ⟨#[]⟩] 29)
 have s4:(w3.alloc (Obj.cells #[.string ⟨#[]⟩] 29)).heap.size=w3.heap.size+1:=by simp
 generalize w3.alloc (Obj.cells #[.string ⟨#[]⟩] 29)=w4 at *
 have e5:=World.alloc_heap_new w4 (Obj.cells #[.bool false] 4)
 have p5:=alloc_below w4 (Obj.cells #[.bool false] 4)
 have s5:(w4.alloc (Obj.cells #[.bool false] 4)).heap.size=w4.heap.size+1:=by simp
 generalize w4.alloc (Obj.cells #[.bool false] 4)=w5 at *
 have e6:=World.alloc_heap_new w5 (Obj.cells #[.int .i64 0] 25)
 have p6:=alloc_below w5 (Obj.cells #[.int .i64 0] 25)
 have s6:(w5.alloc (Obj.cells #[.int .i64 0] 25)).heap.size=w5.heap.size+1:=by simp
 rw [←hwA] at e6 p6 s6
 have q5:=p6
 have q4:=p5.trans (q5.mono (by omega))
 have q3:=p4.trans (q4.mono (by omega))
 have q2:=p3.trans (q3.mono (by omega))
 have q1:=p2.trans (q2.mono (by omega))
 have q0:=p1.trans (q1.mono (by omega))
 refine ⟨q0,by omega,?_,?_,?_,?_,?_,?_⟩
 ·exact (q1.block _ (by omega)).trans e1
 ·rw [←s1];exact (q2.block _ (by omega)).trans e2
 ·rw [←s1,←s2];exact (q3.block _ (by omega)).trans e3
 ·rw [←s1,←s2,←s3];exact (q4.block _ (by omega)).trans e4
 ·rw [←s1,←s2,←s3,←s4];exact (q5.block _ (by omega)).trans e5
 ·rw [←s1,←s2,←s3,←s4,←s5];exact e6
theorem run_idx2 (cs:Array Value) (k:Int) (v:Value) (h0:0≤k) (h3:k<2) (hv:.agg (cs.extract (k.toNat*2) (k.toNat*2+2))=v) (w:World):(Instr.index 77 (.agg cs) (.int .i64 k)).run Tryz.prog w=.ok v w:=by
 unfold Instr.index part
 simp [asIntOf,run_underlying Tryz.underlying77,h0,h3,Tryz.isAgg31,Tryz.sizeOf31,hv]
theorem pg_chord_in (v:Value) (P:List QP) (a b:QP) (hP:Poly P) (h60:P.length≤60) (hz:∀ p∈P,OkB p.1∧OkB p.2) (ha:OkB a.1∧OkB a.2) (hb:OkB b.1∧OkB b.2) (hne:a≠b)
  (hok:loP P a b P.length<hiP P a b P.length→OkB (loP P a b P.length)∧OkB (hiP P a b P.length)) (w:World) (hw:Good w) (hv:Pts w v P) :
  CallsIn Fence.wide 9 Tryz.prog 21 #[v,ptV a,ptV b] w (fun e w'=>∃ r,e=.returned r∧ChordOut P a b r∧Below w.heap.size w w'):=by
 have h3:=hP.1.1
 have hz2:∀ p∈P,Sz2 402 p:=fun p hp=>okP_sz (hz p hp)
 have HC:=hid (fun w' (hg:Good w') (hp:Pts w' v P)=>pg_checkP v P h3 h60 hz w' hg hp)
 rw [polyC_poly hP] at HC
 have HCA:=hid (fun w' (hg:Good w')=>vec_pointS (tx a.1) (tx a.2) (Nat.le_trans ha.1.sz (by decide)) (Nat.le_trans ha.2.sz (by decide)) w' hg)
 rw [OkB.two ha] at HCA
 simp only [if_true] at HCA
 have HCB:=hid (fun w' (hg:Good w')=>vec_pointS (tx b.1) (tx b.2) (Nat.le_trans hb.1.sz (by decide)) (Nat.le_trans hb.2.sz (by decide)) w' hg)
 rw [OkB.two hb] at HCB
 simp only [if_true] at HCB
 have HSD:=hid (fun p m c W=>pg_sides 8 p m c W)
 have zA:∀ k,k<P.length→Sz 13000 (sdU P a k):=fun k hk=>(sz_crs (hz2 _ (pt_mem hk)) (hz2 _ (pt_mem (nxI_lt (i:=k) (by omega)))) (okP_sz ha)).mono (by decide)
 have zB:∀ k,k<P.length→Sz 13000 (sdU P b k):=fun k hk=>(sz_crs (hz2 _ (pt_mem hk)) (hz2 _ (pt_mem (nxI_lt (i:=k) (by omega)))) (okP_sz hb)).mono (by decide)
 have zK:∀ k,k<P.length→Sz 100000 (sdK P a b k):=fun k hk=>((zA k hk).div ((zA k hk).sub (zB k hk))).mono (by decide)
 have zL:=loP_sz zK (by decide)
 have zH:=hiP_sz zK (by decide)
 have HAA:=hid (fun k (hk:k<P.length) w' (hg:Good w')=>show Calls _ _ _ _ (RV (.string (tx (sdU P a k))) w') from pg_area (pt P k) (pt P (nxI P.length k)) a ((hz2 _ (pt_mem hk)).mono (by decide)) ((hz2 _ (pt_mem (nxI_lt (by omega)))).mono (by decide)) ((okP_sz ha).mono (by decide)) w' hg)
 have HAB:=hid (fun k (hk:k<P.length) w' (hg:Good w')=>show Calls _ _ _ _ (RV (.string (tx (sdU P b k))) w') from pg_area (pt P k) (pt P (nxI P.length k)) b ((hz2 _ (pt_mem hk)).mono (by decide)) ((hz2 _ (pt_mem (nxI_lt (by omega)))).mono (by decide)) ((okP_sz hb).mono (by decide)) w' hg)
 have HSA:=hid (fun k (hk:k<P.length) w'=>k_sign (sdU P a k) ((zA k hk).mono (by decide)) w')
 have HSB:=hid (fun k (hk:k<P.length) w'=>k_sign (sdU P b k) ((zB k hk).mono (by decide)) w')
 have HUV:=hid (fun k (hk:k<P.length) w' (hg:Good w')=>k_sub (sdU P a k) (sdU P b k) ((zA k hk).mono (by decide)) ((zB k hk).mono (by decide)) w' hg)
 have HDV:=hid (fun k (hk:k<P.length) (hne:sdU P a k-sdU P b k≠0) w' (hg:Good w')=>show Calls _ _ _ _ (RV (.tuple #[.string (tx (sdK P a b k)),.int .i64 0]) w') from k_div (sdU P a k) (sdU P a k-sdU P b k) hne ((zA k hk).mono (by decide)) (((zA k hk).sub (zB k hk)).mono (by decide)) w' hg)
 have HMX:=hid (fun k (hk:k<P.length) w' (hg:Good w')=>k_max (loP P a b k) (sdK P a b k) ((zL k (by omega)).mono (by decide)) ((zK k hk).mono (by decide)) w' hg)
 have HMN:=hid (fun k (hk:k<P.length) w' (hg:Good w')=>k_min (hiP P a b k) (sdK P a b k) ((zH k (by omega)).mono (by decide)) ((zK k hk).mono (by decide)) w' hg)
 have HCP:=hid (fun w' (hg:Good w')=>k_cmp (loP P a b P.length) (hiP P a b P.length) ((zL _ (Nat.le_refl _)).mono (by decide)) ((zH _ (Nat.le_refl _)).mono (by decide)) w' hg)
 have HKL:=hid (fun (h:loP P a b P.length<hiP P a b P.length) w' (hg:Good w')=>k_check (loP P a b P.length) (hok h).1 w' hg)
 have HKH:=hid (fun (h:loP P a b P.length<hiP P a b P.length) w' (hg:Good w')=>k_check (hiP P a b P.length) (hok h).2 w' hg)
 unfold RV at HC HCA HCB HAA HAB HSA HSB HUV HDV HMX HMN HCP HKL HKH
 unfold ptV at HAA HAB
 clear hz2 hz zA zB zK zL zH hok
 unfold ptV
 have HV:=hid hv
 have hP0:0<P.length:=by omega
 obtain ⟨p,c,rfl,hcl,hcm⟩:=hv.slice
 clear hv
 obtain ⟨a1,ha1⟩ : ∃ x,x=tx a.1:=⟨_,rfl⟩
 obtain ⟨a2,ha2⟩ : ∃ x,x=tx a.2:=⟨_,rfl⟩
 obtain ⟨b1,hb1⟩ : ∃ x,x=tx b.1:=⟨_,rfl⟩
 obtain ⟨b2,hb2⟩ : ∃ x,x=tx b.2:=⟨_,rfl⟩
 rw [←ha1,←ha2] at HCA HAA ⊢
 rw [←hb1,←hb2] at HCB HAB ⊢
 have HTX:=hid (And.intro ha1 (And.intro ha2 (And.intro hb1 hb2)))
 clear ha1 ha2 hb1 hb2
 obtain ⟨wA,hwA⟩ : ∃ wA,wA=(((((w.alloc (Obj.cells #[.string a1,.string a2] 31)).alloc (Obj.cells #[.string b1,.string b2] 31)).alloc (Obj.cells #[.string ⟨#[]⟩] 29)).alloc (Obj.cells #[.string ⟨#[]⟩] 29)).alloc (Obj.cells #[.bool false] 4)).alloc (Obj.cells #[.int .i64 0] 25):=⟨_,rfl⟩
 have HWA:=hid hwA
 obtain ⟨hbA,lA,hcA⟩:=boxes_chord hwA
 have HCC:=hid hcA
 clear hcA
 refine callsIn_of_wp_marks Tryz.func21 rfl trivial ?_ rfl
 simp only [Tryz.ntmps21,List.size_toArray,List.length_cons,List.length_nil,Nat.reduceAdd,Nat.reduceSub,Array.replicate_succ,Array.replicate_zero,List.push_toArray,List.append_toArray,List.nil_append,List.cons_append]
 clear hwA
 gi_wp2
 rw [←HWA.out]
 refine ⟨trivial,?_⟩
 refine (callsIn_wide.2 (HC.out wA (hw.below hbA) (HV.out.below hbA))).mono ?_
 rintro e w1 ⟨rfl,h1⟩
 have hb1:=hbA.trans (h1.mono hbA.size)
 have hc1:=HCC.out.below (h1.mono (by omega))
 have l1:=h1.size
 have HC1:=hid hc1
 obtain ⟨x0,x1,_,_⟩:=two_cells hc1.a
 obtain ⟨y0,y1,_,_⟩:=two_cells hc1.b
 clear HWA HCC hc1
 have X0:=run_idx2 #[.string a1,.string a2,.string b1,.string b2] 0 (.agg #[.string a1,.string a2]) (by decide) (by decide) rfl
 have X1:=run_idx2 #[.string a1,.string a2,.string b1,.string b2] 1 (.agg #[.string b1,.string b2]) (by decide) (by decide) rfl
 gi_wp2
 gi_loopw [28] (fun iv wr=>∃ k:Nat,k≤2∧iv=.int .i64 (k:Int)∧Below w1.heap.size w1 wr) (fun iv _=>2-(intOf iv).toNat)
 case atStart=>exact ⟨0,by decide,rfl,Below.refl _ _⟩
 case round =>
  obtain ⟨k,hk2,rfl,hbr1⟩:=hrel
  have hbr:=hb1.trans (hbr1.mono hb1.size)
  clear x0 x1 y0 y1
  rcases (show k=0∨k=1∨k=2 by omega) with rfl | rfl | rfl
  ·gi_wp2
   obtain ⟨wB,hwB⟩ : ∃ wB,wB=wr.alloc (Obj.cells #[.string a1,.string a2] 31):=⟨_,rfl⟩
   obtain ⟨hbB,lB,_,_⟩:=box_new hwB
   rw [←hwB]
   clear hwB
   have hbb:=hbr.trans (hbB.mono hbr.size)
   refine ⟨trivial,?_⟩
   refine (callsIn_wide.2 (HCA.out wB (hw.below hbb))).mono ?_
   rintro e w2 ⟨rfl,h2⟩
   gi_wp2
   exact ⟨⟨1,by decide,rfl,hbr1.trans ((hbB.trans (h2.mono hbB.size)).mono hbr1.size)⟩,by decide⟩
  ·gi_wp2
   obtain ⟨wB,hwB⟩ : ∃ wB,wB=wr.alloc (Obj.cells #[.string b1,.string b2] 31):=⟨_,rfl⟩
   obtain ⟨hbB,lB,_,_⟩:=box_new hwB
   rw [←hwB]
   clear hwB
   have hbb:=hbr.trans (hbB.mono hbr.size)
   refine ⟨trivial,?_⟩
   refine (callsIn_wide.2 (HCB.out wB (hw.below hbb))).mono ?_
   rintro e w2 ⟨rfl,h2⟩
   gi_wp2
   exact ⟨⟨2,by decide,rfl,hbr1.trans ((hbB.trans (h2.mono hbB.size)).mono hbr1.size)⟩,by decide⟩
  ·have HCR:=hid (HC1.out.below (hbr1.mono (by omega)))
   obtain ⟨x0,x1,_,_⟩:=two_cells HCR.out.a
   obtain ⟨y0,y1,_,_⟩:=two_cells HCR.out.b
   have lr:=hbr1.size
   have heq:∀ wx:World,(binOp .eql 31 (.agg #[.string a1,.string a2]) (.agg #[.string b1,.string b2])).run Tryz.prog wx=.ok (.bool false) wx:=fun wx=>by
    obtain ⟨t1,t2,t3,t4⟩:=HTX.out
    rw [t1,t2,t3,t4,eqlPts,decide_eq_false hne]
   have hgd:=fun (x y:Operand) (xs ys:Array Value) (wx:World)=>guardPts .eql x y xs ys wx
   obtain ⟨f0,f1⟩:=one_cell HCR.out.f
   obtain ⟨t0,t1⟩:=one_cell HCR.out.t
   gi_wp2
   obtain ⟨wL,hwL⟩ : ∃ wL,wL=(wr.setCell { block:=w.heap.size+1+1,off:=0 } (Value.string ⟨#[48]⟩)).setCell { block:=w.heap.size+1+1+1,off:=0 } (Value.string ⟨#[49]⟩):=⟨_,rfl⟩
   have HCL:=hid (show ChCells w.heap.size a1 a2 b1 b2 ⟨#[48]⟩ ⟨#[49]⟩ false 0 wL by rw [hwL];exact (HCR.out.setF _).setT _)
   have hbL2:Below w.heap.size w wL:=by
    rw [hwL]
    exact (hbr.setCell (p:=⟨w.heap.size+1+1,0,none⟩) (by show w.heap.size≤w.heap.size+1+1;omega) _).setCell (p:=⟨w.heap.size+1+1+1,0,none⟩) (by show w.heap.size≤w.heap.size+1+1+1;omega) _
   have hsL0:wL.heap.size=wr.heap.size:=by rw [hwL];simp [World.setCell]
   rw [←hwL]
   clear hwL x0 x1 y0 y1 f0 f1 t0 t1 heq hgd
   have h6L:w.heap.size+6≤wL.heap.size:=by omega
   refine ⟨trivial,?_⟩
   refine (HSD.out p P.length c wL).mono ?_
   rintro e wS ⟨rfl,hwS⟩
   have hbS:Below wL.heap.size wL wS:=by rw [hwS];exact alloc_below _ _
   have hsS:wS.heap.size=wL.heap.size+1:=by rw [hwS];simp
   have hxS:wS.heap[wL.heap.size]?=some (slBox (.slice p P.length c)):=by rw [hwS];exact World.alloc_heap_new _ _
   have HXS:=hid hxS
   have hsLS:wL.heap.size<wS.heap.size:=by omega
   have h6S:w.heap.size+6≤wS.heap.size:=by omega
   have hbwS:=hbL2.trans (hbS.mono (by omega))
   have HCS:=hid (HCL.out.below (hbS.mono h6L))
   have hS0:=hid (show (⟨#[48]⟩ : ByteArray)=tx (loP P a b 0) from (show (⟨#[48]⟩ : ByteArray)=tx 0 by decide +kernel))
   have hS1:=hid (show (⟨#[49]⟩ : ByteArray)=tx (hiP P a b 0) from (show (⟨#[49]⟩ : ByteArray)=tx 1 by decide +kernel))
   clear hwS hxS hsS hsL0
   gi_wp2
   refine wpIn_rangeFunc_side (n:=9) 42 43 14 15 P rfl (by decide) (gf:=112) (lb:=#[.pointer (some ⟨wL.heap.size,0,none⟩)]) rfl trivial (enters_of Tryz.func112 (by kernel_rfl) rfl)
    (sides_at 64 8 (by decide) wL.heap.size w P _ HV.out hP0 (by omega) wS hbwS HXS.out)
    KeepQ.trans (KeepQ.put (by omega) hsLS) (Below.refl _ _) (fun _=>rfl)
    (ChInv wS w.heap.size wL.heap.size a1 a2 b1 b2 P a b) (ChStop wS w.heap.size a1 a2 b1 b2 P a b) (ChInv.own h6S hsLS) (fun c=>ChStop.own c h6S)
    ⟨Below.refl _ _,by rw [←hS0.out,←hS1.out];exact HCS.out,fun i hi=>absurd hi (Nat.not_lt_zero _),rfl,Nat.le_refl _⟩ ?assign ?body ?done ?stop
   case assign =>
    intro l k hk W K hi hK
    have hsz:=hi.sz
    simp only [sideE,ptV]
    obtain ⟨hbb,b1,b2⟩:=boxes2 (w:=W) (a:=.string (tx (pt P k).1)) (b:=.string (tx (pt P k).2)) (c:=.string (tx (pt P (nxI P.length k)).1)) (d:=.string (tx (pt P (nxI P.length k)).2)) (t:=31) rfl
    have HBB:=hid hbb
    have HB1:=hid b1
    have HB2:=hid b2
    clear hbb b1 b2
    generalize hp1:tx (pt P k).1=p1 at *
    generalize hp2:tx (pt P k).2=p2 at *
    generalize hq1:tx (pt P (nxI P.length k)).1=q1 at *
    generalize hq2:tx (pt P (nxI P.length k)).2=q2 at *
    have HPQ:=hid (And.intro hp1 (And.intro hp2 (And.intro hq1 hq2)))
    clear hp1 hp2 hq1 hq2
    gi_wp2
    obtain ⟨hp1,hp2,hq1,hq2⟩:=HPQ.out
    subst hp1 hp2 hq1 hq2
    exact hK _ _ (keepsFrom_below HBB.out) (KeepQ.of_below HBB.out (by omega) (by omega)) ⟨hi.low.trans (HBB.out.mono (by omega)),hi.cells.below (HBB.out.mono (by omega)),hi.inn,(HBB.out.block _ (by omega)).trans hi.box,Nat.le_trans hsz HBB.out.size⟩ ⟨W.heap.size,W.heap.size+1,hsz,by omega,HB1.out,HB2.out,rfl⟩
   case body =>
    rintro l k hk a' W hl hinv ⟨B1,B2,hB1,hB2,hd1,hd2,rfl⟩
    simp only [List.setIfInBounds_toArray,List.set_cons_zero,List.set_cons_succ,ptV]
    have hsW:=hinv.sz
    have hlow:=hinv.low
    have hgW:Good W:=hw.below (hbwS.trans hlow)
    have HINV:=hid hinv
    have hcc:=hinv.cells
    obtain ⟨e0,e1,_,_⟩:=two_cells hcc.a
    obtain ⟨e2,e3,_,_⟩:=two_cells hcc.b
    have lx:w.heap.size<W.heap.size:=by omega
    have ly:w.heap.size+1<W.heap.size:=by omega
    have lb1:=lt_of_blk hd1
    have lb2:=lt_of_blk hd2
    obtain ⟨x0,x1',_,_⟩:=two_cells hd1
    obtain ⟨y0,y1',_,_⟩:=two_cells hd2
    have H1:=hid (HAA.out k hk)
    have H2:=hid (HAB.out k hk)
    have HS1:=hid (HSA.out k hk)
    have HS2:=hid (HSB.out k hk)
    have HU1:=hid (HUV.out k hk)
    have HD1:=hid (HDV.out k hk)
    have HM1:=hid (HMX.out k hk)
    have HM2:=hid (HMN.out k hk)
    have HLS:loP P a b (k+1)=(if (sdU P a k<0∧0≤sdU P b k)∧loP P a b k<sdK P a b k then sdK P a b k else loP P a b k):=rfl
    have HHS:hiP P a b (k+1)=(if (0≤sdU P a k∧sdU P b k<0)∧sdK P a b k<hiP P a b k then sdK P a b k else hiP P a b k):=rfl
    replace HLS:=hid HLS
    replace HHS:=hid HHS
    have HCU:=hid (sgnR_cases (sdU P a k))
    have HCV:=hid (sgnR_cases (sdU P b k))
    clear hinv hd1 hd2 HAA HAB HSA HSB HUV HDV HMX HMN hcc
    generalize tx (pt P k).1=p1 at *
    generalize tx (pt P k).2=p2 at *
    generalize tx (pt P (nxI P.length k)).1=q1 at *
    generalize tx (pt P (nxI P.length k)).2=q2 at *
    gi_wp2
    refine wpIn_held_list lifts_round (fun W'=>Below W.heap.size W W') [0,1,2,4,5,6] [3,7] 8 (by kernel_rfl) (by kernel_rfl) (by kernel_rfl) ⟨rfl,rfl,rfl,Nat.le_refl _,fun _ _=>rfl⟩ ?_
    iterate 6
     refine wpTakeL_step rfl ?_ rfl ?_ ?_
     rotate_left
     ·intro W' hS'
      have s0:=(hS'.cell (p:=⟨B1,0,none⟩) lb1).trans x0
      have s1:=(hS'.cell (p:=⟨B1,1,none⟩) lb1).trans x1'
      have s2:=(hS'.cell (p:=⟨B2,0,none⟩) lb2).trans y0
      have s3:=(hS'.cell (p:=⟨B2,1,none⟩) lb2).trans y1'
      have s4:=(hS'.cell (p:=⟨w.heap.size,0,none⟩) lx).trans e0
      have s5:=(hS'.cell (p:=⟨w.heap.size,1,none⟩) lx).trans e1
      have s6:=(hS'.cell (p:=⟨w.heap.size+1,0,none⟩) ly).trans e2
      have s7:=(hS'.cell (p:=⟨w.heap.size+1,1,none⟩) ly).trans e3
      go_simp
      try with_reducible rfl
     try simp only [zA,zB,zC,Act.put,zD,zE,zF]
    have hH0:Below W.heap.size W W.drew:=⟨rfl,rfl,rfl,Nat.le_refl _,fun _ _=>rfl⟩
    refine wpKeepL_step rfl rfl (fun K hK=>?_)
    go_simp
    refine (H1.out _ (hgW.below hH0)).mono ?_
    rintro e v1 ⟨rfl,hv1⟩
    have hH1:=hH0.trans (hv1.mono hH0.size)
    refine hK _ _ ⟨hH1,?_⟩
    clear hK K
    try simp only [zA,zB,zC,Act.put,zD,zE,zF]
    refine wpKeepL_step rfl rfl (fun K hK=>?_)
    go_simp
    refine (H2.out _ (hgW.below hH1)).mono ?_
    rintro e v2 ⟨rfl,hv2⟩
    have hH2:=hH1.trans (hv2.mono hH1.size)
    refine hK _ _ ⟨hH2,?_⟩
    clear hK K
    try simp only [zA,zB,zC,Act.put,zD,zE,zF]
    unfold wpKeepL
    simp only [List.drop_succ_cons,List.drop_zero]
    clear e0 e1 e2 e3 x0 x1' y0 y1' H1 H2
    by_cases hU:sdU P a k<0
    ·have hsu:sgnR (sdU P a k)<0:=by
      rcases HCU.out with ⟨_,b⟩ | ⟨_,b⟩ | ⟨_,b⟩
      ·omega
      ·grind
      ·grind
     have HU:=hid hU
     by_cases hV:sdU P b k<0
     ·have hsv:sgnR (sdU P b k)<0:=by
       rcases HCV.out with ⟨_,b⟩ | ⟨_,b⟩ | ⟨_,b⟩
       ·omega
       ·grind
       ·grind
      have HN:=hid hV
      clear hU hV
      generalize sgnR (sdU P a k)=su at *
      generalize sgnR (sdU P b k)=sv at *
      generalize hgl:tx (loP P a b k)=tl at *
      generalize hgh:tx (hiP P a b k)=th at *
      generalize hgu:tx (sdU P a k)=tu at *
      generalize hgv:tx (sdU P b k)=tv at *
      generalize hgk:tx (sdK P a b k)=tk at *
      generalize hgd:tx (sdU P a k-sdU P b k)=td at *
      have HGL:=hid (And.intro hgl hgh)
      clear hgl hgh hgu hgv hgk hgd
      have nu1:decide (su<0)=true:=decide_eq_true (by omega)
      have nu2:decide (su≥0)=false:=decide_eq_false (by omega)
      have nu3:decide (0≤su)=false:=decide_eq_false (by omega)
      have nv1:decide (sv<0)=true:=decide_eq_true (by omega)
      have nv2:decide (sv≥0)=false:=decide_eq_false (by omega)
      have nv3:decide (0≤sv)=false:=decide_eq_false (by omega)
      gi_wp2
      refine ⟨trivial,?_⟩
      refine (CallsIn.inRound l (callsIn_wide.2 (HS1.out v2))).mono ?_
      rintro e v3 ⟨rfl,hv3⟩
      have hH3:=hH2.trans (hv3.mono hH2.size)
      gi_wp2
      refine ⟨trivial,?_⟩
      refine (CallsIn.inRound l (callsIn_wide.2 (HS2.out v3))).mono ?_
      rintro e v4 ⟨rfl,hv4⟩
      have hH4:=hH3.trans (hv4.mono hH3.size)
      have hcc:=HINV.out.cells.below (hH4.mono (by omega))
      rw [HGL.out.1,HGL.out.2] at hcc
      obtain ⟨f0,f1⟩:=one_cell hcc.f
      obtain ⟨t0,t1⟩:=one_cell hcc.t
      obtain ⟨d0,d1⟩:=one_cell hcc.d
      obtain ⟨r0,r1⟩:=one_cell hcc.e
      clear hcc
      gi_wp2
      exact HINV.out.halt hH4 ⟨HU.out,HN.out⟩ hk h6S
     ·have hsv:¬ sgnR (sdU P b k)<0:=by
       rcases HCV.out with ⟨_,b⟩ | ⟨_,b⟩ | ⟨_,b⟩
       ·grind
       ·omega
       ·omega
      have HNV:=hid hV
      have hV0:0≤sdU P b k:=Rat.not_lt.1 hV
      have HNE:=hid (show sdU P a k-sdU P b k≠0 by grind)
      obtain ⟨r,hr⟩ : ∃ r,r=tx (if loP P a b k<sdK P a b k then sdK P a b k else loP P a b k):=⟨_,rfl⟩
      rw [←hr] at HM1
      have HLE:=hid (show tx (loP P a b (k+1))=r by rw [hr,HLS.out];simp only [hU,hV0,and_self,true_and])
      have HHE:=hid (show hiP P a b (k+1)=hiP P a b k by rw [HHS.out,if_neg (fun h=>by have:=h.1.1;grind)])
      clear hU hV hV0 hr
      generalize sgnR (sdU P a k)=su at *
      generalize sgnR (sdU P b k)=sv at *
      generalize hgl:tx (loP P a b k)=tl at *
      generalize hgh:tx (hiP P a b k)=th at *
      generalize hgu:tx (sdU P a k)=tu at *
      generalize hgv:tx (sdU P b k)=tv at *
      generalize hgk:tx (sdK P a b k)=tk at *
      generalize hgd:tx (sdU P a k-sdU P b k)=td at *
      have HGL:=hid (And.intro hgl hgh)
      clear hgl hgh hgu hgv hgk hgd
      have nu1:decide (su<0)=true:=decide_eq_true (by omega)
      have nu2:decide (su≥0)=false:=decide_eq_false (by omega)
      have nu3:decide (0≤su)=false:=decide_eq_false (by omega)
      have nv1:decide (sv<0)=false:=decide_eq_false (by omega)
      have nv2:decide (sv≥0)=true:=decide_eq_true (by omega)
      have nv3:decide (0≤sv)=true:=decide_eq_true (by omega)
      gi_wp2
      refine ⟨trivial,?_⟩
      refine (CallsIn.inRound l (callsIn_wide.2 (HS1.out v2))).mono ?_
      rintro e v3 ⟨rfl,hv3⟩
      have hH3:=hH2.trans (hv3.mono hH2.size)
      gi_wp2
      refine ⟨trivial,?_⟩
      refine (CallsIn.inRound l (callsIn_wide.2 (HS2.out v3))).mono ?_
      rintro e v4 ⟨rfl,hv4⟩
      have hH4:=hH3.trans (hv4.mono hH3.size)
      gi_wp2
      refine ⟨trivial,?_⟩
      refine (CallsIn.inRound l (callsIn_wide.2 (HS1.out v4))).mono ?_
      rintro e v5 ⟨rfl,hv5⟩
      have hH5:=hH4.trans (hv5.mono hH4.size)
      gi_wp2
      refine ⟨trivial,?_⟩
      gi_wp2
      refine ⟨trivial,?_⟩
      refine (CallsIn.inRound l (callsIn_wide.2 (HU1.out v5 (hgW.below hH5)))).mono ?_
      rintro e v6 ⟨rfl,hv6⟩
      have hH6:=hH5.trans (hv6.mono hH5.size)
      gi_wp2
      refine ⟨trivial,?_⟩
      refine (CallsIn.inRound l (callsIn_wide.2 (HD1.out HNE.out v6 (hgW.below hH6)))).mono ?_
      rintro e v7 ⟨rfl,hv7⟩
      have hH7:=hH6.trans (hv7.mono hH6.size)
      gi_wp2
      refine ⟨trivial,?_⟩
      refine (CallsIn.inRound l (callsIn_wide.2 (HS1.out v7))).mono ?_
      rintro e v8 ⟨rfl,hv8⟩
      have hH8:=hH7.trans (hv8.mono hH7.size)
      have hcc:=HINV.out.cells.below (hH8.mono (by omega))
      rw [HGL.out.1,HGL.out.2] at hcc
      obtain ⟨f0,f1⟩:=one_cell hcc.f
      obtain ⟨t0,t1⟩:=one_cell hcc.t
      obtain ⟨d0,d1⟩:=one_cell hcc.d
      obtain ⟨r0,r1⟩:=one_cell hcc.e
      clear hcc
      gi_wp2
      refine ⟨trivial,?_⟩
      refine (CallsIn.inRound l (callsIn_wide.2 (HM1.out v8 (hgW.below hH8)))).mono ?_
      rintro e v9 ⟨rfl,hv9⟩
      have hH9:=hH8.trans (hv9.mono hH8.size)
      have hcc:=HINV.out.cells.below (hH9.mono (by omega))
      rw [HGL.out.1,HGL.out.2] at hcc
      obtain ⟨f0,f1⟩:=one_cell hcc.f
      obtain ⟨t0,t1⟩:=one_cell hcc.t
      obtain ⟨d0,d1⟩:=one_cell hcc.d
      obtain ⟨r0,r1⟩:=one_cell hcc.e
      clear hcc
      gi_wp2
      exact HINV.out.nextF hH9 (fun h=>absurd h.2 HNV.out) hsLS h6L HLE.out HHE.out
    ·have hsu:¬ sgnR (sdU P a k)<0:=by
      rcases HCU.out with ⟨_,b⟩ | ⟨_,b⟩ | ⟨_,b⟩
      ·grind
      ·omega
      ·omega
     have HNU:=hid hU
     have hU0:0≤sdU P a k:=Rat.not_lt.1 hU
     have HLE:=hid (show loP P a b (k+1)=loP P a b k by rw [HLS.out,if_neg (fun h=>hU h.1.1)])
     by_cases hV:sdU P b k<0
     ·have hsv:sgnR (sdU P b k)<0:=by
       rcases HCV.out with ⟨_,b⟩ | ⟨_,b⟩ | ⟨_,b⟩
       ·omega
       ·grind
       ·grind
      have HNE:=hid (show sdU P a k-sdU P b k≠0 by grind)
      obtain ⟨r,hr⟩ : ∃ r,r=tx (if sdK P a b k<hiP P a b k then sdK P a b k else hiP P a b k):=⟨_,rfl⟩
      rw [←hr] at HM2
      have HHE:=hid (show tx (hiP P a b (k+1))=r by rw [hr,HHS.out];simp only [hU0,hV,and_self,true_and])
      clear hU hV hU0 hr
      generalize sgnR (sdU P a k)=su at *
      generalize sgnR (sdU P b k)=sv at *
      generalize hgl:tx (loP P a b k)=tl at *
      generalize hgh:tx (hiP P a b k)=th at *
      generalize hgu:tx (sdU P a k)=tu at *
      generalize hgv:tx (sdU P b k)=tv at *
      generalize hgk:tx (sdK P a b k)=tk at *
      generalize hgd:tx (sdU P a k-sdU P b k)=td at *
      have HGL:=hid (And.intro hgl hgh)
      clear hgl hgh hgu hgv hgk hgd
      have nu1:decide (su<0)=false:=decide_eq_false (by omega)
      have nu2:decide (su≥0)=true:=decide_eq_true (by omega)
      have nu3:decide (0≤su)=true:=decide_eq_true (by omega)
      have nv1:decide (sv<0)=true:=decide_eq_true (by omega)
      have nv2:decide (sv≥0)=false:=decide_eq_false (by omega)
      have nv3:decide (0≤sv)=false:=decide_eq_false (by omega)
      gi_wp2
      refine ⟨trivial,?_⟩
      refine (CallsIn.inRound l (callsIn_wide.2 (HS1.out v2))).mono ?_
      rintro e v3 ⟨rfl,hv3⟩
      have hH3:=hH2.trans (hv3.mono hH2.size)
      gi_wp2
      refine ⟨trivial,?_⟩
      gi_wp2
      refine ⟨trivial,?_⟩
      refine (CallsIn.inRound l (callsIn_wide.2 (HS1.out v3))).mono ?_
      rintro e v4 ⟨rfl,hv4⟩
      have hH4:=hH3.trans (hv4.mono hH3.size)
      gi_wp2
      refine ⟨trivial,?_⟩
      refine (CallsIn.inRound l (callsIn_wide.2 (HS2.out v4))).mono ?_
      rintro e v5 ⟨rfl,hv5⟩
      have hH5:=hH4.trans (hv5.mono hH4.size)
      gi_wp2
      refine ⟨trivial,?_⟩
      refine (CallsIn.inRound l (callsIn_wide.2 (HU1.out v5 (hgW.below hH5)))).mono ?_
      rintro e v6 ⟨rfl,hv6⟩
      have hH6:=hH5.trans (hv6.mono hH5.size)
      gi_wp2
      refine ⟨trivial,?_⟩
      refine (CallsIn.inRound l (callsIn_wide.2 (HD1.out HNE.out v6 (hgW.below hH6)))).mono ?_
      rintro e v7 ⟨rfl,hv7⟩
      have hH7:=hH6.trans (hv7.mono hH6.size)
      gi_wp2
      refine ⟨trivial,?_⟩
      refine (CallsIn.inRound l (callsIn_wide.2 (HS1.out v7))).mono ?_
      rintro e v8 ⟨rfl,hv8⟩
      have hH8:=hH7.trans (hv8.mono hH7.size)
      have hcc:=HINV.out.cells.below (hH8.mono (by omega))
      rw [HGL.out.1,HGL.out.2] at hcc
      obtain ⟨f0,f1⟩:=one_cell hcc.f
      obtain ⟨t0,t1⟩:=one_cell hcc.t
      obtain ⟨d0,d1⟩:=one_cell hcc.d
      obtain ⟨r0,r1⟩:=one_cell hcc.e
      clear hcc
      gi_wp2
      refine ⟨trivial,?_⟩
      refine (CallsIn.inRound l (callsIn_wide.2 (HM2.out v8 (hgW.below hH8)))).mono ?_
      rintro e v9 ⟨rfl,hv9⟩
      have hH9:=hH8.trans (hv9.mono hH8.size)
      have hcc:=HINV.out.cells.below (hH9.mono (by omega))
      rw [HGL.out.1,HGL.out.2] at hcc
      obtain ⟨f0,f1⟩:=one_cell hcc.f
      obtain ⟨t0,t1⟩:=one_cell hcc.t
      obtain ⟨d0,d1⟩:=one_cell hcc.d
      obtain ⟨r0,r1⟩:=one_cell hcc.e
      clear hcc
      gi_wp2
      exact HINV.out.nextT hH9 (fun h=>absurd h.1 HNU.out) hsLS h6L HLE.out HHE.out
     ·have hsv:¬ sgnR (sdU P b k)<0:=by
       rcases HCV.out with ⟨_,b⟩ | ⟨_,b⟩ | ⟨_,b⟩
       ·grind
       ·omega
       ·omega
      have HHE:=hid (show hiP P a b (k+1)=hiP P a b k by rw [HHS.out,if_neg (fun h=>hV h.1.2)])
      clear hU hV hU0
      generalize sgnR (sdU P a k)=su at *
      generalize sgnR (sdU P b k)=sv at *
      generalize hgl:tx (loP P a b k)=tl at *
      generalize hgh:tx (hiP P a b k)=th at *
      generalize hgu:tx (sdU P a k)=tu at *
      generalize hgv:tx (sdU P b k)=tv at *
      generalize hgk:tx (sdK P a b k)=tk at *
      generalize hgd:tx (sdU P a k-sdU P b k)=td at *
      have HGL:=hid (And.intro hgl hgh)
      clear hgl hgh hgu hgv hgk hgd
      have nu1:decide (su<0)=false:=decide_eq_false (by omega)
      have nu2:decide (su≥0)=true:=decide_eq_true (by omega)
      have nu3:decide (0≤su)=true:=decide_eq_true (by omega)
      have nv1:decide (sv<0)=false:=decide_eq_false (by omega)
      have nv2:decide (sv≥0)=true:=decide_eq_true (by omega)
      have nv3:decide (0≤sv)=true:=decide_eq_true (by omega)
      gi_wp2
      refine ⟨trivial,?_⟩
      refine (CallsIn.inRound l (callsIn_wide.2 (HS1.out v2))).mono ?_
      rintro e v3 ⟨rfl,hv3⟩
      have hH3:=hH2.trans (hv3.mono hH2.size)
      gi_wp2
      refine ⟨trivial,?_⟩
      gi_wp2
      refine ⟨trivial,?_⟩
      refine (CallsIn.inRound l (callsIn_wide.2 (HS1.out v3))).mono ?_
      rintro e v4 ⟨rfl,hv4⟩
      have hH4:=hH3.trans (hv4.mono hH3.size)
      gi_wp2
      refine ⟨trivial,?_⟩
      refine (CallsIn.inRound l (callsIn_wide.2 (HS2.out v4))).mono ?_
      rintro e v5 ⟨rfl,hv5⟩
      have hH5:=hH4.trans (hv5.mono hH4.size)
      gi_wp2
      exact HINV.out.nextN hH5 (fun h=>absurd h.1 HNU.out) h6S hsLS HLE.out HHE.out
   case done =>
    rintro Dk W hD hinv hK
    have hsW:=hinv.sz
    have hlow:=hinv.low
    have hgW:Good W:=hw.below (hbwS.trans hlow)
    have hcc:=hinv.cells
    have HIN:=hid hinv.inn
    have HDD:=hid hK
    have HLOW:=hid (hbwS.trans hlow)
    clear hinv hlow hK
    by_cases hlt:loP P a b P.length<hiP P a b P.length
    ·have nc:decide (cmpR (loP P a b P.length) (hiP P a b P.length)≥0)=false:=decide_eq_false (by have:=cmpR_neg.2 hlt;omega)
     have nc2:decide (0≤cmpR (loP P a b P.length) (hiP P a b P.length))=false:=nc
     have HLT:=hid hlt
     generalize cmpR (loP P a b P.length) (hiP P a b P.length)=cm at *
     generalize hgl:tx (loP P a b P.length)=tl at *
     generalize hgh:tx (hiP P a b P.length)=th at *
     have HGL:=hid (And.intro hgl hgh)
     have HCW:=hid hcc
     clear hgl hgh hlt hcc
     obtain ⟨f0,f1⟩:=one_cell HCW.out.f
     obtain ⟨t0,t1⟩:=one_cell HCW.out.t
     gi_wp2
     refine ⟨trivial,?_⟩
     refine (callsIn_wide.2 (HCP.out W hgW)).mono ?_
     rintro e v1 ⟨rfl,hv1⟩
     have hc1:=HCW.out.below (hv1.mono (by omega))
     clear f0 f1 t0 t1
     obtain ⟨f0,f1⟩:=one_cell hc1.f
     gi_wp2
     refine ⟨trivial,?_⟩
     refine (callsIn_wide.2 (HKL.out HLT.out v1 (hgW.below hv1))).mono ?_
     rintro e v2 ⟨rfl,hv2⟩
     have hv12:=hv1.trans (hv2.mono hv1.size)
     have hc2:=HCW.out.below (hv12.mono (by omega))
     clear f0 f1
     obtain ⟨t0,t1⟩:=one_cell hc2.t
     gi_wp2
     refine ⟨trivial,?_⟩
     refine (callsIn_wide.2 (HKH.out HLT.out v2 (hgW.below hv12))).mono ?_
     rintro e v3 ⟨rfl,hv3⟩
     have hv13:=hv12.trans (hv3.mono hv12.size)
     have hc3:=HCW.out.below (hv13.mono (by omega))
     clear t0 t1
     have HC3:=hid hc3
     obtain ⟨f0,f1⟩:=one_cell hc3.f
     obtain ⟨t0,t1⟩:=one_cell hc3.t
     obtain ⟨d0,d1⟩:=one_cell hc3.d
     obtain ⟨r0,r1⟩:=one_cell hc3.e
     clear hc1 hc2 hc3
     gi_wp2
     gi_region
     gi_wp2
     have hKD:(chSet w.heap.size v3 tl th true 0).drew.heap[Dk]?=some (.deferred (some [])):=(chSet_keep (V:=v3) tl th true 0 (by omega)).trans ((hv13.block Dk (lt_of_some HDD.out)).trans HDD.out)
     have hdd:∀ B,Below B (chSet w.heap.size v3 tl th true 0) (chSet w.heap.size v3 tl th true 0).drew:=fun _=>⟨rfl,rfl,rfl,Nat.le_refl _,fun _ _=>rfl⟩
     have hpw:=putObj_below (chSet w.heap.size v3 tl th true 0).drew Dk (.deferred none) (B:=w.heap.size+6) (by omega)
     have hcq:=((HC3.out.all tl th true 0).below (hdd _)).below hpw
     have hbq:=((below_chSet (HLOW.out.trans (hv13.mono (by omega))) (Nat.le_refl _) tl th true 0).trans (hdd _)).trans (hpw.mono (by omega))
     clear f0 f1 t0 t1 d0 d1 r0 r1 hdd
     obtain ⟨f0,f1⟩:=one_cell hcq.f
     obtain ⟨t0,t1⟩:=one_cell hcq.t
     obtain ⟨d0,d1⟩:=one_cell hcq.d
     obtain ⟨r0,r1⟩:=one_cell hcq.e
     unfold chSet at f0 t0 d0 r0 hKD hbq
     refine ⟨by simp,.inl ⟨_,_,rfl,run_takeDeferred hKD,?_⟩⟩
     refine ⟨.tuple #[.string tl,.string th,.bool true,.int .i64 0],by simp [results,Tryz.results21,go_sem,f0,t0,d0,r0],?_⟩
     exact ⟨_,rfl,.inl ⟨HIN.out,HLT.out,by rw [HGL.out.1,HGL.out.2]⟩,hbq⟩
    ·have nc:decide (cmpR (loP P a b P.length) (hiP P a b P.length)≥0)=true:=decide_eq_true (by
      have:=mt cmpR_neg.1 hlt;omega)
     have nc2:decide (0≤cmpR (loP P a b P.length) (hiP P a b P.length))=true:=nc
     have HLT:=hid hlt
     generalize cmpR (loP P a b P.length) (hiP P a b P.length)=cm at *
     generalize hgl:tx (loP P a b P.length)=tl at *
     generalize hgh:tx (hiP P a b P.length)=th at *
     have HCW:=hid hcc
     clear hgl hgh hlt hcc
     obtain ⟨f0,f1⟩:=one_cell HCW.out.f
     obtain ⟨t0,t1⟩:=one_cell HCW.out.t
     gi_wp2
     refine ⟨trivial,?_⟩
     refine (callsIn_wide.2 (HCP.out W hgW)).mono ?_
     rintro e v1 ⟨rfl,hv1⟩
     have hc1:=HCW.out.below (hv1.mono (by omega))
     have HC1:=hid hc1
     clear f0 f1 t0 t1
     obtain ⟨f0,f1⟩:=one_cell hc1.f
     obtain ⟨t0,t1⟩:=one_cell hc1.t
     obtain ⟨d0,d1⟩:=one_cell hc1.d
     obtain ⟨r0,r1⟩:=one_cell hc1.e
     clear hc1
     gi_wp2
     have hKD:(chSet w.heap.size v1 ⟨#[]⟩ ⟨#[]⟩ false 0).heap[Dk]?=some (.deferred (some [])):=(chSet_keep _ _ _ _ (by omega)).trans ((hv1.block Dk (lt_of_some HDD.out)).trans HDD.out)
     have hpw:=putObj_below (chSet w.heap.size v1 ⟨#[]⟩ ⟨#[]⟩ false 0) Dk (.deferred none) (B:=w.heap.size+6) (by omega)
     have hcq:=(HC1.out.all ⟨#[]⟩ ⟨#[]⟩ false 0).below hpw
     have hbq:=(below_chSet (HLOW.out.trans (hv1.mono (by omega))) (Nat.le_refl _) ⟨#[]⟩ ⟨#[]⟩ false 0).trans (hpw.mono (by omega))
     clear f0 f1 t0 t1 d0 d1 r0 r1
     obtain ⟨f0,f1⟩:=one_cell hcq.f
     obtain ⟨t0,t1⟩:=one_cell hcq.t
     obtain ⟨d0,d1⟩:=one_cell hcq.d
     obtain ⟨r0,r1⟩:=one_cell hcq.e
     unfold chSet at f0 t0 d0 r0 hKD hbq
     refine ⟨by simp,.inl ⟨_,_,rfl,run_takeDeferred hKD,?_⟩⟩
     refine ⟨.tuple #[.string ⟨#[]⟩,.string ⟨#[]⟩,.bool false,.int .i64 0],by simp [results,Tryz.results21,go_sem,f0,t0,d0,r0],?_⟩
     exact ⟨_,rfl,.inr ⟨fun h=>HLT.out h.2,rfl⟩,hbq⟩
   case stop =>
    rintro Dk c k W hD hk ⟨rfl,hlow,hcc,hout,hsz⟩ hK
    have hpw:=putObj_below W Dk (.deferred none) (B:=w.heap.size+6) (by omega)
    have hcp:=hcc.below hpw
    obtain ⟨f0,f1⟩:=one_cell hcp.f
    obtain ⟨t0,t1⟩:=one_cell hcp.t
    obtain ⟨d0,d1⟩:=one_cell hcp.d
    obtain ⟨r0,r1⟩:=one_cell hcp.e
    have HOUT:=hid hout
    have HLOW:=hid (hbwS.trans hlow)
    clear hout hlow
    gi_wp2
    refine ⟨by simp,.inl ⟨_,_,rfl,run_takeDeferred hK,?_⟩⟩
    refine ⟨.tuple #[.string ⟨#[]⟩,.string ⟨#[]⟩,.bool false,.int .i64 0],by simp [results,Tryz.results21,go_sem,f0,t0,d0,r0],?_⟩
    exact ⟨_,rfl,.inr ⟨fun h=>HOUT.out h.1,rfl⟩,HLOW.out.trans (hpw.mono (by omega))⟩
theorem pg_Chord (v:Value) (P:List QP) (a b:QP) (hP:Poly P) (h60:P.length≤60) (hz:∀ p∈P,OkB p.1∧OkB p.2) (ha:OkB a.1∧OkB a.2) (hb:OkB b.1∧OkB b.2) (hne:a≠b)
  (hok:loP P a b P.length<hiP P a b P.length→OkB (loP P a b P.length)∧OkB (hiP P a b P.length)) (w:World) (hw:Good w) (hv:Pts w v P) :
  Calls Tryz.prog 21 #[v,ptV a,ptV b] w (fun e w'=>∃ r,e=.returned r∧ChordOut P a b r∧Below w.heap.size w w'):=callsIn_wide.1 (pg_chord_in v P a b hP h60 hz ha hb hne hok w hw hv)
end Go.Proofs.YtgohnjdgoglcfaaGreatDoor
