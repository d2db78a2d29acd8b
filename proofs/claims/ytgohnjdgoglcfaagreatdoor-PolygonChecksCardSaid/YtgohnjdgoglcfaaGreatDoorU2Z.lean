import Derived.Test.YtgohnjdgoglcfaaGreatDoorAtLawZ
namespace Go.Proofs.YtgohnjdgoglcfaaGreatDoor
open Go.RowKit Go.Shelf
open Go.Lib (decDigits itoa nDigits)
attribute [local go_sem] Oper.semAt_some
section
variable {T:TypeId} {B:Nat} {W W':World} {row:Option Nat}
theorem cells_keptT (hg:W.grownBy W' row) (hr:∀ r,row=some r→B≤r∧∃ o:Obj,W.heap[r]?=some o∧(o.isCells=false∨∃ c fz,o=.cells c T fz)) {k:Nat} {c:Array Value} {e:TypeId} {fz:Nat × Nat} (hk:W.heap[k]?=some (.cells c e fz)) (he:e≠T):W'.heap[k]?=some (.cells c e fz):=by
 rw [hg.block k (lt_of_some hk) ?_]
 ·exact hk
 ·intro e'
  obtain ⟨_,o,ho,hc⟩:=hr k e'.symm
  rw [hk] at ho
  cases ho
  rcases hc with hc | ⟨c',fz',hc⟩
  ·simp [Obj.isCells] at hc
  ·cases hc;exact he rfl
theorem ownsRow_keptT (hg:W.grownBy W' row) (hr:∀ r,row=some r→B≤r∧∃ o:Obj,W.heap[r]?=some o∧(o.isCells=false∨∃ c fz,o=.cells c T fz)) {base:Nat} {e:TypeId} {size n:Nat} {v:Value} {xs:List Value} (h:W.ownsRow base e size v n xs) (he:e≠T):W'.ownsRow base e size v n xs:=by
 refine ⟨h.1,?_⟩
 rcases h.2 with h2 | ⟨g,cap,cur,e1,e2,e3,r⟩
 ·exact .inl h2
 ·exact .inr ⟨g,cap,cur,e1,e2,cells_keptT hg hr e3 he,r⟩
theorem below_keptT {n:Nat} {w:World} (h:Below n w W) (hn:n≤B) (hw:n≤w.heap.size) (hg:W.grownBy W' row) (hr:∀ r,row=some r→B≤r∧∃ o:Obj,W.heap[r]?=some o∧(o.isCells=false∨∃ c fz,o=.cells c T fz)):Below n w W':=
 h.trans ⟨hg.os,hg.tape,hg.output,hg.size,fun k hk=>hg.block k (by have:=h.size;omega) fun e=>by have:=(hr k e.symm).1;omega⟩
end
theorem one_cell {W:World} {B:Nat} {t:TypeId} {a:Value} (h:W.heap[B]?=some (.cells #[a] t (0,0))):W.cell? ⟨B,0,none⟩=some a∧W.frozen? ⟨B,0,none⟩=false:=⟨by simp [World.cell?,h],by simp [World.frozen?,h]⟩
def AxS (a:Act) (B p1 p2 j1 j2:Nat) (P:List QP) (k:Nat) (a':Act) (W:World):Prop:=
 ∃ B1 B2,B≤B1∧B≤B2∧W.heap[B1]?=some (.cells #[.string (tx (pt P k).1),.string (tx (pt P k).2)] 31 (0,0))∧W.heap[B2]?=some (.cells #[.string (tx (pt P (nxI P.length k)).1),.string (tx (pt P (nxI P.length k)).2)] 31 (0,0)) ∧
  a'={ tmps:=(((a.tmps.setIfInBounds p1 (ptV (pt P k))).setIfInBounds p2 (ptV (pt P (nxI P.length k)))).setIfInBounds j1 (.pointer (some ⟨B1,0,none⟩))).setIfInBounds j2 (.pointer (some ⟨B2,0,none⟩)),defers:=[] }
theorem wpIn_rangeFunc_side {F:Fence} {n:Nat} {P:Program} {g:Operand} {ps:Array Tmp} {assign body:Code} {Q:Exit→Act→World→Prop} {a:Act} {w:World} (p1 p2 j1 j2:Nat) (P2:List QP)
  (hro:F.round=none) (h1:1≤n) {gf:Nat} {lb:Array Value} (hg:a.eval g=.func (.func gf) #[] lb) (hFg:F.fn gf) (eg:∀ args w,(callFunc gf args).run P w=.ok (.enter gf args) w)
  {Kp:World→World→Prop} {w0:World} {T:TypeId} (hseq:SeqAt T F (n-1) P gf lb (sideE P2) Kp (List.range P2.length) w0)
  (hKt:∀ {A B C:World},Kp A B→Kp B C→Kp A C) (hKb:∀ (W:World) (l:Nat) (o o':Obj),w.heap.size≤l→W.heap[l]?=some o→o.isCells=false→o.isWalk=false→Kp W (W.putObj l o')) (hb0:Below w0.heap.size w0 w) (hps:∀ k,(sideE P2 k).size=ps.size)
  (I:Nat→World→Prop) (Ix:Code→Nat→World→Prop) (hI:OwnT T w.heap.size I) (hIx:∀ c,OwnT T w.heap.size (Ix c)) (h0:I 0 w)
  (hassign:∀ (l k:Nat) (_:k<P2.length) (W:World) (K:Act→World→Prop),I k W→(∀ a' W',KeepsFrom w.heap.size W W'→Kp W W'→I k W'→AxS a w.heap.size p1 p2 j1 j2 P2 k a' W'→K a' W') →
   assign.wpIn (F.inRound l) (n-1-1) P (Exit.then K (fun _ _ _=>False)) { tmps:=(ps.zip (sideE P2 k)).foldl (fun t (p,v)=>t.setIfInBounds p v) a.tmps,defers:=[] } W)
  (hbody:∀ (l k:Nat) (_:k<P2.length) (a':Act) (W:World),w.heap.size≤l→I k W→AxS a w.heap.size p1 p2 j1 j2 P2 k a' W→body.wpIn (F.inRound l) (n-1-1) P (RoundAt w.heap.size Kp I Ix k W) a' W)
  (hdone:∀ (Dk:Nat) (W:World),w.heap.size≤Dk→I P2.length W→W.heap[Dk]?=some (.deferred (some []))→Q .normal { a with defers:={ target:=.collected Dk,args:=#[] } :: a.defers } W)
  (hstop:∀ (Dk:Nat) (c:Code) (k:Nat) (W:World),w.heap.size≤Dk→k<P2.length→Ix c k W→W.heap[Dk]?=some (.deferred (some []))→c.wpIn F n P Q { a with defers:={ target:=.collected Dk,args:=#[] } :: a.defers } W) :
  (Code.rangeFunc g ps assign body).wpIn F n P Q a w:=by
 have hl:(List.range P2.length).length=P2.length:=List.length_range
 refine wpIn_rangeFunc_at (Q:=Q) hro h1 hg hFg eg hseq hKt hKb hb0 hps I Ix hI hIx h0 (AxS a w.heap.size p1 p2 j1 j2 P2)
  (fun k a' _ X Y row hs hg hr=>by obtain ⟨B1,B2,h1,h2,h3,h4,h5⟩:=hs;exact ⟨B1,B2,h1,h2,cells_kept hg hr h3,cells_kept hg hr h4,h5⟩) ?_ ?_ ?_ ?_
 ·intro l k hk W K hi hK
  rw [List.getElem_range]
  exact hassign l k (by omega) W K hi hK
 ·intro l k hk a' W hl' _ hi hx
  exact hbody l k (by omega) a' W hl' hi hx
 ·intro Dk W hD hi hK
  rw [hl] at hi
  exact hdone Dk W hD hi hK
 ·intro Dk c k W hD hk hi hK
  exact hstop Dk c k W hD (by omega) hi hK
end Go.Proofs.YtgohnjdgoglcfaaGreatDoor
