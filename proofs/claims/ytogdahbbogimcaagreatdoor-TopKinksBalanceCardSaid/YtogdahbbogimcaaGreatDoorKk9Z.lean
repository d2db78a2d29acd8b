import Derived.Test.YtogdahbbogimcaaGreatDoorKk7Z
import Derived.Test.YtogdahbbogimcaaGreatDoorAtLawZ
import Derived.Test.YtogdahbbogimcaaGreatDoorKk3Z
set_option maxRecDepth 100000
set_option maxHeartbeats 8000000
namespace Go.Proofs.YtogdahbbogimcaaGreatDoor
open Go.RowKit Go.Shelf
open Go.Lib (decDigits itoa nDigits)
attribute [local go_sem] Oper.semAt_some
def restQ (D:List (Rat × Rat)) (h x:Rat):Nat→Rat
 | 0=>x
 | k+1=>restQ D h x k-lgQ D h k
def foldP (s:QP) (D:List (Rat × Rat)) (h x:Rat) (k:Nat):QP:=plusQ (bedQ s D h k) (dirQ (tK D k)) (restQ D h x k)
def FoldPost (s:QP) (D:List (Rat × Rat)) (h x:Rat) (w:World) (e:Ending) (w':World):Prop:=
 ∃ (x1 y1:ByteArray) (err:Int),e=.returned (.tuple #[.agg #[.string x1,.string y1],.int .i64 err])∧Below w.heap.size w w' ∧
  (err=3∨err=28∨(err=0∧withinB D h=true∧¬ x<0∧∃ k,k<D.length∧x1=tx (foldP s D h x k).1∧y1=tx (foldP s D h x k).2∧restQ D h x k≤lgQ D h k∧∀ j,j<k→lgQ D h j<restQ D h x j))
theorem sgnR_lt (q:Rat):decide (sgnR q<0)=decide (q<0):=by
 have h:=sgnR_nonneg q
 rw [decide_eq_decide] at h ⊢
 rw [←Rat.not_le,←h]
 omega
structure FoldInv (w4:World) (B8:Nat) (D:List (Rat × Rat)) (h x:Rat) (k:Nat) (W:World):Prop where
 low:Below B8 w4 W
 same:∀ j,j<w4.heap.size→j≠B8→W.heap[j]?=w4.heap[j]?
 rest:Boxed W B8 28 (.string (tx (restQ D h x k)))
 all:∀ j,j<k→lgQ D h j<restQ D h x j
 sz:w4.heap.size≤W.heap.size
theorem foldInv_own {w4:World} {B8 B:Nat} {D:List (Rat × Rat)} {h x:Rat} (hB:w4.heap.size≤B) (h8:B8<w4.heap.size):OwnT 30 B (FoldInv w4 B8 D h x):=fun k X Y row hi hg hr =>
 ⟨below_keptT hi.low (by omega) (by omega) hg hr,fun j hj hne=>(hg.block j (by have:=hi.sz;omega) fun e=>by have:=(hr _ e.symm).1;omega).trans (hi.same j hj hne),cells_keptT hg hr hi.rest (by decide),hi.all,Nat.le_trans hi.sz hg.size⟩
theorem foldInv_below {w4:World} {B8:Nat} {D:List (Rat × Rat)} {h x:Rat} {k:Nat} {W W':World} (hi:FoldInv w4 B8 D h x k W) (hb:Below W.heap.size W W') (h8:B8<w4.heap.size):FoldInv w4 B8 D h x k W':=
 ⟨hi.low.trans (hb.mono (by have:=hi.sz;omega)),fun j hj hne=>(hb.block j (by have:=hi.sz;omega)).trans (hi.same j hj hne),(hb.block _ hi.rest.lt).trans hi.rest,hi.all,Nat.le_trans hi.sz hb.size⟩
def FoldOut (n:Nat) (w:World) (s:QP) (D:List (Rat × Rat)) (h x:Rat) (k:Nat) (W:World):Prop:=
 Below w.heap.size w W∧n+4≤W.heap.size∧W.heap[n+1+1]?=some (.cells #[.string (tx (foldP s D h x k).1),.string (tx (foldP s D h x k).2)] 30 (0,0))∧W.heap[n+1+1+1]?=some (.cells #[.int .i64 0] 35 (0,0)) ∧
  restQ D h x k≤lgQ D h k∧∀ j,j<k→lgQ D h j<restQ D h x j
theorem cmpR_le (p q:Rat):decide (cmpR p q≤0)=decide (p≤q):=by
 rw [decide_eq_decide,←Rat.not_lt,←cmpR_pos];omega
structure FoldB (n:Nat) (s:QP) (vd vl:Value) (h x:Rat) (W:World):Prop where
 b0:W.heap[n]?=some (profO s vd vl)
 b1:W.heap[n+1]?=some (.cells #[.string (tx x),.string (tx h)] 30 (0,0))
 b2:W.heap[n+1+1]?=some (.cells #[.string ⟨#[]⟩,.string ⟨#[]⟩] 30 (0,0))
 b3:W.heap[n+1+1+1]?=some (.cells #[.int .i64 0] 35 (0,0))
theorem FoldB.below {n:Nat} {s:QP} {vd vl:Value} {h x:Rat} {W W':World} (B:FoldB n s vd vl h x W) (hb:Below W.heap.size W W'):FoldB n s vd vl h x W':=
 ⟨(hb.block _ (lt_of_some B.b0)).trans B.b0,(hb.block _ (lt_of_some B.b1)).trans B.b1,(hb.block _ (lt_of_some B.b2)).trans B.b2,(hb.block _ (lt_of_some B.b3)).trans B.b3⟩
theorem foldB_new {w wA:World} {s:QP} {vd vl:Value} {h x:Rat} (hw:wA=(((w.alloc (profO s vd vl)).alloc (Obj.cells #[.string (tx x),.string (tx h)] 30)).alloc (Obj.cells #[.string ⟨#[]⟩,.string ⟨#[]⟩] 30)).alloc (Obj.cells #[.int .i64 0] 35)) :
  FoldB w.heap.size s vd vl h x wA∧Below w.heap.size w wA∧wA.heap.size=w.heap.size+4:=by
 have e0:=World.alloc_heap_new w (profO s vd vl)
 have e1:=World.alloc_heap_new (w.alloc (profO s vd vl)) (Obj.cells #[.string (tx x),.string (tx h)] 30)
 have e2:=World.alloc_heap_new ((w.alloc (profO s vd vl)).alloc (Obj.cells #[.string (tx x),.string (tx h)] 30)) (Obj.cells #[.string ⟨#[]⟩,.string ⟨#[]⟩] 30)
 have e3:=World.alloc_heap_new (((w.alloc (profO s vd vl)).alloc (Obj.cells #[.string (tx x),.string (tx h)] 30)).alloc (Obj.cells #[.string ⟨#[]⟩,.string ⟨#[]⟩] 30)) (Obj.cells #[.int .i64 0] 35)
 have l0:=alloc_below w (profO s vd vl)
 have l1:=alloc_below (w.alloc (profO s vd vl)) (Obj.cells #[.string (tx x),.string (tx h)] 30)
 have l2:=alloc_below ((w.alloc (profO s vd vl)).alloc (Obj.cells #[.string (tx x),.string (tx h)] 30)) (Obj.cells #[.string ⟨#[]⟩,.string ⟨#[]⟩] 30)
 have l3:=alloc_below (((w.alloc (profO s vd vl)).alloc (Obj.cells #[.string (tx x),.string (tx h)] 30)).alloc (Obj.cells #[.string ⟨#[]⟩,.string ⟨#[]⟩] 30)) (Obj.cells #[.int .i64 0] 35)
 rw [←hw] at e3 l3
 simp only [World.size_alloc] at e1 e2 e3 l1 l2 l3
 refine ⟨⟨?_,?_,?_,e3⟩,l0.trans ((l1.mono (by omega)).trans ((l2.mono (by omega)).trans (l3.mono (by omega)))),by rw [hw];simp⟩
 ·rw [l3.block _ (by omega),l2.block _ (by omega),l1.block _ (by omega)];exact e0
 ·rw [l3.block _ (by omega),l2.block _ (by omega)];exact e1
 ·rw [l3.block _ (by omega)];exact e2
theorem one_cell {W:World} {B:Nat} {t:TypeId} {a:Value} (h:W.heap[B]?=some (.cells #[a] t (0,0))):W.cell? ⟨B,0,none⟩=some a∧W.frozen? ⟨B,0,none⟩=false:=⟨by simp [World.cell?,h],by simp [World.frozen?,h]⟩
theorem put_res {n:Nat} {W wR:World} {a b c:Value} (b2:W.heap[n+1+1]?=some (.cells #[.string ⟨#[]⟩,.string ⟨#[]⟩] 30 (0,0))) (b3:W.heap[n+1+1+1]?=some (.cells #[.int .i64 0] 35 (0,0)))
  (hR:wR=((W.setCell ⟨n+1+1,0,none⟩ a).setCell ⟨n+1+1,1,none⟩ b).setCell ⟨n+1+1+1,0,none⟩ c) :
  wR.heap[n+1+1]?=some (.cells #[a,b] 30 (0,0))∧wR.heap[n+1+1+1]?=some (.cells #[c] 35 (0,0))∧Below n W wR∧KeepsOthers W wR:=by
 refine ⟨?_,?_,?_,?_⟩
 ·rw [hR,Below.heap_setCell _ (⟨n+1+1+1,0,none⟩ : Addr) _ (n+1+1) (by simp)]
  exact two_set1 b (two_set0 a b2)
 ·rw [hR]
  have:=set_block (i:=0) c (show ((W.setCell ⟨n+1+1,0,none⟩ a).setCell ⟨n+1+1,1,none⟩ b).heap[n+1+1+1]?=some (.cells #[.int .i64 0] 35 (0,0)) by
   rw [Below.heap_setCell _ (⟨n+1+1,1,none⟩ : Addr) _ (n+1+1+1) (by simp),Below.heap_setCell _ (⟨n+1+1,0,none⟩ : Addr) _ (n+1+1+1) (by simp)];exact b3)
  exact this
 ·rw [hR]
  exact (((Below.refl n W).setCell (p:=⟨n+1+1,0,none⟩) (by simp;omega) _).setCell (p:=⟨n+1+1,1,none⟩) (by simp;omega) _).setCell (p:=⟨n+1+1+1,0,none⟩) (by simp;omega) _
 ·rw [hR]
  exact ((KeepsOthers.setCell _ _ _).trans (KeepsOthers.setCell _ _ _)).trans (KeepsOthers.setCell _ _ _)
theorem KeepP.setT {n₀ B1 s0 i:Nat} {W:World} {t:TypeId} {cs:Array Value} {fz:Nat × Nat} (v:Value) (hb:W.heap[s0]?=some (.cells cs t fz)) (ht:t≠30) (h1:n₀≤s0) (h2:B1≠s0):KeepP n₀ B1 W (W.setCell ⟨s0,i,none⟩ v):=by
 have one:∀ k,k≠s0→(W.setCell ⟨s0,i,none⟩ v).heap[k]?=W.heap[k]?:=fun k hk=>Below.heap_setCell _ _ _ k hk
 refine ⟨(Below.refl n₀ W).setCell (p:=⟨s0,i,none⟩) h1 _,one B1 h2,fun k c fz' hk=>?_⟩
 rw [one k ?_]
 ·exact hk
 ·intro e
  subst e
  rw [hb] at hk
  cases hk
  exact ht rfl
end Go.Proofs.YtogdahbbogimcaaGreatDoor
namespace Go.Proofs.YtogdahbbogimcaaGreatDoor
open Go.RowKit Go.Shelf
open Go.Lib (decDigits itoa nDigits)
attribute [local go_sem] Oper.semAt_some
def hU (s:QP) (D:List (Rat × Rat)) (p:QP) (k:Nat):Rat:=dotQ (nK D k) (minusQ p (atK s D k))
def xU (s:QP) (D:List (Rat × Rat)) (p:QP) (k:Nat):Rat:=dotQ (dirQ (tK D k)) (minusQ p (bedQ s D (hU s D p k) k))
def hitU (s:QP) (D:List (Rat × Rat)) (p:QP) (k:Nat):Prop:=withinB D (hU s D p k)=true∧¬ xU s D p k<0∧xU s D p k≤lgQ D (hU s D p k) k
def outU (s:QP) (D:List (Rat × Rat)) (p:QP) (k:Nat):QP:=(sumR ((lgL D (hU s D p k)).take k)+xU s D p k,hU s D p k)
theorem PrOk.huz {s:QP} {D:List (Rat × Rat)} (h:PrOk s D) {p:QP} (hp:Sz2 402 p) {k:Nat} (hk:k≤4):Sz 3000000 (hU s D p k):=by
 have hn0:Sz2 4925 (nK D k):=⟨(h.dir k).2.neg,(h.dir k).1.mono (by decide)⟩
 exact (sz_dot (hn0.mono (by decide)) (sz_minus hp (h.at4 hk))).mono (by decide)
theorem PrOk.bedz {s:QP} {D:List (Rat × Rat)} (h:PrOk s D) {x:Rat} (hx:Sz 3000000 x) {k:Nat} (hk:k≤4):Sz2 6756988 (bedQ s D x k):=(sz_plus (h.at4 hk) (h.axz k) hx).mono (by decide)
theorem PrOk.xuz {s:QP} {D:List (Rat × Rat)} (h:PrOk s D) {p:QP} (hp:Sz2 402 p) {k:Nat} (hk:k≤4):Sz 110000000 (xU s D p k):=
 (sz_dot ((h.dir k).mono (by decide)) (sz_minus hp (h.bedz (h.huz hp hk) hk))).mono (by decide)
theorem lgL_get {D:List (Rat × Rat)} {x:Rat} {k:Nat} (h:k<(lgL D x).length):(lgL D x)[k]=lgQ D x k:=by
 have h1:k<D.length:=by rwa [show (lgL D x).length=D.length by unfold lgL;simp] at h
 have h2:(lgL D x)[k]?=some (lgQ D x k):=by unfold lgL;simp [h1]
 exact Option.some.inj ((List.getElem?_eq_getElem h).symm.trans h2)
theorem sum_size {s:QP} {D:List (Rat × Rat)} (h:PrOk s D) {x:Rat} (hx:Sz 3000000 x):∀ k,Sz (37239302*2 ^ k-37238900) (sumR ((lgL D x).take k))
 | 0=>by rw [List.take_zero];exact sz0.mono (by decide)
 | k+1=>by
  have ih:=sum_size h hx k
  have h2:=Nat.one_le_two_pow (n:=k)
  by_cases hl:k<(lgL D x).length
  ·rw [List.take_succ_eq_append_getElem hl,sumR_snoc,lgL_get hl]
   refine (ih.add (h.lgz hx k)).mono ?_
   rw [Nat.pow_succ]
   omega
  ·rw [List.take_of_length_le (by omega)]
   rw [List.take_of_length_le (by omega)] at ih
   refine ih.mono ?_
   rw [Nat.pow_succ]
   omega
theorem sum_sz5 {s:QP} {D:List (Rat × Rat)} (h:PrOk s D) {x:Rat} (hx:Sz 3000000 x) {k:Nat} (hk:k≤3):Sz 261000000 (sumR ((lgL D x).take k)):=(sum_size h hx k).mono (by
 have:2 ^ k≤2 ^ 3:=Nat.pow_le_pow_right (by decide) hk
 omega)
end Go.Proofs.YtogdahbbogimcaaGreatDoor
namespace Go.Proofs.YtogdahbbogimcaaGreatDoor
open Go.RowKit Go.Shelf
open Go.Lib (decDigits itoa nDigits)
open Go.Lib (hid)
attribute [local go_sem] Oper.semAt_some
structure UnfB (n:Nat) (s:QP) (vd vl:Value) (p:QP) (W:World):Prop where
 b0:W.heap[n]?=some (profO s vd vl)
 b1:W.heap[n+1]?=some (.cells #[.string (tx p.1),.string (tx p.2)] 30 (0,0))
 b2:W.heap[n+1+1]?=some (.cells #[.string ⟨#[]⟩,.string ⟨#[]⟩] 30 (0,0))
 b3:W.heap[n+1+1+1]?=some (.cells #[.bool false] 4 (0,0))
 b4:W.heap[n+1+1+1+1]?=some (.cells #[.int .i64 0] 35 (0,0))
theorem UnfB.below {n:Nat} {s:QP} {vd vl:Value} {p:QP} {W W':World} (B:UnfB n s vd vl p W) (hb:Below W.heap.size W W'):UnfB n s vd vl p W':=
 ⟨(hb.block _ (lt_of_some B.b0)).trans B.b0,(hb.block _ (lt_of_some B.b1)).trans B.b1,(hb.block _ (lt_of_some B.b2)).trans B.b2,(hb.block _ (lt_of_some B.b3)).trans B.b3,(hb.block _ (lt_of_some B.b4)).trans B.b4⟩
theorem unfB_new {w wA:World} {s:QP} {vd vl:Value} {p:QP} (hw:wA=((((w.alloc (profO s vd vl)).alloc (Obj.cells #[.string (tx p.1),.string (tx p.2)] 30)).alloc (Obj.cells #[.string ⟨#[]⟩,.string ⟨#[]⟩] 30)).alloc (Obj.cells #[.bool false] 4)).alloc (Obj.cells #[.int .i64 0] 35)) :
  UnfB w.heap.size s vd vl p wA∧Below w.heap.size w wA∧wA.heap.size=w.heap.size+5:=by
 obtain ⟨wP,hwP⟩ : ∃ wP,wP=w.alloc (profO s vd vl):=⟨_,rfl⟩
 obtain ⟨wQ,hwQ⟩ : ∃ wQ,wQ=wP.alloc (Obj.cells #[.string (tx p.1),.string (tx p.2)] 30):=⟨_,rfl⟩
 obtain ⟨wR,hwR⟩ : ∃ wR,wR=wQ.alloc (Obj.cells #[.string ⟨#[]⟩,.string ⟨#[]⟩] 30):=⟨_,rfl⟩
 obtain ⟨wS,hwS⟩ : ∃ wS,wS=wR.alloc (Obj.cells #[.bool false] 4):=⟨_,rfl⟩
 rw [←hwP,←hwQ,←hwR,←hwS] at hw
 have e0:=World.alloc_heap_new w (profO s vd vl)
 rw [←hwP] at e0
 have e1:=World.alloc_heap_new wP (Obj.cells #[.string (tx p.1),.string (tx p.2)] 30)
 rw [←hwQ] at e1
 have e2:=World.alloc_heap_new wQ (Obj.cells #[.string ⟨#[]⟩,.string ⟨#[]⟩] 30)
 rw [←hwR] at e2
 have e3:=World.alloc_heap_new wR (Obj.cells #[.bool false] 4)
 rw [←hwS] at e3
 have e4:=World.alloc_heap_new wS (Obj.cells #[.int .i64 0] 35)
 rw [←hw] at e4
 have l0:Below w.heap.size w wP:=by rw [hwP];exact alloc_below _ _
 have l1:Below wP.heap.size wP wQ:=by rw [hwQ];exact alloc_below _ _
 have l2:Below wQ.heap.size wQ wR:=by rw [hwR];exact alloc_below _ _
 have l3:Below wR.heap.size wR wS:=by rw [hwS];exact alloc_below _ _
 have l4:Below wS.heap.size wS wA:=by rw [hw];exact alloc_below _ _
 have s0:wP.heap.size=w.heap.size+1:=by rw [hwP];simp
 have s1:wQ.heap.size=w.heap.size+1+1:=by rw [hwQ];simp [s0]
 have s2:wR.heap.size=w.heap.size+1+1+1:=by rw [hwR];simp [s1]
 have s3:wS.heap.size=w.heap.size+1+1+1+1:=by rw [hwS];simp [s2]
 rw [s0] at e1 l1
 rw [s1] at e2 l2
 rw [s2] at e3 l3
 rw [s3] at e4 l4
 refine ⟨⟨?_,?_,?_,?_,e4⟩,l0.trans ((l1.mono (by omega)).trans ((l2.mono (by omega)).trans ((l3.mono (by omega)).trans (l4.mono (by omega))))),by rw [hw];simp [s3]⟩
 ·rw [l4.block _ (by omega),l3.block _ (by omega),l2.block _ (by omega),l1.block _ (by omega)];exact e0
 ·rw [l4.block _ (by omega),l3.block _ (by omega),l2.block _ (by omega)];exact e1
 ·rw [l4.block _ (by omega),l3.block _ (by omega)];exact e2
 ·rw [l4.block _ (by omega)];exact e3
theorem put_res3 {n:Nat} {W wR:World} {a b c d:Value} (b2:W.heap[n+1+1]?=some (.cells #[.string ⟨#[]⟩,.string ⟨#[]⟩] 30 (0,0))) (b3:W.heap[n+1+1+1]?=some (.cells #[.bool false] 4 (0,0))) (b4:W.heap[n+1+1+1+1]?=some (.cells #[.int .i64 0] 35 (0,0)))
  (hR:wR=(((W.setCell ⟨n+1+1,0,none⟩ a).setCell ⟨n+1+1,1,none⟩ b).setCell ⟨n+1+1+1,0,none⟩ c).setCell ⟨n+1+1+1+1,0,none⟩ d) :
  wR.heap[n+1+1]?=some (.cells #[a,b] 30 (0,0))∧wR.heap[n+1+1+1]?=some (.cells #[c] 4 (0,0))∧wR.heap[n+1+1+1+1]?=some (.cells #[d] 35 (0,0))∧Below n W wR∧KeepsOthers W wR:=by
 have f:∀ (X:World) (i j o:Nat) (v:Value),j≠i→(X.setCell ⟨i,o,none⟩ v).heap[j]?=X.heap[j]?:=fun X i j o v h=>Below.heap_setCell _ (⟨i,o,none⟩ : Addr) _ j h
 refine ⟨?_,?_,?_,?_,?_⟩
 ·rw [hR,f _ _ _ _ _ (by omega),f _ _ _ _ _ (by omega)]
  exact two_set1 b (two_set0 a b2)
 ·rw [hR,f _ _ _ _ _ (by omega)]
  have:=set_block (i:=0) c (show ((W.setCell ⟨n+1+1,0,none⟩ a).setCell ⟨n+1+1,1,none⟩ b).heap[n+1+1+1]?=some (.cells #[.bool false] 4 (0,0)) by
   rw [f _ _ _ _ _ (by omega),f _ _ _ _ _ (by omega)];exact b3)
  exact this
 ·rw [hR]
  have:=set_block (i:=0) d (show (((W.setCell ⟨n+1+1,0,none⟩ a).setCell ⟨n+1+1,1,none⟩ b).setCell ⟨n+1+1+1,0,none⟩ c).heap[n+1+1+1+1]?=some (.cells #[.int .i64 0] 35 (0,0)) by
   rw [f _ _ _ _ _ (by omega),f _ _ _ _ _ (by omega),f _ _ _ _ _ (by omega)];exact b4)
  exact this
 ·rw [hR]
  exact ((((Below.refl n W).setCell (p:=⟨n+1+1,0,none⟩) (by simp;omega) _).setCell (p:=⟨n+1+1,1,none⟩) (by simp;omega) _).setCell (p:=⟨n+1+1+1,0,none⟩) (by simp;omega) _).setCell (p:=⟨n+1+1+1+1,0,none⟩) (by simp;omega) _
 ·rw [hR]
  exact (((KeepsOthers.setCell _ _ _).trans (KeepsOthers.setCell _ _ _)).trans (KeepsOthers.setCell _ _ _)).trans (KeepsOthers.setCell _ _ _)
def UnfInv (w4:World) (k0 k:Nat) (W:World):Prop:=Below w4.heap.size w4 W∧k≤k0
def UnfOut (n:Nat) (w:World) (q:QP) (W:World):Prop:=
 Below w.heap.size w W∧n+5≤W.heap.size∧W.heap[n+1+1]?=some (.cells #[.string (tx q.1),.string (tx q.2)] 30 (0,0))∧W.heap[n+1+1+1]?=some (.cells #[.bool true] 4 (0,0))∧W.heap[n+1+1+1+1]?=some (.cells #[.int .i64 0] 35 (0,0))
theorem cmpR_gt (p q:Rat):decide (0<cmpR p q)=decide (q<p):=by rw [decide_eq_decide];exact cmpR_pos
theorem kink_Unfold (s:QP) (D:List (Rat × Rat)) (hP:PrOk s D) (hI:PrIn D) (hnd:NoDiv D) (p:QP) (hp1:OkB p.1) (hp2:OkB p.2) (k0:Nat) (hk0:k0<D.length) (hit:hitU s D p k0) (hno:∀ j,j<k0→¬ hitU s D p j) (ho1:OkB (outU s D p k0).1) (ho2:OkB (outU s D p k0).2)
  (vd vl:Value) (w:World) (hw:Good w) (hvd:Txs w vd (D.map (·.1))) (hvl:Txs w vl (D.map (·.2))) :
  CallsIn Fence.wide 9 Tryz.prog 43 #[profV s vd vl,ptV p] w (RV (.tuple #[ptV (outU s D p k0),.bool true,.int .i64 0]) w):=by
 have HCK:=hid (fun (W:World) (hg:Good W) (h1:Txs W vd (D.map (·.1))) (h2:Txs W vl (D.map (·.2)))=>callsIn_wide (n:=8) |>.2 (kink_Check s D hP hI vd vl W hg h1 h2))
 have HWI:=hid (fun (h:Rat) (hh:Sz 3000000 h) (W:World) (hg:Good W) (h1:Txs W vd (D.map (·.1))) (h2:Txs W vl (D.map (·.2)))=>kink_within s D hP hnd h hh vd vl W hg h1 h2)
 have HBE:=hid (fun (h:Rat) (hh:Sz 3000000 h) (W:World) (hg:Good W) (h1:Txs W vd (D.map (·.1))) (h2:Txs W vl (D.map (·.2)))=>kink_bed s D hP hnd h hh vd vl W hg h1 h2)
 have HLE:=hid (fun (h:Rat) (hh:Sz 3000000 h) (W:World) (hg:Good W) (h1:Txs W vd (D.map (·.1))) (h2:Txs W vl (D.map (·.2)))=>kink_lengths s D hP hnd h hh vd vl W hg h1 h2)
 have HCP:=hid (fun (W:World) (hg:Good W)=>callsIn_wide (n:=8) |>.2 (vec_CheckPoint p hp1 hp2 W hg))
 unfold RV at HCK HWI HCP
 unfold ptV at HCP
 have HVD:=hid hvd
 have HVL:=hid hvl
 obtain ⟨bd,cd,rfl,-,-,-,-⟩:=hvd
 obtain ⟨bl,cl,rfl,-,-,-,-⟩:=hvl
 have HDM:=hid (fun W=>kink_domains 8 s (some ⟨bd,0,none⟩) (some ⟨bl,0,none⟩) D.length cd D.length cl W)
 have HL1:=hid (show (D.map (·.1)).length=D.length from List.length_map _)
 have HL2:=hid (show (D.map (·.2)).length=D.length from List.length_map _)
 rw [HL1.out,HL2.out] at HCK HWI HBE HLE
 rw [HL1.out] at HVD
 rw [HL2.out] at HVL
 rw [HL1.out,HL2.out]
 obtain ⟨wA,hwA⟩ : ∃ wA,wA=((((w.alloc (profO s (.slice (some ⟨bd,0,none⟩) D.length cd) (.slice (some ⟨bl,0,none⟩) D.length cl))).alloc (Obj.cells #[.string (tx p.1),.string (tx p.2)] 30)).alloc (Obj.cells #[.string ⟨#[]⟩,.string ⟨#[]⟩] 30)).alloc (Obj.cells #[.bool false] 4)).alloc (Obj.cells #[.int .i64 0] 35):=⟨_,rfl⟩
 have HWA:=hid hwA
 have hpz:Sz2 402 p:=⟨hp1.sz,hp2.sz⟩
 have HPZ:=hid hpz
 have HPL:=hid (fun w' (hg:Good w')=>kink_place (outU s D p k0) ho1 ho2 w' hg)
 unfold RV at HPL
 obtain ⟨q,hq⟩ : ∃ q,q=outU s D p k0:=⟨_,rfl⟩
 rw [←hq] at HPL ⊢
 have HQ:=hid hq
 unfold profV ptV profO at *
 have HP:=hid hP
 have HIT:=hid hit
 have HNO:=hid hno
 clear hwA hP hnd hI hit hno ho1 ho2 hp1 hp2 hq hpz
 refine callsIn_of_wp_marks Tryz.func43 rfl trivial ?_ rfl
 simp only [Tryz.ntmps43,List.size_toArray,List.length_cons,List.length_nil,Nat.reduceAdd,Nat.reduceSub,Array.replicate_succ,Array.replicate_zero,List.push_toArray,List.append_toArray,List.nil_append,List.cons_append]
 obtain ⟨hBA,hbA,hsA⟩:=unfB_new HWA.out
 have HBA:=hid hBA
 have hgA:=hw.below hbA
 clear hsA
 gi_wp2
 rw [←HWA.out]
 refine ⟨trivial,?_⟩
 refine (HCK.out wA hgA (HVD.out.below hbA) (HVL.out.below hbA)).mono ?_
 rintro e w1 ⟨rfl,hb1⟩
 have hbw1:=hbA.trans (hb1.mono hbA.size)
 have HB1:=hid (HBA.out.below hb1)
 obtain ⟨y0,y1,_,_⟩:=two_cells HB1.out.b1
 clear hBA HWA
 gi_wp2
 refine ⟨trivial,?_⟩
 refine (HCP.out w1 (hw.below hbw1)).mono ?_
 rintro e w2 ⟨rfl,hb2⟩
 have hbw2:=hbw1.trans (hb2.mono hbw1.size)
 have HB2:=hid (HB1.out.below hb2)
 clear y0 y1
 obtain ⟨e0,e1,e2,e3⟩:=prof_cells HB2.out.b0
 gi_wp2
 refine ⟨trivial,?_⟩
 refine (HDM.out w2).mono ?_
 rintro e w6 ⟨rfl,hw6⟩
 have hs6:w6.heap.size=w2.heap.size+1:=by rw [hw6];simp
 have hb6:Below w2.heap.size w2 w6:=by rw [hw6];exact alloc_below _ _
 have hx6:w6.heap[w2.heap.size]?=some (profO s (.slice (some ⟨bd,0,none⟩) D.length cd) (.slice (some ⟨bl,0,none⟩) D.length cl)):=by rw [hw6];exact World.alloc_heap_new _ _
 have hb06:=hbw2.trans (hb6.mono hbw2.size)
 have HX6:=hid hx6
 have HB6:=hid (HB2.out.below hb6)
 have hs06:=hbw2.size
 have hs46:=lt_of_some HB2.out.b4
 clear hw6 hx6 e0 e1 e2 e3
 gi_wp2
 refine wpIn_rangeFunc_dom (n:=9) 30 31 9 10 s D rfl (by decide) (gf:=110) (lb:=#[.pointer (some ⟨w2.heap.size,0,none⟩)]) rfl trivial (enters_of Tryz.func110 (by kernel_rfl) rfl)
  (domains_at 8 (by decide) w2.heap.size w hw s D HP.out _ _ HVD.out HVL.out w6 hb06 HX6.out)
  KeepP.trans (KeepP.put (by omega) (by omega)) (Below.refl _ _) (fun _=>rfl)
  (UnfInv w6 k0) (fun c _ W=>c=.ret∧UnfOut w.heap.size w q W) ?iown ?ixown
  ⟨Below.refl _ _,Nat.zero_le _⟩ ?assign ?body ?done ?stop
 case iown =>
  intro k X Y row ⟨h1,h2⟩ hg hr
  exact ⟨below_keptT h1 (Nat.le_refl _) (Nat.le_refl _) hg hr,h2⟩
 case ixown =>
  intro c k X Y row ⟨hc,f1,f2,f3,f4,f5⟩ hg hr
  refine ⟨hc,below_keptT f1 (by omega) (Nat.le_refl _) hg hr,Nat.le_trans f2 hg.size,?_,?_,?_⟩
  ·refine (hg.block _ (by omega) fun e=>?_).trans f3
   have:=(hr _ e.symm).1
   omega
  ·refine (hg.block _ (by omega) fun e=>?_).trans f4
   have:=(hr _ e.symm).1
   omega
  ·refine (hg.block _ (by omega) fun e=>?_).trans f5
   have:=(hr _ e.symm).1
   omega
 case assign =>
  intro l k hk W K hi hK
  have hsz:=hi.1.size
  simp only [domE,domV]
  gi_wp2
  exact hK _ _ (keepsFrom_below (alloc_below _ _)) (KeepP.of_below (alloc_below _ _) (by omega) (by omega)) ⟨hi.1.trans ((alloc_below _ _).mono hsz),hi.2⟩ ⟨W.heap.size,hsz,World.alloc_heap_new _ _,rfl⟩
 case body =>
  rintro l k hk a' W hl ⟨hlow,hkk⟩ ⟨Bx,hBx,hdx,rfl⟩
  simp only [List.setIfInBounds_toArray,List.set_cons_zero,List.set_cons_succ]
  have hbx:=lt_of_some hdx
  have hsW:=hlow.size
  have hb0W:=hb06.trans (hlow.mono (by omega))
  have hgW:Good W:=hw.below hb0W
  have hBW:=HB6.out.below hlow
  have HBW:=hid hBW
  have hk4:k≤4:=Nat.le_trans (Nat.le_of_lt hk) HP.out.n
  have hhz:=HP.out.huz HPZ.out hk4
  have hk3:k≤3:=by have:=HP.out.n;omega
  obtain ⟨x0,x1,x2,x3,x4,x5,x6⟩:=seven_cells (show W.heap[Bx]?=some (.cells #[.string (tx (dirQ (tK D k)).1),.string (tx (dirQ (tK D k)).2),.string (tx (nK D k).1),.string (tx (nK D k).2),.string (tx (atK s D k).1),.string (tx (atK s D k).2),.string (tx (lK D k))] 132 (0,0)) from hdx)
  obtain ⟨y0,y1,_,_⟩:=two_cells hBW.b1
  have ly:=lt_of_some hBW.b1
  have HDX:=hid hdx
  have hn0:Sz2 4925 (nK D k):=⟨(HP.out.dir k).2.neg,(HP.out.dir k).1.mono (by decide)⟩
  have HM1:=hid (fun w' (hg:Good w')=>kink_minus p (atK s D k) (HPZ.out.mono (by decide)) ((HP.out.at4 hk4).mono (by decide)) w' hg)
  have HD1:=hid (fun w' (hg:Good w')=>show Calls Tryz.prog 78 #[ptV (nK D k),ptV (minusQ p (atK s D k))] w' (RV (.string (tx (hU s D p k))) w') from
   kink_dot (nK D k) (minusQ p (atK s D k)) (hn0.mono (by decide)) ((sz_minus HPZ.out (HP.out.at4 hk4)).mono (by decide)) w' hg)
  have HM2:=hid (fun w' (hg:Good w')=>kink_minus p (bedQ s D (hU s D p k) k) (HPZ.out.mono (by decide)) ((HP.out.bedz hhz hk4).mono (by decide)) w' hg)
  have HD2:=hid (fun w' (hg:Good w')=>show Calls Tryz.prog 78 #[ptV (dirQ (tK D k)),ptV (minusQ p (bedQ s D (hU s D p k) k))] w' (RV (.string (tx (xU s D p k))) w') from
   kink_dot (dirQ (tK D k)) (minusQ p (bedQ s D (hU s D p k) k)) ((HP.out.dir k).mono (by decide)) ((sz_minus HPZ.out (HP.out.bedz hhz hk4)).mono (by decide)) w' hg)
  have hxz:=HP.out.xuz HPZ.out hk4
  have HSG:=hid (fun w'=>rational_Sign (tx (xU s D p k)) (xU s D p k) (isR_mk _) (Nat.le_trans hxz (by decide)) w')
  have HCM:=hid (fun w' (hg:Good w')=>k_cmp (xU s D p k) (lgQ D (hU s D p k) k) (hxz.mono (by decide)) ((HP.out.lgz hhz k).mono (by decide)) w' hg)
  have HSUM:=hid (fun w' v (hg:Good w') (hv:Txs w' v ((lgL D (hU s D p k)).take k))=>rat_Sum v ((lgL D (hU s D p k)).take k) (fun c hc=>by
   obtain ⟨i,hi,rfl⟩:=List.mem_iff_getElem.1 (List.mem_of_mem_take hc)
   rw [lgL_get hi]
   exact (HP.out.lgz hhz i).mono (by decide)) (fun i hi=>by
   rw [List.take_take]
   exact (sum_sz5 HP.out hhz (by omega)).mono (by decide)) w' hg hv)
  have HADD:=hid (fun w' (hg:Good w')=>show Calls Tryz.prog 52 #[.string (tx (sumR ((lgL D (hU s D p k)).take k))),.string (tx (xU s D p k))] w' (RV (.string (tx (outU s D p k).1)) w') from
   k_add _ _ ((sum_sz5 HP.out hhz hk3).mono (by decide)) (hxz.mono (by decide)) w' hg)
  have HWIk:=hid (HWI.out (hU s D p k) hhz)
  have HBEk:=hid (HBE.out (hU s D p k) hhz)
  have HLEk:=hid (HLE.out (hU s D p k) hhz)
  have HSL:=hid (sgnR_lt (xU s D p k))
  have HCG:=hid (cmpR_gt (xU s D p k) (lgQ D (hU s D p k) k))
  unfold RV ptV at HM1 HM2 HD1 HD2
  unfold RV at HCM HSUM HADD
  have HNEXT:=hid (fun W' (hJ:Below W.heap.size W W') (hk1:k+1≤k0)=>show KeepsFrom w6.heap.size W W'∧KeepP w.heap.size w2.heap.size W W'∧UnfInv w6 k0 (k+1) W' from
   ⟨keepsFrom_below hJ,KeepP.of_below hJ (by omega) (by omega),hlow.trans (hJ.mono hsW),hk1⟩)
  have HEQ:=hid (fun (h:¬ hitU s D p k)=>show k+1≤k0 by
   rcases Nat.lt_or_ge k k0 with h1 | h1
   ·omega
   ·obtain rfl:k=k0:=by omega
    exact absurd HIT.out h)
  have HEQ2:=hid (fun (h:hitU s D p k)=>show k=k0 by
   rcases Nat.lt_or_ge k k0 with h1 | h1
   ·exact absurd h (HNO.out k h1)
   ·omega)
  have i1:(0:Int)≤(k:Int):=by omega
  have i2:(k:Int)<(D.length:Int):=by omega
  have i3:(k:Int)<(D.length:Int)+1:=by omega
  clear hhz hxz hn0 hdx hBW
  gi_wp2
  refine wpIn_held_list lifts_round (fun W'=>Below W.heap.size W W') [0,1,2,3,4] [5,6] 7 (by kernel_rfl) (by kernel_rfl) (by kernel_rfl) ⟨rfl,rfl,rfl,Nat.le_refl _,fun _ _=>rfl⟩ ?_
  iterate 5
   refine wpTakeL_step rfl ?_ rfl ?_ ?_
   rotate_left
   ·intro W' hS'
    have s0:=(hS'.cell (p:=⟨w.heap.size+1,0,none⟩) ly).trans y0
    have s1:=(hS'.cell (p:=⟨w.heap.size+1,1,none⟩) ly).trans y1
    have s2:=(hS'.cell (p:=⟨Bx,2,none⟩) hbx).trans x2
    have s3:=(hS'.cell (p:=⟨Bx,3,none⟩) hbx).trans x3
    have s4:=(hS'.cell (p:=⟨Bx,4,none⟩) hbx).trans x4
    have s5:=(hS'.cell (p:=⟨Bx,5,none⟩) hbx).trans x5
    go_simp
    try with_reducible rfl
   try simp only [zA,zB,zC,Act.put,zD,zE,zF]
  have hH0:Below W.heap.size W W.drew:=⟨rfl,rfl,rfl,Nat.le_refl _,fun _ _=>rfl⟩
  refine wpKeepL_step rfl rfl (fun K hK=>?_)
  go_simp
  refine (HM1.out _ (hgW.below hH0)).mono ?_
  rintro e v1 ⟨rfl,hv1⟩
  have hH1:=hH0.trans (hv1.mono hH0.size)
  refine hK _ _ ⟨hH1,?_⟩
  clear hK K
  try simp only [zA,zB,zC,Act.put,zD,zE,zF]
  refine wpKeepL_step rfl rfl (fun K hK=>?_)
  go_simp
  refine (HD1.out _ (hgW.below hH1)).mono ?_
  rintro e v2 ⟨rfl,hv2⟩
  have hH2:=hH1.trans (hv2.mono hH1.size)
  refine hK _ _ ⟨hH2,?_⟩
  clear hK K
  try simp only [zA,zB,zC,Act.put,zD,zE,zF]
  unfold wpKeepL
  simp only [List.drop_succ_cons,List.drop_zero]
  have HBV:=hid (HBW.out.below hH2)
  have hbv:=hb0W.trans (hH2.mono hb0W.size)
  obtain ⟨e0,e1,e2,e3⟩:=prof_cells HBV.out.b0
  gi_wp2
  refine ⟨trivial,?_⟩
  refine (CallsIn.inRound l (callsIn_wide.2 (HWIk.out v2 (hw.below hbv) (HVD.out.below hbv) (HVL.out.below hbv)))).mono ?_
  rintro e v3 ⟨rfl,hv3⟩
  have hH3:=hH2.trans (hv3.mono hH2.size)
  clear e0 e1 e2 e3 hv1 hv2 hH0 hH1
  by_cases hwi:withinB D (hU s D p k)=true
  ·rw [hwi]
   have HWT:=hid hwi
   clear hwi
   have hH3s:=hH3.size
   have HBV3:=hid (HBW.out.below hH3)
   have hbv3:=hb0W.trans (hH3.mono hb0W.size)
   obtain ⟨e0,e1,e2,e3⟩:=prof_cells (HBW.out.b0)
   have lp:=lt_of_some HBW.out.b0
   gi_wp2
   refine wpIn_held_list lifts_round (fun W'=>Below W.heap.size W W') [0,1,2,3,4,6] [5,7,8,9,10] 11 (by kernel_rfl) (by kernel_rfl) (by kernel_rfl) (hH3.trans ⟨rfl,rfl,rfl,Nat.le_refl _,fun _ _=>rfl⟩) ?_
   iterate 6
    refine wpTakeL_step rfl ?_ rfl ?_ ?_
    rotate_left
    ·intro W' hS'
     have s0:=(hS'.cell (p:=⟨w.heap.size+1,0,none⟩) ly).trans y0
     have s1:=(hS'.cell (p:=⟨w.heap.size+1,1,none⟩) ly).trans y1
     have s2:=(hS'.cell (p:=⟨Bx,0,none⟩) hbx).trans x0
     have s3:=(hS'.cell (p:=⟨Bx,1,none⟩) hbx).trans x1
     have s4:=(hS'.cell (p:=⟨w.heap.size,0,none⟩) lp).trans e0
     have s5:=(hS'.cell (p:=⟨w.heap.size,1,none⟩) lp).trans e1
     have s6:=(hS'.cell (p:=⟨w.heap.size,2,none⟩) lp).trans e2
     have s7:=(hS'.cell (p:=⟨w.heap.size,3,none⟩) lp).trans e3
     go_simp
     try with_reducible rfl
    try simp only [zA,zB,zC,Act.put,zD,zE,zF]
   have hJ0:Below W.heap.size W v3.drew:=hH3.trans ⟨rfl,rfl,rfl,Nat.le_refl _,fun _ _=>rfl⟩
   have hbj0:=hb0W.trans (hJ0.mono hb0W.size)
   refine wpKeepL_step rfl rfl (fun K hK=>?_)
   go_simp
   refine (HBEk.out _ (hw.below hbj0) (HVD.out.below hbj0) (HVL.out.below hbj0)).mono ?_
   rintro e v4 ⟨vb,rfl,hvb,-,hv4⟩
   obtain ⟨bb,cb,rfl,hbbn,hbbm,hbbl,hbbc⟩:=hvb
   have hJ1:=hJ0.trans (hv4.mono hJ0.size)
   obtain ⟨p0,p1⟩:=hbbc k (by omega)
   refine hK _ _ ⟨hJ1,?_⟩
   clear hK K
   try simp only [zA,zB,zC,Act.put,zD,zE,zF]
   refine wpKeepL_step rfl rfl (fun K hK=>?_)
   go_simp
   refine hK _ _ ⟨hJ1,?_⟩
   clear hK K
   try simp only [zA,zB,zC,Act.put,zD,zE,zF]
   refine wpKeepL_step rfl rfl (fun K hK=>?_)
   go_simp
   refine hK _ _ ⟨hJ1,?_⟩
   clear hK K
   try simp only [zA,zB,zC,Act.put,zD,zE,zF]
   refine wpKeepL_step rfl rfl (fun K hK=>?_)
   go_simp
   refine (HM2.out _ (hgW.below hJ1)).mono ?_
   rintro e v5 ⟨rfl,hv5⟩
   have hJ2:=hJ1.trans (hv5.mono hJ1.size)
   refine hK _ _ ⟨hJ2,?_⟩
   clear hK K
   try simp only [zA,zB,zC,Act.put,zD,zE,zF]
   refine wpKeepL_step rfl rfl (fun K hK=>?_)
   go_simp
   refine (HD2.out _ (hgW.below hJ2)).mono ?_
   rintro e v6 ⟨rfl,hv6⟩
   have hJ3:=hJ2.trans (hv6.mono hJ2.size)
   refine hK _ _ ⟨hJ3,?_⟩
   clear hK K
   try simp only [zA,zB,zC,Act.put,zD,zE,zF]
   unfold wpKeepL
   simp only [List.drop_succ_cons,List.drop_zero]
   have HBV6:=hid (HBW.out.below hJ3)
   have hbv6:=hb0W.trans (hJ3.mono hb0W.size)
   clear e0 e1 e2 e3 hbbc p0 p1
   obtain ⟨e0,e1,e2,e3⟩:=prof_cells HBV6.out.b0
   gi_wp2
   refine ⟨trivial,?_⟩
   refine (CallsIn.inRound l (callsIn_wide.2 (HLEk.out v6 (hw.below hbv6) (HVD.out.below hbv6) (HVL.out.below hbv6)))).mono ?_
   rintro e v7 ⟨vg,rfl,hvg,-,hv7⟩
   have hJ4:=hJ3.trans (hv7.mono hJ3.size)
   obtain ⟨bg,cg,hvg',hgc,hgm,hbg,hgcell⟩:=hvg
   have HL3:=hid (show (lgL D (hU s D p k)).length=D.length by unfold lgL;simp)
   rw [HL3.out] at hvg' hgc
   subst hvg'
   have HGC:=hid hgcell
   have HG0:=hid ((hgcell k (by rw [HL3.out];exact hk)).trans (by rw [lgL_get]))
   clear hgcell e0 e1 e2 e3 x0 x1 x2 x3 x4 x5 x6 y0 y1
   generalize sgnR (xU s D p k)=sg at *
   generalize cmpR (xU s D p k) (lgQ D (hU s D p k) k)=cm at *
   gi_wp2
   refine ⟨trivial,?_⟩
   refine (CallsIn.inRound l (callsIn_wide.2 (HSG.out v7))).mono ?_
   rintro e v8 ⟨rfl,rfl⟩
   by_cases hx0:xU s D p k<0
   ·have hd:decide (sg<0)=true:=by rw [HSL.out];exact decide_eq_true hx0
    have HN:=hid (HEQ.out fun h=>h.2.1 hx0)
    clear hx0
    gi_wp2
    refine ⟨trivial,?_⟩
    gi_wp2
    exact HNEXT.out _ hJ4 HN.out
   ·have hd:decide (sg<0)=false:=by rw [HSL.out];exact decide_eq_false hx0
    have HX0:=hid hx0
    have g0:=HG0.out
    clear hx0
    gi_wp2
    refine ⟨trivial,?_⟩
    refine (CallsIn.inRound l (callsIn_wide.2 (HCM.out v7 (hgW.below hJ4)))).mono ?_
    rintro e v8 ⟨rfl,hv8⟩
    have hJ5:=hJ4.trans (hv8.mono hJ4.size)
    clear g0
    by_cases hle:lgQ D (hU s D p k) k<xU s D p k
    ·have hd2:decide (0<cm)=true:=by rw [HCG.out];exact decide_eq_true hle
     have HN:=hid (HEQ.out fun h=>Rat.not_lt.2 h.2.2 hle)
     clear hle
     gi_wp2
     exact HNEXT.out _ hJ5 HN.out
    ·have hd2:decide (0<cm)=false:=by rw [HCG.out];exact decide_eq_false hle
     have HKK:=hid (HEQ2.out ⟨HWT.out,HX0.out,Rat.not_lt.1 hle⟩)
     have HTX:=hid (show Txs v8 (.slice (some ⟨bg,0,none⟩) k cg) ((lgL D (hU s D p k)).take k) from
      ⟨bg,cg,by rw [List.length_take,HL3.out,Nat.min_eq_left (Nat.le_of_lt hk)],by rw [List.length_take,HL3.out];omega,hgm,Nat.lt_of_lt_of_le hbg hv8.size,fun i hi=>by
       rw [List.length_take,HL3.out] at hi
       refine (hv8.cell (p:=⟨bg,i,none⟩) hbg).trans ((HGC.out i (by rw [HL3.out];omega)).trans (by rw [List.getElem_take]))⟩)
     have HOUT:=hid (show (outU s D p k).1=q.1∧hU s D p k=q.2 by rw [HQ.out,←HKK.out];exact ⟨rfl,rfl⟩)
     have i4:(k:Int)≤(D.length:Int):=by omega
     have i5:(k:Int)≤(cg:Int):=by omega
     have i6:k≤cg:=by omega
     clear hle
     gi_wp2
     refine ⟨trivial,?_⟩
     refine (CallsIn.inRound l (callsIn_wide.2 (HSUM.out v8 _ (hgW.below hJ5) HTX.out))).mono ?_
     rintro e v9 ⟨rfl,hv9⟩
     have hJ6:=hJ5.trans (hv9.mono hJ5.size)
     gi_wp2
     refine ⟨trivial,?_⟩
     refine (CallsIn.inRound l (callsIn_wide.2 (HADD.out v9 (hgW.below hJ6)))).mono ?_
     rintro e v10 ⟨rfl,hv10⟩
     have hJ7:=hJ6.trans (hv10.mono hJ6.size)
     rw [HOUT.out.1,HOUT.out.2]
     gi_wp2
     refine ⟨trivial,?_⟩
     refine (CallsIn.inRound l (callsIn_wide.2 (HPL.out v10 (hgW.below hJ7)))).mono ?_
     rintro e v11 ⟨rfl,hv11⟩
     have hJ8:=hJ7.trans (hv11.mono hJ7.size)
     have hZ:=alloc_below v11 (Obj.cells #[.string (tx q.1),.string (tx q.2)] 30)
     have HBZ:=hid ((HBW.out.below hJ8).below hZ)
     have hJ9:=hJ8.trans (hZ.mono hJ8.size)
     obtain ⟨z0,z1,_,_⟩:=two_cells HBZ.out.b2
     obtain ⟨c0,_⟩:=one_cell HBZ.out.b3
     obtain ⟨d0,_⟩:=one_cell HBZ.out.b4
     clear hZ
     gi_wp2
     obtain ⟨r2,r3,r4,hbR,hko⟩:=put_res3 (a:=.string (tx q.1)) (b:=.string (tx q.2)) (c:=.bool true) (d:=.int .i64 0) HBZ.out.b2 HBZ.out.b3 HBZ.out.b4 rfl
     have hJs:=hJ9.size
     refine ⟨(KeepsOthers.trans ⟨hJ9.size,fun j o h _=>(hJ9.block j (lt_of_some h)).trans h⟩ hko).from _,rfl,?_,?_,r2,r3,r4⟩
     ·exact (hb0W.trans (hJ9.mono hb0W.size)).trans hbR
     ·have:=hbR.size
      omega
  ·have hwf:withinB D (hU s D p k)=false:=by
    rcases h:withinB D (hU s D p k) with _ | _
    ·rfl
    ·exact absurd h hwi
   rw [hwf]
   have HN:=hid (HEQ.out fun h=>hwi h.1)
   clear hwi hwf
   gi_wp2
   exact HNEXT.out _ hH3 HN.out
 case done =>
  rintro Dk W hD ⟨_,h2⟩ hK
  omega
 case stop =>
  rintro Dk c k W hD hk ⟨rfl,f1,f2,f3,f4,f5⟩ hK
  have hput:∀ (o:Obj) (j:Nat),j<w6.heap.size→(W.putObj Dk o).heap[j]?=W.heap[j]?:=fun o j hj=>by
   simp only [World.putObj]
   rw [Array.getElem?_setIfInBounds,if_neg (by omega)]
  obtain ⟨q20,q21,_,_⟩:=two_cells ((hput (.deferred none) _ (by omega)).trans f3)
  obtain ⟨q30,_⟩:=one_cell ((hput (.deferred none) _ (by omega)).trans f4)
  obtain ⟨q40,_⟩:=one_cell ((hput (.deferred none) _ (by omega)).trans f5)
  gi_wp2
  refine ⟨by simp,.inl ⟨_,_,rfl,run_takeDeferred hK,?_⟩⟩
  refine ⟨.tuple #[.agg #[.string (tx q.1),.string (tx q.2)],.bool true,.int .i64 0],by simp [results,Tryz.results43,go_sem,q20,q21,q30,q40],?_⟩
  exact ⟨rfl,f1.trans (putObj_below _ _ _ (by omega))⟩
end Go.Proofs.YtogdahbbogimcaaGreatDoor
