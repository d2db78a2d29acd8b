import Derived.Test.YtbogpbjddaoeiaaGreatDoorMergeQZ
import Derived.Test.YtbogpbjddaoeiaaGreatDoorAbove2Z
namespace Go.Proofs.YtbogpbjddaoeiaaGreatDoor
open Go.RowKit
open Go.Lib (decDigits itoa nDigits)
theorem cellsB_congr {s t : Nat → Bool} (h : ∀ j, j < 600 → s j = t j) : cellsB s = cellsB t := by
  apply Array.ext_getElem?
  intro j
  by_cases hl : j < 600
  · rw [cellsB_get _ hl, cellsB_get _ hl, h j hl]
  · rw [Array.getElem?_eq_none (by rw [cellsB_size]; omega), Array.getElem?_eq_none (by rw [cellsB_size]; omega)]
theorem cellsB_setv (s : Nat → Bool) {N : Nat} (h : N < 600) (b : Bool) : (cellsB s).setIfInBounds N (.bool b) = cellsB (fun j => if j = N then b else s j) := by
  apply Array.ext_getElem?
  intro j
  rw [Array.getElem?_setIfInBounds]
  by_cases hj : N = j
  · subst hj
    rw [if_pos rfl, cellsB_size, if_pos h, cellsB_get _ h, if_pos rfl]
  · rw [if_neg hj]
    by_cases hl : j < 600
    · rw [cellsB_get _ hl, cellsB_get _ hl, if_neg (fun e => hj e.symm)]
    · rw [Array.getElem?_eq_none (by rw [cellsB_size]; omega), Array.getElem?_eq_none (by rw [cellsB_size]; omega)]
/-- the first k cells of a set -/
def partS (f : Nat → Bool) (k j : Nat) : Bool := decide (j < k) && f j
theorem partS_zero (f : Nat → Bool) : cellsB (partS f 0) = cellsB (setOf []) := cellsB_congr fun j _ => by unfold partS; rw [decide_eq_false (by omega), Bool.false_and, setOf_nil]
theorem partS_done (f : Nat → Bool) : cellsB (partS f 600) = cellsB f := cellsB_congr fun j hj => by unfold partS; rw [decide_eq_true hj, Bool.true_and]
theorem partS_step (f : Nat → Bool) {k : Nat} (hk : k < 600) : (cellsB (partS f k)).setIfInBounds k (.bool (f k)) = cellsB (partS f (k + 1)) := by
  rw [cellsB_setv _ hk]
  refine cellsB_congr fun j _ => ?_
  unfold partS
  by_cases h : j = k
  · subst h
    rw [if_pos rfl, decide_eq_true (by omega), Bool.true_and]
  · rw [if_neg h, decide_eq_decide.2 (show j < k ↔ j < k + 1 by omega)]
/-- no cell below n -/
def noneB (f : Nat → Bool) : Nat → Bool
  | 0 => true
  | k + 1 => noneB f k && !f k
theorem noneB_iff (f : Nat → Bool) : ∀ n, noneB f n = true ↔ ∀ j, j < n → f j = false
  | 0 => ⟨fun _ j hj => (by omega), fun _ => rfl⟩
  | n + 1 => by
    show (noneB f n && !f n) = true ↔ _
    rw [Bool.and_eq_true, noneB_iff f n, Bool.not_eq_true']
    constructor
    · rintro ⟨h1, h2⟩ j hj
      by_cases h : j = n
      · rw [h]; exact h2
      · exact h1 j (by omega)
    · intro h
      exact ⟨fun j hj => h j (by omega), h n (by omega)⟩
theorem isSet_none {f : Nat → Bool} {C : List ZP} (h : IsSet f C) : decide (C.length = 0) = noneB f 600 := by
  rw [Bool.eq_iff_iff, decide_eq_true_eq, noneB_iff]
  constructor
  · intro h0 j hj
    have hC := List.eq_nil_of_length_eq_zero h0
    subst hC
    cases hf : f j
    · rfl
    · exact (cov_nil _ ((h.2 ((j : Int) - 300)).2 ⟨j, rfl, hf, hj⟩)).elim
  · intro hn
    cases C with
    | nil => rfl
    | cons p r =>
      obtain ⟨j, _, h1, h2⟩ := (h.2 p.1).1 ⟨p, List.mem_cons_self .., Int.le_refl _, h.1.head⟩
      rw [hn j h2] at h1
      cases h1
theorem row_set {W : World} {B : Nat} {C : Array Value} {t : TypeId} (i : Nat) (v : Value) (h : W.heap[B]? = some (.cells C t (0, 0))) : (W.setCell ⟨B, i, none⟩ v).heap[B]? = some (.cells (C.setIfInBounds i v) t (0, 0)) := by
  obtain ⟨hlt, hk⟩ := Array.getElem?_eq_some_iff.1 h
  show (W.heap.modify B _)[B]? = _
  rw [Array.getElem?_eq_getElem (by rw [Array.size_modify]; exact hlt), Array.getElem_modify_self, hk]
  rfl
abbrev rowB (W : World) (B : Nat) (s : Nat → Bool) : Prop := W.heap[B]? = some (Obj.cells (cellsB s) 79 (0, 0))
theorem rowB_cell {W : World} {B : Nat} {s : Nat → Bool} (h : rowB W B s) {k : Nat} (hk : k < 600) : W.cell? ⟨B, k, none⟩ = some (.bool (s k)) ∧ W.frozen? ⟨B, k, none⟩ = false := by
  have h' : W.heap[B]? = some (Obj.cells (cellsB s) 79 (0, 0)) := h
  exact ⟨by simp [World.cell?, h', cellsB_get s hk], by simp [World.frozen?, h']⟩
/-- the law's five rows of cells -/
structure Row5 (w : World) (B0 B1 B2 B3 B4 : Nat) (x y f g h : Nat → Bool) (W : World) : Prop where
  low : Below w.heap.size w W
  r0 : rowB W B0 x
  r1 : rowB W B1 y
  r2 : rowB W B2 f
  r3 : rowB W B3 g
  r4 : rowB W B4 h
theorem setCell_ne {W : World} {B k i : Nat} (v : Value) (h : k ≠ B) : (W.setCell ⟨B, i, none⟩ v).heap[k]? = W.heap[k]? := Below.heap_setCell _ _ _ k h
theorem Row5.step {w : World} {B0 B1 B2 B3 B4 : Nat} {x y f g h : Nat → Bool} {k : Nat} {W : World} (hr : Row5 w B0 B1 B2 B3 B4 x y (partS f k) (partS g k) (partS h k) W) (hk : k < 600)
    (h2 : w.heap.size ≤ B2) (h3 : w.heap.size ≤ B3) (h4 : w.heap.size ≤ B4) (n02 : B0 ≠ B2) (n03 : B0 ≠ B3) (n04 : B0 ≠ B4) (n12 : B1 ≠ B2) (n13 : B1 ≠ B3) (n14 : B1 ≠ B4) (n23 : B2 ≠ B3) (n24 : B2 ≠ B4) (n34 : B3 ≠ B4)
    (a b c : Bool) (ha : a = f k) (hb : b = g k) (hc : c = h k) :
    Row5 w B0 B1 B2 B3 B4 x y (partS f (k + 1)) (partS g (k + 1)) (partS h (k + 1)) (((W.setCell ⟨B2, k, none⟩ (.bool a)).setCell ⟨B3, k, none⟩ (.bool b)).setCell ⟨B4, k, none⟩ (.bool c)) := by
  subst ha hb hc
  obtain ⟨l, r0, r1, r2, r3, r4⟩ := hr
  refine ⟨((l.setCell (p := ⟨B2, k, none⟩) h2 _).setCell (p := ⟨B3, k, none⟩) h3 _).setCell (p := ⟨B4, k, none⟩) h4 _, ?_, ?_, ?_, ?_, ?_⟩
  · rw [rowB, setCell_ne _ n04, setCell_ne _ n03, setCell_ne _ n02]; exact r0
  · rw [rowB, setCell_ne _ n14, setCell_ne _ n13, setCell_ne _ n12]; exact r1
  · rw [rowB, setCell_ne _ n24, setCell_ne _ n23, row_set k _ r2, partS_step f hk]
  · rw [rowB, setCell_ne _ n34, row_set k _ ((setCell_ne _ (Ne.symm n23)).trans r3), partS_step g hk]
  · rw [rowB, row_set k _ ((setCell_ne _ (Ne.symm n34)).trans ((setCell_ne _ (Ne.symm n24)).trans r4)), partS_step h hk]
theorem five_rows {w W : World} {x y : Nat → Bool} (f g h : Nat → Bool)
    (hW : W = (((((((w.alloc (Obj.cells (cellsB (setOf [])) 79)).alloc (Obj.cells (cellsB (setOf [])) 79)).setRow w.heap.size (cellsB x)).setRow (w.heap.size + 1) (cellsB y)).alloc (Obj.cells (cellsB (setOf [])) 79)).alloc (Obj.cells (cellsB (setOf [])) 79)).alloc (Obj.cells (cellsB (setOf [])) 79))) :
    Row5 w w.heap.size (w.heap.size + 1) (w.heap.size + 1 + 1) (w.heap.size + 1 + 1 + 1) (w.heap.size + 1 + 1 + 1 + 1) x y (partS f 0) (partS g 0) (partS h 0) W := by
  obtain ⟨O, hO⟩ : ∃ O, O = Obj.cells (cellsB (setOf [])) 79 := ⟨_, rfl⟩
  rw [← hO] at hW
  obtain ⟨w1, hw1⟩ : ∃ w1, w1 = w.alloc O := ⟨_, rfl⟩
  obtain ⟨w2, hw2⟩ : ∃ w2, w2 = w1.alloc O := ⟨_, rfl⟩
  obtain ⟨w3, hw3⟩ : ∃ w3, w3 = w2.setRow w.heap.size (cellsB x) := ⟨_, rfl⟩
  obtain ⟨w4, hw4⟩ : ∃ w4, w4 = w3.setRow (w.heap.size + 1) (cellsB y) := ⟨_, rfl⟩
  obtain ⟨w5, hw5⟩ : ∃ w5, w5 = w4.alloc O := ⟨_, rfl⟩
  obtain ⟨w6, hw6⟩ : ∃ w6, w6 = w5.alloc O := ⟨_, rfl⟩
  rw [← hw1, ← hw2, ← hw3, ← hw4, ← hw5, ← hw6] at hW
  have s1 : w1.heap.size = w.heap.size + 1 := by rw [hw1]; simp
  have s2 : w2.heap.size = w.heap.size + 1 + 1 := by rw [hw2]; simp [s1]
  have s3 : w3.heap.size = w.heap.size + 1 + 1 := by rw [hw3, setRow_size, s2]
  have s4 : w4.heap.size = w.heap.size + 1 + 1 := by rw [hw4, setRow_size, s3]
  have s5 : w5.heap.size = w.heap.size + 1 + 1 + 1 := by rw [hw5]; simp [s4]
  have s6 : w6.heap.size = w.heap.size + 1 + 1 + 1 + 1 := by rw [hw6]; simp [s5]
  have b1 : Below w.heap.size w w1 := by rw [hw1]; exact alloc_below _ _
  have b2 : Below w1.heap.size w1 w2 := by rw [hw2]; exact alloc_below _ _
  have b3 : Below w.heap.size w w3 := by rw [hw3]; exact below_setRow (b1.trans (b2.mono b1.size)) (Nat.le_refl _) _
  have b4 : Below w.heap.size w w4 := by rw [hw4]; exact below_setRow b3 (by omega) _
  have b5 : Below w4.heap.size w4 w5 := by rw [hw5]; exact alloc_below _ _
  have b6 : Below w5.heap.size w5 w6 := by rw [hw6]; exact alloc_below _ _
  have b7 : Below w6.heap.size w6 W := by rw [hW]; exact alloc_below _ _
  have p0 : w1.heap[w.heap.size]? = some O := by rw [hw1, hO]; exact World.alloc_heap_new _ _
  have p0' : w2.heap[w.heap.size]? = some O := (b2.block _ (by omega)).trans p0
  have p1 : w2.heap[w.heap.size + 1]? = some O := by rw [hw2, ← s1, hO]; exact World.alloc_heap_new _ _
  have q0 : w3.heap[w.heap.size]? = some (.cells (cellsB x) 79 (0, 0)) := by rw [hw3]; exact setRow_heap _ _ _ _ _ _ (p0'.trans (by rw [hO]))
  have q1 : w3.heap[w.heap.size + 1]? = some O := by rw [hw3, setRow_other _ _ _ _ (by omega)]; exact p1
  have q0' : w4.heap[w.heap.size]? = some (.cells (cellsB x) 79 (0, 0)) := by rw [hw4, setRow_other _ _ _ _ (by omega)]; exact q0
  have q1' : w4.heap[w.heap.size + 1]? = some (.cells (cellsB y) 79 (0, 0)) := by rw [hw4]; exact setRow_heap _ _ _ _ _ _ (q1.trans (by rw [hO]))
  have q2 : w5.heap[w.heap.size + 1 + 1]? = some O := by rw [hw5, ← s4, hO]; exact World.alloc_heap_new _ _
  have q3 : w6.heap[w.heap.size + 1 + 1 + 1]? = some O := by rw [hw6, ← s5, hO]; exact World.alloc_heap_new _ _
  have q4 : W.heap[w.heap.size + 1 + 1 + 1 + 1]? = some O := by rw [hW, ← s6, hO]; exact World.alloc_heap_new _ _
  have b57 : Below w5.heap.size w5 W := b6.trans (b7.mono (by omega))
  have b47 : Below w4.heap.size w4 W := b5.trans (b57.mono (by omega))
  refine ⟨b4.trans (b47.mono (by omega)), (b47.block _ (by omega)).trans q0', (b47.block _ (by omega)).trans q1', ?_, ?_, ?_⟩
  · rw [rowB, partS_zero, b57.block _ (by omega), q2, hO]
  · rw [rowB, partS_zero, b7.block _ (by omega), q3, hO]
  · rw [rowB, partS_zero, q4, hO]
theorem Row5.below {w : World} {B0 B1 B2 B3 B4 : Nat} {x y f g h : Nat → Bool} {W W' : World} (hr : Row5 w B0 B1 B2 B3 B4 x y f g h W) (hb : Below W.heap.size W W') : Row5 w B0 B1 B2 B3 B4 x y f g h W' :=
  ⟨hr.low.trans (hb.mono hr.low.size), (hb.block _ (lt_of_some hr.r0)).trans hr.r0, (hb.block _ (lt_of_some hr.r1)).trans hr.r1, (hb.block _ (lt_of_some hr.r2)).trans hr.r2, (hb.block _ (lt_of_some hr.r3)).trans hr.r3, (hb.block _ (lt_of_some hr.r4)).trans hr.r4⟩
end Go.Proofs.YtbogpbjddaoeiaaGreatDoor
