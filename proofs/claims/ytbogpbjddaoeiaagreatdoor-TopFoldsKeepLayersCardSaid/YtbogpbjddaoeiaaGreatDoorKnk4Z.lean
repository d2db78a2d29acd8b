import Derived.Test.YtbogpbjddaoeiaaGreatDoorKnk3Z
namespace Go.Proofs.YtbogpbjddaoeiaaGreatDoor
open Go.RowKit Go.Shelf
open Go.Lib (decDigits itoa nDigits)
attribute [local go_sem] Oper.semAt_some
/-- the normal of a domain -/
def nK (D : List (Rat × Rat)) (k : Nat) : QP := upQ (dirQ (tK D k))
/-- how an end moves with the height -/
def axK (D : List (Rat × Rat)) (k : Nat) : QP :=
  if k = 0 then nK D 0 else if k < D.length then plusQ (0, 0) (plusQ (nK D (k - 1)) (nK D k) 1) (1 * (1 + dotQ (nK D (k - 1)) (nK D k))⁻¹) else nK D (k - 1)
def axC (s : QP) (D : List (Rat × Rat)) (k : Nat) : List Value := [.string (tx (atK s D k).1), .string (tx (atK s D k).2), .string (tx (axK D k).1), .string (tx (axK D k).2)]
def axCs (s : QP) (D : List (Rat × Rat)) : Nat → List Value
  | 0 => []
  | k + 1 => axCs s D k ++ axC s D k
theorem axCs_len (s : QP) (D : List (Rat × Rat)) : ∀ k, (axCs s D k).length = k * 4
  | 0 => rfl
  | k + 1 => by rw [axCs, List.length_append, axCs_len s D k]; show k * 4 + 4 = _; omega
theorem axCs_get (s : QP) (D : List (Rat × Rat)) : ∀ (k i : Nat), i < k → ∀ j (u : Value), (axC s D i)[j]? = some u → (axCs s D k)[i * 4 + j]? = some u
  | 0, i, h, _, _, _ => by omega
  | k + 1, i, h, j, u, hu => by
    have hj : j < 4 := by
      rcases Nat.lt_or_ge j 4 with h | h
      · exact h
      · rw [List.getElem?_eq_none (by show 4 ≤ j; exact h)] at hu; cases hu
    rw [axCs]
    rcases Nat.lt_or_ge i k with h1 | h1
    · rw [List.getElem?_append_left (by rw [axCs_len]; omega)]
      exact axCs_get s D k i h1 j u hu
    · obtain rfl : i = k := by omega
      rw [List.getElem?_append_right (by rw [axCs_len]; omega), axCs_len, show i * 4 + j - i * 4 = j by omega]
      exact hu
def domC (s : QP) (D : List (Rat × Rat)) (k : Nat) : Array Value :=
  #[.string (tx (dirQ (tK D k)).1), .string (tx (dirQ (tK D k)).2), .string (tx (nK D k).1), .string (tx (nK D k).2), .string (tx (atK s D k).1), .string (tx (atK s D k).2), .string (tx (lK D k))]
def domZ : Array Value := #[.string ⟨#[]⟩, .string ⟨#[]⟩, .string ⟨#[]⟩, .string ⟨#[]⟩, .string ⟨#[]⟩, .string ⟨#[]⟩, .string ⟨#[]⟩]
def lastC (s : QP) (D : List (Rat × Rat)) : Nat → Array Value
  | 0 => domZ
  | k + 1 => domC s D k
/-- a slice of the lines -/
def Axes (w : World) (v : Value) (s : QP) (D : List (Rat × Rat)) : Prop :=
  ∃ b c, v = .slice (some ⟨b, 0, none⟩) (D.length + 1) c ∧ D.length + 1 ≤ c ∧ c ≤ maxLen ∧ b < w.heap.size ∧ ∀ i, i ≤ D.length → ∀ j (u : Value), (axC s D i)[j]? = some u → w.cell? ⟨b, i * 4 + j, none⟩ = some u
def EndsPost (s : QP) (D : List (Rat × Rat)) (w : World) (e : Ending) (w' : World) : Prop := ∃ v, e = .returned v ∧ Axes w' v s D ∧ Below w.heap.size w w'
theorem slAxis : SliceOf 199 206 (.agg #[.string ⟨#[]⟩, .string ⟨#[]⟩, .string ⟨#[]⟩, .string ⟨#[]⟩]) 4 64 := ⟨Tryz.underlying199, by kernel_rfl, rfl, by decide⟩
/-- what is known between two rounds -/
structure EndsInv (w4 : World) (B3 B4 Bp s1 : Nat) (s : QP) (D : List (Rat × Rat)) (k : Nat) (W : World) : Prop where
  low : Below B3 w4 W
  prof : W.heap[Bp]? = w4.heap[Bp]?
  out : ∃ v : Value, Boxed W B3 199 v ∧ W.ownsRow s1 206 4 v k (axCs s D k)
  last : W.heap[B4]? = some (.cells (lastC s D k) 161 (0, 0))
  sz : s1 ≤ W.heap.size
section
variable {T : TypeId} {B : Nat} {W W' : World} {row : Option Nat}
theorem cells_keptT (hg : W.grownBy W' row) (hr : ∀ r, row = some r → B ≤ r ∧ ∃ o : Obj, W.heap[r]? = some o ∧ (o.isCells = false ∨ ∃ c fz, o = .cells c T fz)) {k : Nat} {c : Array Value} {e : TypeId} {fz : Nat × Nat} (hk : W.heap[k]? = some (.cells c e fz)) (he : e ≠ T) : W'.heap[k]? = some (.cells c e fz) := by
  rw [hg.block k (lt_of_some hk) ?_]
  · exact hk
  · intro e'
    obtain ⟨_, o, ho, hc⟩ := hr k e'.symm
    rw [hk] at ho
    cases ho
    rcases hc with hc | ⟨c', fz', hc⟩
    · simp [Obj.isCells] at hc
    · cases hc; exact he rfl
theorem ownsRow_keptT (hg : W.grownBy W' row) (hr : ∀ r, row = some r → B ≤ r ∧ ∃ o : Obj, W.heap[r]? = some o ∧ (o.isCells = false ∨ ∃ c fz, o = .cells c T fz)) {base : Nat} {e : TypeId} {size n : Nat} {v : Value} {xs : List Value} (h : W.ownsRow base e size v n xs) (he : e ≠ T) : W'.ownsRow base e size v n xs := by
  refine ⟨h.1, ?_⟩
  rcases h.2 with h2 | ⟨g, cap, cur, e1, e2, e3, r⟩
  · exact .inl h2
  · exact .inr ⟨g, cap, cur, e1, e2, cells_keptT hg hr e3 he, r⟩
theorem below_keptT {n : Nat} {w : World} (h : Below n w W) (hn : n ≤ B) (hw : n ≤ w.heap.size) (hg : W.grownBy W' row) (hr : ∀ r, row = some r → B ≤ r ∧ ∃ o : Obj, W.heap[r]? = some o ∧ (o.isCells = false ∨ ∃ c fz, o = .cells c T fz)) : Below n w W' :=
  h.trans ⟨hg.os, hg.tape, hg.output, hg.size, fun k hk => hg.block k (by have := h.size; omega) fun e => by have := (hr k e.symm).1; omega⟩
end
theorem endsInv_own {w4 : World} {B3 B4 Bp s1 B : Nat} {s : QP} {D : List (Rat × Rat)} (hB : Bp < B) (h34 : B3 < Bp) (hs : Bp < w4.heap.size) : OwnT 104 B (EndsInv w4 B3 B4 Bp s1 s D) := fun k X Y row h hg hr =>
  ⟨below_keptT h.low (by omega) (by omega) hg hr, (by
    refine (hg.block Bp (by have := h.low.size; omega) fun e => ?_).trans h.prof
    have := (hr _ e.symm).1
    omega), (by
    obtain ⟨v, h1, h2⟩ := h.out
    exact ⟨v, cells_keptT hg hr h1 (by decide), ownsRow_keptT hg hr h2 (by decide)⟩), cells_keptT hg hr h.last (by decide), Nat.le_trans h.sz hg.size⟩
theorem endsInv_below {w4 : World} {B3 B4 Bp s1 : Nat} {s : QP} {D : List (Rat × Rat)} {k : Nat} {W W' : World} (h : EndsInv w4 B3 B4 Bp s1 s D k W) (hb : Below W.heap.size W W') (h3 : B3 ≤ w4.heap.size) (hp : Bp < w4.heap.size) : EndsInv w4 B3 B4 Bp s1 s D k W' :=
  ⟨h.low.trans (hb.mono (Nat.le_trans h3 h.low.size)), (hb.block Bp (Nat.lt_of_lt_of_le hp h.low.size)).trans h.prof, (by
    obtain ⟨v, h1, h2⟩ := h.out
    exact ⟨v, (hb.block _ h1.lt).trans h1, owns_below h2 hb⟩), (hb.block _ (lt_of_some h.last)).trans h.last, Nat.le_trans h.sz hb.size⟩
/-- behind 'out = append(out, x)' -/
theorem append_allT {t e : TypeId} {size : Nat} (hte : t ≠ e) (htp : t ≠ 104) (hep : e ≠ 104) {W w1 : World} {s0 s1 n₀ Bp k m : Nat} {v v' : Value} {xs ys : List Value} {tmp : Obj} (hv : Boxed W s0 t v) (hrow : W.ownsRow s1 e size v k xs) (h0 : n₀ ≤ s0) (h01 : s0 < s1) (hs : s1 ≤ W.heap.size)
    (hb : Bp < s1) (hn : Bp ≠ s0) (hown' : w1.ownsRow s1 e size v' m ys) (hgrow : (W.alloc tmp).grownBy w1 v.ownBlock) :
    Boxed w1 s0 t v ∧ Boxed (w1.setCell ⟨s0, 0, none⟩ v') s0 t v' ∧ (w1.setCell ⟨s0, 0, none⟩ v').ownsRow s1 e size v' m ys ∧ KeepsOthers W (w1.setCell ⟨s0, 0, none⟩ v') ∧ KeepP n₀ Bp W (w1.setCell ⟨s0, 0, none⟩ v') ∧ Below s0 W (w1.setCell ⟨s0, 0, none⟩ v') ∧
    (∀ k, k ≠ s0 → k < s1 → (w1.setCell ⟨s0, 0, none⟩ v').heap[k]? = W.heap[k]?) ∧ (∀ (k : Nat) (c : Array Value) (t' : TypeId) (fz : Nat × Nat), t' ≠ t → t' ≠ e → W.heap[k]? = some (.cells c t' fz) → (w1.setCell ⟨s0, 0, none⟩ v').heap[k]? = some (.cells c t' fz) ∧ w1.heap[k]? = some (.cells c t' fz)) := by
  obtain ⟨c1, c2, _, c4, c5⟩ := hv.appended (n₀ := s0) hte (owns_base hrow (Nat.le_of_lt h01)) (by omega) (Nat.le_refl _) (owns_base hown' (Nat.le_of_lt h01)) hgrow
  have hg1 : ∀ g, v.ownBlock = some g → s1 ≤ g := fun g hg => by
    rcases hrow.2 with ⟨rfl, _⟩ | ⟨g', cap, cur, rfl, hb, _, _⟩
    · simp [Value.ownBlock] at hg
    · obtain rfl : g' = g := by simpa [Value.ownBlock] using hg
      exact hb
  have hg2 : ∀ g, v'.ownBlock = some g → s1 ≤ g := fun g hg => by
    rcases hown'.2 with ⟨rfl, _⟩ | ⟨g', cap, cur, rfl, hb, _, _⟩
    · simp [Value.ownBlock] at hg
    · obtain rfl : g' = g := by simpa [Value.ownBlock] using hg
      exact hb
  have one1 : ∀ k, k < W.heap.size → some k ≠ v.ownBlock → w1.heap[k]? = W.heap[k]? := fun k hkl hkr => by
    rw [hgrow.block k (by simp; omega) hkr]
    exact (alloc_below W tmp).block k hkl
  have one : ∀ k, k ≠ s0 → k < W.heap.size → some k ≠ v.ownBlock → (w1.setCell ⟨s0, 0, none⟩ v').heap[k]? = W.heap[k]? := fun k hk hkl hkr => by
    rw [Below.heap_setCell _ _ _ k hk]
    exact one1 k hkl hkr
  have low : ∀ k, k ≠ s0 → k < s1 → (w1.setCell ⟨s0, 0, none⟩ v').heap[k]? = W.heap[k]? := fun k hk hkl => one k hk (by omega) (fun h => by have := hg1 _ h.symm; omega)
  have typ : ∀ (k : Nat) (c : Array Value) (t' : TypeId) (fz : Nat × Nat), t' ≠ t → t' ≠ e → W.heap[k]? = some (.cells c t' fz) → (w1.setCell ⟨s0, 0, none⟩ v').heap[k]? = some (.cells c t' fz) ∧ w1.heap[k]? = some (.cells c t' fz) := fun k c t' fz ht he hk => by
    have h1 : k ≠ s0 := fun e' => by
      subst e'
      rw [show W.heap[k]? = _ from hv] at hk
      cases hk
      exact ht rfl
    have h2 : some k ≠ v.ownBlock := fun h => by
      rcases hrow.2 with ⟨rfl, _⟩ | ⟨g', cap, cur, rfl, hb, hgb, _⟩
      · simp [Value.ownBlock] at h
      · obtain rfl : k = g' := by simpa [Value.ownBlock] using h
        rw [hgb] at hk
        cases hk
        exact he rfl
    exact ⟨(one k h1 (lt_of_some hk) h2).trans hk, (one1 k (lt_of_some hk) h2).trans hk⟩
  refine ⟨c1, c2, ownsRow_setCell_other hown' (fun h => ?_) _, c4, ⟨c5.mono h0, low Bp hn hb, fun k c fz hk => (typ k c _ fz (Ne.symm htp) (Ne.symm hep) hk).1⟩, c5, low, typ⟩
  have := hg2 _ h
  dsimp only at this
  omega
/-- seven cells -/
theorem seven_cells {W : World} {B : Nat} {t : TypeId} {a b c d e f g : Value} (h : W.heap[B]? = some (.cells #[a, b, c, d, e, f, g] t (0, 0))) :
    W.cell? ⟨B, 0, none⟩ = some a ∧ W.cell? ⟨B, 1, none⟩ = some b ∧ W.cell? ⟨B, 2, none⟩ = some c ∧ W.cell? ⟨B, 3, none⟩ = some d ∧ W.cell? ⟨B, 4, none⟩ = some e ∧ W.cell? ⟨B, 5, none⟩ = some f ∧ W.cell? ⟨B, 6, none⟩ = some g := by
  refine ⟨?_, ?_, ?_, ?_, ?_, ?_, ?_⟩ <;> simp [World.cell?, h]
theorem seven_free {W : World} {B : Nat} {t : TypeId} {a b c d e f g : Value} (h : W.heap[B]? = some (.cells #[a, b, c, d, e, f, g] t (0, 0))) :
    W.frozen? ⟨B, 0, none⟩ = false ∧ W.frozen? ⟨B, 1, none⟩ = false ∧ W.frozen? ⟨B, 2, none⟩ = false ∧ W.frozen? ⟨B, 3, none⟩ = false ∧ W.frozen? ⟨B, 4, none⟩ = false ∧ W.frozen? ⟨B, 5, none⟩ = false ∧ W.frozen? ⟨B, 6, none⟩ = false := by
  refine ⟨?_, ?_, ?_, ?_, ?_, ?_, ?_⟩ <;> simp [World.frozen?, h]
theorem set_block {W : World} {B i : Nat} {cs : Array Value} {t : TypeId} {fz : Nat × Nat} (v : Value) (h : W.heap[B]? = some (.cells cs t fz)) : (W.setCell ⟨B, i, none⟩ v).heap[B]? = some (.cells (cs.setIfInBounds i v) t fz) := by
  obtain ⟨hlt, hk⟩ := Array.getElem?_eq_some_iff.1 h
  show (W.heap.modify B _)[B]? = _
  rw [Array.getElem?_eq_getElem (by rw [Array.size_modify]; exact hlt), Array.getElem_modify_self, hk]
  rfl
theorem seven_set {W w7 : World} {B : Nat} {t : TypeId} {a b c d e f g a' b' c' d' e' f' g' : Value} (h : W.heap[B]? = some (.cells #[a, b, c, d, e, f, g] t (0, 0)))
    (hw : w7 = ((((((W.setCell ⟨B, 0, none⟩ a').setCell ⟨B, 1, none⟩ b').setCell ⟨B, 2, none⟩ c').setCell ⟨B, 3, none⟩ d').setCell ⟨B, 4, none⟩ e').setCell ⟨B, 5, none⟩ f').setCell ⟨B, 6, none⟩ g') :
    w7.heap[B]? = some (.cells #[a', b', c', d', e', f', g'] t (0, 0)) ∧ (∀ k, k ≠ B → w7.heap[k]? = W.heap[k]?) ∧ W.heap.size ≤ w7.heap.size ∧ (∀ n, n ≤ B → Below n W w7) ∧ KeepsOthers W w7 := by
  refine ⟨?_, fun k hk => ?_, ?_, fun n hn => ?_, ?_⟩
  · rw [hw]
    have h7 := set_block (i := 6) g' (set_block (i := 5) f' (set_block (i := 4) e' (set_block (i := 3) d' (set_block (i := 2) c' (set_block (i := 1) b' (set_block (i := 0) a' h))))))
    simp only [List.setIfInBounds_toArray, List.set_cons_zero, List.set_cons_succ] at h7
    exact h7
  · rw [hw]
    simp only [Below.heap_setCell _ (⟨B, _, none⟩ : Addr) _ k hk]
  · rw [hw]; simp
  · rw [hw]
    exact ((((((((Below.refl n W).setCell (p := ⟨B, 0, none⟩) hn _).setCell (p := ⟨B, 1, none⟩) hn _).setCell (p := ⟨B, 2, none⟩) hn _).setCell (p := ⟨B, 3, none⟩) hn _).setCell (p := ⟨B, 4, none⟩) hn _).setCell (p := ⟨B, 5, none⟩) hn _).setCell (p := ⟨B, 6, none⟩) hn _)
  · rw [hw]
    exact (((((((KeepsOthers.setCell _ _ _).trans (KeepsOthers.setCell _ _ _)).trans (KeepsOthers.setCell _ _ _)).trans (KeepsOthers.setCell _ _ _)).trans (KeepsOthers.setCell _ _ _)).trans (KeepsOthers.setCell _ _ _)).trans (KeepsOthers.setCell _ _ _))
theorem axes_of_row {W : World} {s : QP} {D : List (Rat × Rat)} {g cap base n : Nat} (hn : D.length + 1 = n) (h : W.ownsRow base 206 4 (.slice (some ⟨g, 0, none⟩) n cap) n (axCs s D n)) {Dk : Nat} (hd : W.heap[Dk]? = some (.deferred (some []))) (o : Obj) :
    Axes (W.putObj Dk o) (.slice (some ⟨g, 0, none⟩) n cap) s D := by
  subst hn
  rcases h.2 with ⟨h2, _⟩ | ⟨g', cap', cur, e1, _, e3, e4, e5, e6, e7⟩
  · cases h2
  · cases e1
    have hne : Dk ≠ g := by
      intro e
      subst e
      rw [e3] at hd
      cases hd
    refine ⟨g, cap, rfl, e4, e5, by simpa [World.putObj] using lt_of_some e3, fun i hi j u hu => ?_⟩
    have h1 := axCs_get s D (D.length + 1) i (by omega) j u hu
    have hj : j < 4 := by
      rcases Nat.lt_or_ge j 4 with h | h
      · exact h
      · rw [List.getElem?_eq_none (by show 4 ≤ j; exact h)] at hu; cases hu
    have hblk : (W.putObj Dk o).heap[g]? = W.heap[g]? := by
      simp only [World.putObj]
      rw [Array.getElem?_setIfInBounds, if_neg hne]
    rw [World.cell?_of_block (a := ⟨g, i * 4 + j, none⟩) hblk]
    rw [← e7, List.getElem?_take, if_pos (by omega)] at h1
    simp [World.cell?, e3]
    simpa using h1
theorem ends_round {w w4 W wX w7 : World} {s : QP} {D : List (Rat × Rat)} {k : Nat} {v' : Value} {a b c d e f g : Value} (h4 : w.heap.size + 4 ≤ w4.heap.size) (hlow : Below (w.heap.size + 1) w4 W) (hpro : W.heap[w.heap.size + 3]? = w4.heap[w.heap.size + 3]?)
    (k2 : Boxed wX (w.heap.size + 1) 199 v') (k3 : wX.ownsRow w4.heap.size 206 4 v' (k + 1) (axCs s D (k + 1))) (k4 : KeepsOthers W wX) (k5 : KeepP w.heap.size (w.heap.size + 3) W wX) (k6 : Below (w.heap.size + 1) W wX)
    (hly : wX.heap[w.heap.size + 1 + 1]? = some (.cells #[a, b, c, d, e, f, g] 161 (0, 0)))
    (hw7 : w7 = ((((((wX.setCell ⟨w.heap.size + 1 + 1, 0, none⟩ (.string (tx (dirQ (tK D k)).1))).setCell ⟨w.heap.size + 1 + 1, 1, none⟩ (.string (tx (dirQ (tK D k)).2))).setCell ⟨w.heap.size + 1 + 1, 2, none⟩ (.string (tx (upQ (dirQ (tK D k))).1))).setCell ⟨w.heap.size + 1 + 1, 3, none⟩ (.string (tx (upQ (dirQ (tK D k))).2))).setCell ⟨w.heap.size + 1 + 1, 4, none⟩ (.string (tx (atK s D k).1))).setCell ⟨w.heap.size + 1 + 1, 5, none⟩ (.string (tx (atK s D k).2))).setCell ⟨w.heap.size + 1 + 1, 6, none⟩ (.string (tx (lK D k)))) :
    KeepsFrom w4.heap.size W w7 ∧ KeepP w.heap.size (w.heap.size + 3) W w7 ∧ EndsInv w4 (w.heap.size + 1) (w.heap.size + 1 + 1) (w.heap.size + 3) w4.heap.size s D (k + 1) w7 := by
  obtain ⟨m1, m2, m3, m4, m5⟩ := seven_set hly hw7
  refine ⟨(k4.trans m5).from _, k5.trans ⟨m4 _ (by omega), m2 _ (by omega), fun j c' fz hj => (m2 j (fun e' => ?_)).trans hj⟩, hlow.trans (k6.trans (m4 _ (by omega))), ?_, ⟨v', (m2 _ (by omega)).trans k2, k3.1, ?_⟩, m1, ?_⟩
  · subst e'
    rw [hly] at hj
    cases hj
  · rw [m2 _ (by omega), k5.2.1, hpro]
  · rcases k3.2 with h2 | ⟨g, cap, cur, e1, e2, e3, r⟩
    · exact .inl h2
    · exact .inr ⟨g, cap, cur, e1, e2, (m2 g (by omega)).trans e3, r⟩
  · have := hlow.size
    have := k6.size
    omega
set_option maxRecDepth 100000 in
set_option maxHeartbeats 8000000 in
theorem kink_ends (s : QP) (D : List (Rat × Rat)) (hP : PrOk s D) (hnd : ∀ k, 0 < k → k < D.length → 1 + dotQ (nK D (k - 1)) (nK D k) ≠ 0) (vd vl : Value) (w : World) (hw : Good w) (hvd : Txs w vd (D.map (·.1))) (hvl : Txs w vl (D.map (·.2))) :
    CallsIn Fence.wide 9 Tryz.prog 159 #[profV s vd vl] w (EndsPost s D w) := by
  have HVD := Lib.hid hvd
  have HVL := Lib.hid hvl
  obtain ⟨bd, cd, rfl, -, -, -, -⟩ := hvd
  obtain ⟨bl, cl, rfl, -, -, -, -⟩ := hvl
  have HDM := Lib.hid (fun W => kink_domains 8 s (some ⟨bd, 0, none⟩) (some ⟨bl, 0, none⟩) D.length cd D.length cl W)
  have HL1 := Lib.hid (show (D.map (·.1)).length = D.length from List.length_map _)
  have HL2 := Lib.hid (show (D.map (·.2)).length = D.length from List.length_map _)
  rw [HL1.out] at HVD
  rw [HL2.out] at HVL
  rw [HL1.out, HL2.out]
  obtain ⟨wA, hwA⟩ : ∃ wA, wA = ((w.alloc (profO s (.slice (some ⟨bd, 0, none⟩) D.length cd) (.slice (some ⟨bl, 0, none⟩) D.length cl))).alloc (Obj.cells #[.slice none 0 0] 199)).alloc (Obj.cells domZ 161) := ⟨_, rfl⟩
  have HWA := Lib.hid hwA
  unfold profV profO domZ at *
  refine callsIn_of_wp_marks Tryz.func159 rfl trivial ?_ rfl
  simp only [Tryz.ntmps159, List.size_toArray, List.length_cons, List.length_nil, Nat.reduceAdd, Nat.reduceSub, Array.replicate_succ, Array.replicate_zero, List.push_toArray, List.append_toArray, List.nil_append, List.cons_append]
  have HP := Lib.hid hP
  have HND := Lib.hid hnd
  clear hwA hP hnd
  gi_wp2
  rw [← HWA.out]
  refine ⟨trivial, ?_⟩
  refine (HDM.out wA).mono ?_
  rintro e w4 ⟨rfl, hw4⟩
  have HW4 := Lib.hid hw4
  have hsA : wA.heap.size = w.heap.size + 3 := by rw [HWA.out]; simp
  have hbA : Below w.heap.size w wA := by rw [HWA.out]; exact (alloc_below _ _).trans (((alloc_below _ _).mono (by simp)).trans ((alloc_below _ _).mono (by simp; omega)))
  have hb4 : Below wA.heap.size wA w4 := by rw [hw4]; exact alloc_below _ _
  have hs4 : w4.heap.size = wA.heap.size + 1 := by rw [hw4]; simp
  have hx4 : w4.heap[(w.heap.size + 3)]? = some (profO s (.slice (some ⟨bd, 0, none⟩) D.length cd) (.slice (some ⟨bl, 0, none⟩) D.length cl)) := by rw [hw4, ← hsA]; exact World.alloc_heap_new _ _
  have hy3 : Boxed w4 (w.heap.size + 1) 199 (.slice none 0 0) := by
    refine (hb4.block _ (by omega)).trans ?_
    rw [HWA.out]
    refine ((alloc_below _ _).block _ (by simp)).trans ?_
    have := World.alloc_heap_new (w.alloc (profO s (.slice (some ⟨bd, 0, none⟩) D.length cd) (.slice (some ⟨bl, 0, none⟩) D.length cl))) (Obj.cells #[.slice none 0 0] 199)
    rwa [World.size_alloc] at this
  have hz4 : w4.heap[w.heap.size + 1 + 1]? = some (.cells (lastC s D 0) 161 (0, 0)) := by
    refine (hb4.block _ (by omega)).trans ?_
    rw [HWA.out]
    have := World.alloc_heap_new ((w.alloc (profO s (.slice (some ⟨bd, 0, none⟩) D.length cd) (.slice (some ⟨bl, 0, none⟩) D.length cl))).alloc (Obj.cells #[.slice none 0 0] 199)) (Obj.cells domZ 161)
    rwa [World.size_alloc, World.size_alloc] at this
  have hbw4 : Below w.heap.size w w4 := hbA.trans (hb4.mono hbA.size)
  have hg4 : Good w4 := hw.below hbw4
  have HX4 := Lib.hid hx4
  have HY3 := Lib.hid hy3
  have HZ4 := Lib.hid hz4
  have HBW4 := Lib.hid hbw4
  clear hw4 hx4 hy3 hz4
  gi_wp2
  clear HDM HWA
  refine wpIn_rangeFunc_at (n := 9) rfl (by decide) (gf := 161) (lb := #[.pointer (some ⟨(w.heap.size + 3), 0, none⟩)]) rfl trivial (enters_of Tryz.func161 (by kernel_rfl) rfl)
    (domains_at 8 (by decide) (w.heap.size + 3) w hw s D HP.out _ _ HVD.out HVL.out w4 hbw4 HX4.out)
    KeepP.trans (KeepP.put (by omega) (by omega)) (Below.refl _ _) (fun _ => rfl)
    (EndsInv w4 (w.heap.size + 1) (w.heap.size + 1 + 1) (w.heap.size + 3) w4.heap.size s D) (fun _ _ _ => False) (endsInv_own (by omega) (by omega) (by omega)) (fun _ _ _ _ _ hs _ _ => hs)
    ⟨Below.refl _ _, rfl, ⟨_, HY3.out, World.ownsRow_nil _ _ _ _⟩, HZ4.out, Nat.le_refl _⟩
    (fun k a' W => ∃ Bx, w4.heap.size ≤ Bx ∧ W.heap[Bx]? = some (.cells (domC s D k) 161 (0, 0)) ∧ a' = { tmps := #[.agg #[(.string (tx s.1)), (.string (tx s.2)), .slice (some ⟨bd, 0, none⟩) D.length cd, .slice (some ⟨bl, 0, none⟩) D.length cl], .pointer (some ⟨w.heap.size, 0, none⟩), .slice none 0 0, .pointer (some ⟨w.heap.size + 1, 0, none⟩), .pointer (some ⟨w.heap.size + 1 + 1, 0, none⟩), .int .i64 (k : Int), .pointer (some ⟨Bx, 0, none⟩), undef, .agg #[(.string (tx s.1)), (.string (tx s.2)), .slice (some ⟨bd, 0, none⟩) D.length cd, .slice (some ⟨bl, 0, none⟩) D.length cl], .func (.func 161) #[] #[.pointer (some ⟨(w.heap.size + 3), 0, none⟩)], .int .i64 (k : Int), .agg (domC s D k), undef, undef, undef, undef, undef, undef, undef, undef, undef, undef, undef, undef, undef, undef, undef, undef, undef, undef, undef, undef, undef, undef, undef, undef, undef, undef, undef, undef, undef, undef, undef, undef, undef, undef, undef, undef, undef, undef, undef, undef, undef, undef, undef, undef, undef], defers := [] })
    (fun k a' _ X Y row hs hg hr => by obtain ⟨Bx, h1, h2, h3⟩ := hs; exact ⟨Bx, h1, cells_kept hg hr h2, h3⟩) ?assign ?body ?done ?stop
  case assign =>
    intro l k hk W K hI hK
    have hsz1 := hI.sz
    simp only [List.length_range] at hk
    simp only [List.getElem_range, domE, domV]
    gi_wp2
    exact hK _ _ (keepsFrom_below (alloc_below _ _)) (KeepP.of_below (alloc_below _ _) (by omega) (by omega)) (endsInv_below hI (alloc_below _ _) (by omega) (by omega)) ⟨W.heap.size, hsz1, World.alloc_heap_new _ _, rfl⟩
  case body =>
    rintro l k hk a' W hl hr hinv ⟨Bx, hBx, hdx, rfl⟩
    simp only [List.length_range] at hk
    obtain ⟨hlow, hpro, ⟨ov, hov, hrow⟩, hlast, hsz⟩ := hinv
    have hbx := lt_of_some hdx
    have hlw := hlow.size
    have HPRO := Lib.hid hpro
    have HDX := Lib.hid hdx
    have HLAST := Lib.hid hlast
    have hgW : Good W := hw.below (HBW4.out.trans (hlow.mono (by omega)))
    unfold domC nK at hdx
    obtain ⟨x0, x1, x2, x3, x4, x5, x6⟩ := seven_cells hdx
    have q0 := hov.cell
    obtain ⟨i0, hi, hz0, hz1, hz2⟩ := info_parts slAxis.info
    have hkl : k ≤ 4 := Nat.le_trans (Nat.le_of_lt hk) HP.out.n
    have HRN := Lib.hid (HND.out k)
    clear hpro hdx HND
    cases k with
    | zero =>
      clear HRN
      change W.heap[w.heap.size + 1 + 1]? = some (.cells domZ 161 (0, 0)) at hlast
      unfold domZ at hlast
      obtain ⟨f0, f1, f2, f3, f4, f5, f6⟩ := seven_free hlast
      obtain ⟨g0, g1, g2, g3, g4, g5, g6⟩ := seven_cells hlast
      clear hlast
      simp only [domC, nK, Int.natCast_zero] at *
      have hdx0 : W.heap[Bx]? = some (.cells #[.string (tx (dirQ (tK D 0)).1), .string (tx (dirQ (tK D 0)).2), .string (tx (upQ (dirQ (tK D 0))).1), .string (tx (upQ (dirQ (tK D 0))).2), .string (tx (atK s D 0).1), .string (tx (atK s D 0).2), .string (tx (lK D 0))] 161 (0, 0)) := HDX.out
      have hls0 : W.heap[w.heap.size + 1 + 1]? = some (.cells #[.string ⟨#[]⟩, .string ⟨#[]⟩, .string ⟨#[]⟩, .string ⟨#[]⟩, .string ⟨#[]⟩, .string ⟨#[]⟩, .string ⟨#[]⟩] 161 (0, 0)) := HLAST.out
      have HDX0 := Lib.hid hdx0
      have HLS0 := Lib.hid hls0
      clear HDX HLAST hdx0 hls0 f0 f1 f2 f3 f4 f5 f6 g0 g1 g2 g3 g4 g5 g6
      gi_wp2_with (gi_at_builtin; refine wpListIn_append_own _ rfl _ _ 199 rfl w4.heap.size 206 i0 (.agg #[.string ⟨#[]⟩, .string ⟨#[]⟩, .string ⟨#[]⟩, .string ⟨#[]⟩]) 4 64 slAxis.ht hi hz0 hz1 hz2 slAxis.hzs slAxis.hsz _ _ _ rfl (hrow.alloc _) ⟨W.heap.size, 0, none⟩ 1 1 [.string (tx (atK s D 0).1), .string (tx (atK s D 0).2), .string (tx (upQ (dirQ (tK D 0))).1), .string (tx (upQ (dirQ (tK D 0))).2)] rfl rfl (cell_four_new _ _ _ _ _ _) (by simp [Value.oneCell']) (by unfold maxLen; omega) (by omega) (by simp; omega) ?_; intro v' w21 hown' hgrow _; obtain ⟨g', cap', rfl⟩ := ownsRow_succ hown'; obtain ⟨k1, k2, k3, k4, k5, k6, k7, k8⟩ := append_allT (n₀ := w.heap.size) (Bp := w.heap.size + 3) (by decide) (by decide) (by decide) hov hrow (by omega) (by omega) (by omega) (by omega) (by omega) hown' hgrow; have hc1 := k1.cell; have hf1 := k1.frozen; have hdy := (k8 _ _ _ _ (by decide) (by decide) HDX0.out).1; have hly := (k8 _ _ _ _ (by decide) (by decide) HLS0.out).1; obtain ⟨a0, a1, a2, a3, a4, a5, a6⟩ := seven_cells hdy; obtain ⟨b0, b1, b2, b3, b4, b5, b6⟩ := seven_cells hly; obtain ⟨c0, c1, c2, c3, c4, c5, c6⟩ := seven_free hly)
      exact ends_round (k := 0) (by omega) hlow HPRO.out k2 k3 k4 k5 k6 hly rfl
    | succ k =>
      have hne := HRN.out (by omega) hk
      rw [Nat.add_sub_cancel] at hne
      have hn0 : ∀ j, Sz2 4925 (nK D j) := fun j => ⟨(HP.out.dir j).2.neg, (HP.out.dir j).1.mono (by decide)⟩
      have hone : Sz 1 1 := by unfold Sz; rw [tx1]; decide
      have hzer : Sz2 1 ((0 : Rat), (0 : Rat)) := by unfold Sz2 Sz; rw [tx0]; decide
      have hd0 := sz_dot (hn0 k) (hn0 (k + 1))
      have hd1 := hone.add hd0
      have hd2 := hone.div hd1
      have hm0 := sz_plus (hn0 k) (hn0 (k + 1)) hone
      have HAX := Lib.hid (show plusQ (0, 0) (plusQ (nK D k) (nK D (k + 1)) 1) (1 * (1 + dotQ (nK D k) (nK D (k + 1)))⁻¹) = axK D (k + 1) by
        unfold axK; rw [if_neg (by omega), if_pos hk, Nat.add_sub_cancel])
      have HDOT := Lib.hid (fun w' (hg : Good w') => kink_dot (nK D k) (nK D (k + 1)) ((hn0 k).mono (by decide)) ((hn0 (k + 1)).mono (by decide)) w' hg)
      have HADD := Lib.hid (fun w' (hg : Good w') => k_add 1 (dotQ (nK D k) (nK D (k + 1))) (hone.mono (by decide)) (hd0.mono (by decide)) w' hg)
      have HQUO := Lib.hid (fun w' (hg : Good w') => kink_quotient 1 (1 + dotQ (nK D k) (nK D (k + 1))) hne (hone.mono (by decide)) (hd1.mono (by decide)) w' hg)
      have HPL1 := Lib.hid (fun w' (hg : Good w') => kink_plus (nK D k) (nK D (k + 1)) 1 ((hn0 k).mono (by decide)) ((hn0 (k + 1)).mono (by decide)) (hone.mono (by decide)) w' hg)
      have HPL2 := Lib.hid (fun w' (hg : Good w') => kink_plus (0, 0) (plusQ (nK D k) (nK D (k + 1)) 1) (1 * (1 + dotQ (nK D k) (nK D (k + 1)))⁻¹) (hzer.mono (by decide)) (hm0.mono (by decide)) (hd2.mono (by decide)) w' hg)
      rw [HAX.out] at HPL2
      unfold RV ptV at HPL1 HPL2
      unfold RV ptV at HDOT
      unfold RV at HADD HQUO
      dsimp only at HPL2
      rw [tx0] at HPL2
      rw [tx1] at HPL1 HADD HQUO
      clear hne hn0 hone hzer hd0 hd1 hd2 hm0 HRN
      generalize plusQ (nK D k) (nK D (k + 1)) 1 = mid at *
      generalize 1 * (1 + dotQ (nK D k) (nK D (k + 1)))⁻¹ = kq at *
      generalize 1 + dotQ (nK D k) (nK D (k + 1)) = dq1 at *
      generalize dotQ (nK D k) (nK D (k + 1)) = dq at *
      change W.heap[w.heap.size + 1 + 1]? = some (.cells (domC s D k) 161 (0, 0)) at hlast
      unfold domC at hlast
      obtain ⟨g0, g1, g2, g3, g4, g5, g6⟩ := seven_cells hlast
      have HLS0 := Lib.hid hlast
      have HDX0 := Lib.hid (show W.heap[Bx]? = some (.cells #[.string (tx (dirQ (tK D (k + 1))).1), .string (tx (dirQ (tK D (k + 1))).2), .string (tx (nK D (k + 1)).1), .string (tx (nK D (k + 1)).2), .string (tx (atK s D (k + 1)).1), .string (tx (atK s D (k + 1)).2), .string (tx (lK D (k + 1)))] 161 (0, 0)) from HDX.out)
      obtain ⟨x0, x1, x2, x3, x4, x5, x6⟩ := seven_cells HDX0.out
      clear hlast HDX HLAST
      unfold domC
      obtain ⟨K, hK⟩ : ∃ K : Int, K = ((k + 1 : Nat) : Int) := ⟨_, rfl⟩
      have hK0 : ¬ K = 0 := by omega
      have hK1 : (K == 0) = false := beq_false_of_ne hK0
      rw [← hK]
      clear hK
      gi_wp2
      refine ⟨trivial, ?_⟩
      refine (CallsIn.inRound l (callsIn_wide.2 (HDOT.out W hgW))).mono ?_
      rintro e v1 ⟨rfl, hv1⟩
      have hg1 := hgW.below hv1
      gi_wp2
      refine ⟨trivial, ?_⟩
      refine (CallsIn.inRound l (callsIn_wide.2 (HADD.out v1 hg1))).mono ?_
      rintro e v2 ⟨rfl, hv2⟩
      have hg2 := hg1.below hv2
      have hv02 := hv1.trans (hv2.mono hv1.size)
      gi_wp2
      refine ⟨trivial, ?_⟩
      refine (CallsIn.inRound l (callsIn_wide.2 (HQUO.out v2 hg2))).mono ?_
      rintro e v3 ⟨rfl, hv3⟩
      have hg3 := hg2.below hv3
      have hv03 := hv02.trans (hv3.mono hv02.size)
      have hb3s := hv03.size
      have hov3 : Boxed v3 (w.heap.size + 1) 199 ov := (hv03.block _ hov.lt).trans hov
      have q03 := hov3.cell
      have l3 := hov3.lt
      have lx := Nat.lt_of_lt_of_le hbx hb3s
      have ly := Nat.lt_of_lt_of_le (lt_of_some HLS0.out) hb3s
      obtain ⟨y0, y1, y2, y3, y4, y5, y6⟩ := seven_cells ((hv03.block _ hbx).trans HDX0.out)
      obtain ⟨z0, z1, z2, z3, z4, z5, z6⟩ := seven_cells ((hv03.block _ (lt_of_some HLS0.out)).trans HLS0.out)
      have HOV := Lib.hid hov
      have HROW := Lib.hid hrow
      clear x0 x1 x2 x3 x4 x5 x6 g0 g1 g2 g3 g4 g5 g6 q0 hov hov3 hrow hv1 hv2 hv3 hv02
      gi_wp2
      refine wpIn_held_list lifts_round (fun W' => Below v3.heap.size v3 W') [0, 1, 2, 3, 4, 5, 6, 7, 9] [8, 10, 11, 12] 13 (by kernel_rfl) (by kernel_rfl) (by kernel_rfl) ⟨rfl, rfl, rfl, Nat.le_refl _, fun _ _ => rfl⟩ ?_
      iterate 9
        refine wpTakeL_step rfl ?_ rfl ?_ ?_
        rotate_left
        · intro W' hS'
          have s0 := (hS'.cell (p := ⟨w.heap.size + 1, 0, none⟩) l3).trans q03
          have s1 := (hS'.cell (p := ⟨Bx, 2, none⟩) lx).trans y2
          have s2 := (hS'.cell (p := ⟨Bx, 3, none⟩) lx).trans y3
          have s3 := (hS'.cell (p := ⟨Bx, 4, none⟩) lx).trans y4
          have s4 := (hS'.cell (p := ⟨Bx, 5, none⟩) lx).trans y5
          have s5 := (hS'.cell (p := ⟨w.heap.size + 1 + 1, 2, none⟩) ly).trans z2
          have s6 := (hS'.cell (p := ⟨w.heap.size + 1 + 1, 3, none⟩) ly).trans z3
          go_simp
          try with_reducible rfl
        try simp only [List.getElem_toArray, List.getElem_cons_zero, List.getElem_cons_succ, Act.put, List.setIfInBounds_toArray, List.set_cons_zero, List.set_cons_succ]
      have hH0 : Below v3.heap.size v3 v3.drew := ⟨rfl, rfl, rfl, Nat.le_refl _, fun _ _ => rfl⟩
      refine wpKeepL_step rfl rfl (fun K hK => ?_)
      go_simp
      refine (HPL1.out _ (hg3.below hH0)).mono ?_
      rintro e v4 ⟨rfl, hv4⟩
      have hH1 := hH0.trans (hv4.mono hH0.size)
      refine hK _ _ ⟨hH1, ?_⟩
      clear hK K
      try simp only [List.getElem_toArray, List.getElem_cons_zero, List.getElem_cons_succ, Act.put, List.setIfInBounds_toArray, List.set_cons_zero, List.set_cons_succ]
      refine wpKeepL_step rfl rfl (fun K hK => ?_)
      go_simp
      refine (HPL2.out _ (hg3.below hH1)).mono ?_
      rintro e v5 ⟨rfl, hv5⟩
      have hH2 := hH1.trans (hv5.mono hH1.size)
      refine hK _ _ ⟨hH2, ?_⟩
      clear hK K
      try simp only [List.getElem_toArray, List.getElem_cons_zero, List.getElem_cons_succ, Act.put, List.setIfInBounds_toArray, List.set_cons_zero, List.set_cons_succ]
      refine wpKeepL_step rfl rfl (fun K hK => ?_)
      go_simp
      refine hK _ _ ⟨hH2, ?_⟩
      clear hK K
      try simp only [List.getElem_toArray, List.getElem_cons_zero, List.getElem_cons_succ, Act.put, List.setIfInBounds_toArray, List.set_cons_zero, List.set_cons_succ]
      refine wpKeepL_step rfl rfl (fun K hK => ?_)
      go_simp
      refine hK _ _ ⟨hH2.trans ((alloc_below _ _).mono hH2.size), ?_⟩
      clear hK K
      try simp only [List.getElem_toArray, List.getElem_cons_zero, List.getElem_cons_succ, Act.put, List.setIfInBounds_toArray, List.set_cons_zero, List.set_cons_succ]
      unfold wpKeepL
      simp only [List.drop_succ_cons, List.drop_zero]
      have hv05 := hv03.trans (hH2.mono hv03.size)
      have hs05 := hv05.size
      have hrow5 := owns_below HROW.out hv05
      have hov5 : Boxed v5 (w.heap.size + 1) 199 ov := (hv05.block _ HOV.out.lt).trans HOV.out
      have HDX5 := Lib.hid ((hv05.block _ (lt_of_some HDX0.out)).trans HDX0.out)
      have HLS5 := Lib.hid ((hv05.block _ (lt_of_some HLS0.out)).trans HLS0.out)
      clear y0 y1 y2 y3 y4 y5 y6 z0 z1 z2 z3 z4 z5 z6 hv4 hv5 hH0 hH1 q03
      refine wpListIn_append_own _ rfl _ _ 199 rfl w4.heap.size 206 i0 (.agg #[.string ⟨#[]⟩, .string ⟨#[]⟩, .string ⟨#[]⟩, .string ⟨#[]⟩]) 4 64 slAxis.ht hi hz0 hz1 hz2 slAxis.hzs slAxis.hsz _ _ _ rfl (hrow5.alloc _) ⟨v5.heap.size, 0, none⟩ 1 1 [.string (tx (atK s D (k + 1)).1), .string (tx (atK s D (k + 1)).2), .string (tx (axK D (k + 1)).1), .string (tx (axK D (k + 1)).2)] rfl rfl (cell_four_new _ _ _ _ _ _) (by simp [Value.oneCell']) (by unfold maxLen; omega) (by omega) (by simp; omega) ?_
      intro v' w21 hown' hgrow _
      obtain ⟨g', cap', rfl⟩ := ownsRow_succ hown'
      obtain ⟨k1, k2, k3, k4, k5, k6, k7, k8⟩ := append_allT (n₀ := w.heap.size) (Bp := w.heap.size + 3) (by decide) (by decide) (by decide) hov5 hrow5 (by omega) (by omega) (by omega) (by omega) (by omega) hown' hgrow
      have hc1 := k1.cell
      have hf1 := k1.frozen
      have hdy := (k8 _ _ _ _ (by decide) (by decide) HDX5.out).1
      have hly := (k8 _ _ _ _ (by decide) (by decide) HLS5.out).1
      obtain ⟨a0, a1, a2, a3, a4, a5, a6⟩ := seven_cells hdy
      obtain ⟨b0, b1, b2, b3, b4, b5, b6⟩ := seven_cells hly
      obtain ⟨c0, c1, c2, c3, c4, c5, c6⟩ := seven_free hly
      have HK2 := Lib.hid k2
      have HK3 := Lib.hid k3
      have HK4 := Lib.hid k4
      have HK5 := Lib.hid k5
      have HK6 := Lib.hid k6
      have HLY := Lib.hid hly
      clear k1 k2 k3 k4 k5 k6 k7 k8 hdy hly hown' hgrow hrow5 hov5
      gi_wp2
      exact ends_round (k := k + 1) (by omega) hlow HPRO.out HK2.out HK3.out (KeepsOthers.trans ⟨hv05.size, fun j o h _ => (hv05.block j (lt_of_some h)).trans h⟩ HK4.out) ((KeepP.of_below hv05 (by omega) (by omega)).trans HK5.out) ((hv05.mono (by omega)).trans HK6.out) HLY.out rfl
  case done =>
    rintro Dk W hD hinv hK
    simp only [List.length_range] at hinv
    obtain ⟨hlow, hpro, ⟨ov, hov, hrow⟩, hlast, hsz⟩ := hinv
    have hn1 := HP.out.ne
    obtain ⟨m, hm⟩ : ∃ m, D.length = m + 1 := ⟨D.length - 1, by omega⟩
    rw [hm] at hlast
    change W.heap[w.heap.size + 1 + 1]? = some (.cells (domC s D m) 161 (0, 0)) at hlast
    unfold domC at hlast
    have hgW : Good W := hw.below (HBW4.out.trans (hlow.mono (by omega)))
    have HPL := Lib.hid (fun w' (hg : Good w') => show Calls Tryz.prog 118 #[ptV (atK s D m), ptV (dirQ (tK D m)), .string (tx (lK D m))] w' (RV (ptV (atK s D (m + 1))) w') from
      kink_plus (atK s D m) (dirQ (tK D m)) (lK D m) ((HP.out.at4 (by have := HP.out.n; omega)).mono (by decide)) ((HP.out.dir m).mono (by decide)) ((HP.out.l m).mono (by decide)) w' hg)
    have HAX := Lib.hid (show axK D (m + 1) = nK D m by unfold axK; rw [if_neg (by omega), if_neg (by omega), Nat.add_sub_cancel])
    unfold RV ptV at HPL
    have HM := Lib.hid hm
    have hmn : m ≤ 3 := by have := HP.out.n; omega
    obtain ⟨z0, z1, z2, z3, z4, z5, z6⟩ := seven_cells hlast
    have q0 := hov.cell
    have lo := hov.lt
    have ll := lt_of_some hlast
    have hlw := hlow.size
    obtain ⟨i0, hi, hz0, hz1, hz2⟩ := info_parts slAxis.info
    have HOV := Lib.hid hov
    have HROW := Lib.hid hrow
    have HKD := Lib.hid hK
    clear hK hov hrow hlast hpro hm HND
    gi_wp2
    refine wpIn_held_list lifts_wide (fun W' => Below W.heap.size W W') [0, 1, 2, 3, 4, 5, 6, 8, 9] [7, 10, 11] 12 (by kernel_rfl) (by kernel_rfl) (by kernel_rfl) ⟨rfl, rfl, rfl, Nat.le_refl _, fun _ _ => rfl⟩ ?_
    iterate 9
      refine wpTakeL_step rfl ?_ rfl ?_ ?_
      rotate_left
      · intro W' hS'
        have s0 := (hS'.cell (p := ⟨w.heap.size + 1, 0, none⟩) lo).trans q0
        have s1 := (hS'.cell (p := ⟨w.heap.size + 1 + 1, 0, none⟩) ll).trans z0
        have s2 := (hS'.cell (p := ⟨w.heap.size + 1 + 1, 1, none⟩) ll).trans z1
        have s3 := (hS'.cell (p := ⟨w.heap.size + 1 + 1, 2, none⟩) ll).trans z2
        have s4 := (hS'.cell (p := ⟨w.heap.size + 1 + 1, 3, none⟩) ll).trans z3
        have s5 := (hS'.cell (p := ⟨w.heap.size + 1 + 1, 4, none⟩) ll).trans z4
        have s6 := (hS'.cell (p := ⟨w.heap.size + 1 + 1, 5, none⟩) ll).trans z5
        have s7 := (hS'.cell (p := ⟨w.heap.size + 1 + 1, 6, none⟩) ll).trans z6
        go_simp
        try with_reducible rfl
      try simp only [List.getElem_toArray, List.getElem_cons_zero, List.getElem_cons_succ, Act.put, List.setIfInBounds_toArray, List.set_cons_zero, List.set_cons_succ]
    have hH0 : Below W.heap.size W W.drew := ⟨rfl, rfl, rfl, Nat.le_refl _, fun _ _ => rfl⟩
    refine wpKeepL_step rfl rfl (fun K hK => ?_)
    go_simp
    refine (HPL.out _ (hgW.below hH0)).mono ?_
    rintro e v5 ⟨rfl, hv5⟩
    have hH2 := hH0.trans (hv5.mono hH0.size)
    refine hK _ _ ⟨hH2, ?_⟩
    clear hK K
    try simp only [List.getElem_toArray, List.getElem_cons_zero, List.getElem_cons_succ, Act.put, List.setIfInBounds_toArray, List.set_cons_zero, List.set_cons_succ]
    refine wpKeepL_step rfl rfl (fun K hK => ?_)
    go_simp
    refine hK _ _ ⟨hH2, ?_⟩
    clear hK K
    try simp only [List.getElem_toArray, List.getElem_cons_zero, List.getElem_cons_succ, Act.put, List.setIfInBounds_toArray, List.set_cons_zero, List.set_cons_succ]
    refine wpKeepL_step rfl rfl (fun K hK => ?_)
    go_simp
    refine hK _ _ ⟨hH2.trans ((alloc_below _ _).mono hH2.size), ?_⟩
    clear hK K
    try simp only [List.getElem_toArray, List.getElem_cons_zero, List.getElem_cons_succ, Act.put, List.setIfInBounds_toArray, List.set_cons_zero, List.set_cons_succ]
    unfold wpKeepL
    simp only [List.drop_succ_cons, List.drop_zero]
    have hs05 := hH2.size
    have hrow5 := owns_below HROW.out hH2
    have hlow5 := hlow.trans (hH2.mono (by omega))
    have HKD5 := Lib.hid ((hH2.block _ (lt_of_some HKD.out)).trans HKD.out)
    clear z0 z1 z2 z3 z4 z5 z6 hv5 hH0 q0
    refine wpListIn_append_own _ rfl _ _ 199 rfl w4.heap.size 206 i0 (.agg #[.string ⟨#[]⟩, .string ⟨#[]⟩, .string ⟨#[]⟩, .string ⟨#[]⟩]) 4 64 slAxis.ht hi hz0 hz1 hz2 slAxis.hzs slAxis.hsz _ _ _ rfl (hrow5.alloc _) ⟨v5.heap.size, 0, none⟩ 1 1 [.string (tx (atK s D (m + 1)).1), .string (tx (atK s D (m + 1)).2), .string (tx (nK D m).1), .string (tx (nK D m).2)] rfl rfl (cell_four_new _ _ _ _ _ _) (by simp [Value.oneCell']) (by rw [HM.out]; unfold maxLen; omega) (by rw [HM.out]; omega) (by simp; omega) ?_
    intro v' w21 hown' hgrow _
    change World.grownBy _ w21 ov.ownBlock at hgrow
    have HRW := Lib.hid hown'
    obtain ⟨g', cap', rfl⟩ := ownsRow_succ hown'
    have hlow21 : Below (w.heap.size + 1) w4 w21 := (hlow5.trans ((alloc_below v5 _).mono (by omega))).grown hgrow (by simp; omega) (fun g hg => Nat.le_trans (by omega) (hrow5.lt g hg).1)
    have hDk5 : Dk < v5.heap.size := lt_of_some HKD5.out
    have hKD21 : w21.heap[Dk]? = some (.deferred (some [])) := by
      rw [hgrow.block Dk (by simp; omega) (fun h => ?_), (alloc_below v5 _).block Dk hDk5]
      · exact HKD5.out
      · rcases hrow5.2 with ⟨rfl, _⟩ | ⟨g2, cap2, cur2, rfl, _, hgb, _⟩
        · simp [Value.ownBlock] at h
        · obtain rfl : Dk = g2 := by simpa [Value.ownBlock] using h
          have := HKD5.out
          rw [hgb] at this
          cases this
    have HKD21 := Lib.hid hKD21
    have HLOW21 := Lib.hid hlow21
    rw [show axCs s D D.length ++ [.string (tx (atK s D (m + 1)).1), .string (tx (atK s D (m + 1)).2), .string (tx (nK D m).1), .string (tx (nK D m).2)] = axCs s D (D.length + 1) by rw [axCs, HM.out, axC, HAX.out]] at HRW
    have HAXS := Lib.hid (fun o => axes_of_row rfl HRW.out HKD21.out o)
    clear hown' hgrow hrow5 hKD21 hlow21 HRW hlow5
    gi_wp2
    refine ⟨by simp, .inl ⟨_, _, rfl, run_takeDeferred HKD21.out, ?_⟩⟩
    exact ⟨_, results_tmp rfl _ _ _, _, rfl, HAXS.out _, (HBW4.out.trans (HLOW21.out.mono (by omega))).trans (putObj_below _ _ _ (by omega))⟩
  case stop => 
    rintro D c k W _ _ h _
    exact h.elim
end Go.Proofs.YtbogpbjddaoeiaaGreatDoor
