import Derived.Test.YtbogpbjddaoeiaaGreatDoorDiv2Z
import Derived.Test.YtbogpbjddaoeiaaGreatDoorMathZ
import Derived.Laws.AppendOwnNone
namespace Go.Proofs.YtbogpbjddaoeiaaGreatDoor
open Go.RowKit
theorem U64s.drew {w : World} {v : Value} {xs : List Nat} (h : U64s w v xs) : U64s w.drew v xs := h
/-- a slice that does not lie in block G -/
def Apart (G : Nat) (v : Value) : Prop := ∀ a n c, v = .slice (some a) n c → a.block ≠ G
theorem U64s.store {w : World} {G : Nat} {v : Value} {xs : List Nat} (h : U64s w v xs) (hf : Apart G v) {a : Addr} (ha : a.block = G) (u : Value) : U64s (w.setCell a u) v xs := by
  obtain ⟨hl, p, c, rfl, hc, hm, hx⟩ := h
  refine ⟨hl, p, c, rfl, hc, hm, fun h0 => ?_⟩
  obtain ⟨b, off, rfl, hb, hcell⟩ := hx h0
  have hB := hf _ _ _ rfl
  refine ⟨b, off, rfl, by simpa [World.setCell] using hb, fun i hi => ?_⟩
  rw [World.cell?_of_block (Below.heap_setCell w a u b (by rw [ha]; exact hB))]
  exact hcell i hi
theorem Apart.of_fresh {G : Nat} {v : Value} (h : Fresh (G + 1) v) : Apart G v := fun a n c hv => by have := h.1 a n c hv; omega
theorem Apart.of_u64s {w : World} {v : Value} {xs : List Nat} (h : U64s w v xs) {G : Nat} (hG : w.heap.size ≤ G) (h0 : 0 < xs.length) : Apart G v := fun a n c hv => by
  subst hv
  obtain ⟨_, _, e, _⟩ := h.slice
  cases e
  obtain ⟨b, off, e, hb, _⟩ := h.cells h0
  cases e
  show b ≠ G
  omega
theorem one_owned (w : World) (x : Nat) : (w.alloc (Obj.cells #[Value.int .u64 (x : Int)] 231)).ownsRow w.heap.size 231 1 (.slice (some ⟨w.heap.size, 0, none⟩) 1 1) 1 ([x].map pc64) :=
  ⟨rfl, .inr ⟨w.heap.size, 1, #[Value.int .u64 (x : Int)], rfl, Nat.le_refl _, World.alloc_heap_new w _, Nat.le_refl _, by unfold maxLen; omega, rfl, rfl⟩⟩
theorem pc64_one {xs : List Nat} : ∀ u ∈ xs.map pc64, u.oneCell' = true := by
  intro u hu
  obtain ⟨x, _, rfl⟩ := List.mem_map.1 hu
  rfl
/-- 'append(s, r...)' onto a slice of the call's own, r nil, empty or not. -/
theorem app_src {ops : Array Oper} {rest : List Oper} {o : Oper} {a : Act} {Q : Exit → Act → World → Prop} {w : World}
    (hgd : o.guard = none) (s x : Operand) (ho : o.op = .call { callee := .builtin .append, args := #[s, x], argTypes := #[190, 190] })
    (base : Nat) (v : Value) (n : Nat) (xs : List Value) (hs : a.eval s = v) (hown : w.ownsRow base 231 1 v n xs)
    (sv : Value) (ys : List Nat) (hx : a.eval x = sv) (hr : U64s w sv ys) (hnil : ∀ n c, sv = .slice none n c → n = 0 ∧ c = 0)
    (hn : (n + ys.length) * 8 ≤ 140737488355328) (hbase : base ≤ w.heap.size)
    (h : ∀ v' w', w'.ownsRow base 231 1 v' (n + ys.length) (xs ++ ys.map pc64) → Below base w w' → wpList Tryz.prog ops Q rest (a.put o.dst v') w') : wpList Tryz.prog ops Q (o :: rest) a w := by
  obtain ⟨i, hi, hz0, hz1, hz2⟩ := info_parts sl64.info
  obtain ⟨p, c, rfl, hc, hm⟩ := hr.slice
  cases p with
  | none =>
    obtain ⟨h1, h2⟩ := hnil _ _ rfl
    have hy : ys = [] := List.eq_nil_of_length_eq_zero h1
    subst hy h2
    refine wpList_append_own_none hgd s x _ ho base _ i 1 sl64.ht hi v n xs hs hown hx ?_
    exact h v w (by simpa using hown) (Below.refl _ _)
  | some ad =>
    refine wpList_append_own _ hgd s x _ ho base _ i (.int .u64 0) 1 8 sl64.ht hi hz0 hz1 hz2 rfl (by decide) v n xs hs hown ad ys.length c (ys.map pc64) hx (by simp) ?_ pc64_one (by unfold maxLen; omega) hn hbase ?_
    · intro j u hj
      have hjl : j < ys.length := by
        have := (List.getElem?_eq_some_iff.1 hj).1
        simpa using this
      obtain ⟨b, off, e, hb, hcell⟩ := hr.cells (by omega)
      cases e
      rw [List.getElem?_map, List.getElem?_eq_getElem hjl, Option.map_some] at hj
      have := hcell j hjl
      have e2 : (⟨b, off, none⟩ : Addr).add j = ⟨b, off + j, none⟩ := by
        unfold Addr.add; split
        · rename_i h; rw [h]; rfl
        · rfl
      rw [e2, this]
      exact hj
    · intro v' w' h2 h3 _
      exact h v' w' h2 ((Below.refl _ _).grown h3 hbase (fun k hk => (hown.lt k hk).1))
/-- between two rounds: M and N are the scaled numbers, j pieces are still to come -/
structure LongInv (w : World) (bv av : Value) (G len M N j : Nat) (rv : Value) (W : World) : Prop where
  jle : j ≤ len
  leq : (pcs M).length = len
  box : W.cell? ⟨w.heap.size, 0, none⟩ = some bv
  q : W.cell? ⟨w.heap.size + 1, 0, none⟩ = some (.slice (some ⟨G, 0, none⟩) len len)
  qf : W.frozen? ⟨w.heap.size + 1, 0, none⟩ = false
  row : ∃ ys, W.ownsRow G 231 1 (.slice (some ⟨G, 0, none⟩) len len) len ((List.replicate j 0 ++ ys).map pc64) ∧ QRow (pcs M) N j ys
  a : U64s W av (pcs M)
  b : U64s W bv (pcs N)
  r : U64s W rv (pcs (val ((pcs M).drop j) % N))
  aG : Apart G av
  bG : Apart G bv
  rF : Fresh (G + 1) rv
  low : Below w.heap.size w W
  G2 : w.heap.size + 2 ≤ G
  size : G < W.heap.size
theorem LongInv.start {w W : World} {bv av : Value} {G len M N : Nat} (hl : (pcs M).length = len) (h1 : W.cell? ⟨w.heap.size, 0, none⟩ = some bv) (h2 : W.cell? ⟨w.heap.size + 1, 0, none⟩ = some (.slice (some ⟨G, 0, none⟩) len len))
    (h3 : W.frozen? ⟨w.heap.size + 1, 0, none⟩ = false) (h4 : W.ownsRow G 231 1 (.slice (some ⟨G, 0, none⟩) len len) len ((List.replicate len 0).map pc64)) (h5 : U64s W av (pcs M)) (h6 : U64s W bv (pcs N))
    (h7 : Apart G av) (h8 : Apart G bv) (h9 : Below w.heap.size w W) (h10 : w.heap.size + 2 ≤ G) (h11 : G < W.heap.size) : LongInv w bv av G len M N len (.slice none 0 0) W :=
  ⟨Nat.le_refl _, hl, h1, h2, h3, ⟨[], by simpa using h4, by rw [← hl]; exact QRow.start _ _⟩, h5, h6, by rw [List.drop_of_length_le (by omega)]; simp [val, pcs_zero]; exact U64s.nil W, h7, h8, Fresh.none _, h9, h10, h11⟩
/-- worlds in which all that lay there lies as it lay -/
theorem LongInv.below {w W W' : World} {bv av : Value} {G len M N j : Nat} {rv : Value} (h : LongInv w bv av G len M N j rv W) (hb : Below W.heap.size W W') : LongInv w bv av G len M N j rv W' := by
  obtain ⟨a1, a0, a2, a3, a4, ⟨ys, a5, a6⟩, a7, a8, a9, a10, a11, a12, a13, a14, a15⟩ := h
  have hs := a13.size
  refine ⟨a1, a0, ?_, ?_, ?_, ⟨ys, owns_below a5 hb, a6⟩, a7.below hb, a8.below hb, a9.below hb, a10, a11, a12, a13.trans (hb.mono hs), a14, Nat.lt_of_lt_of_le a15 hb.size⟩
  · rw [hb.cell (by simp; omega)]; exact a2
  · rw [hb.cell (by simp; omega)]; exact a3
  · rw [hb.frozen (by simp; omega)]; exact a4
theorem LongInv.drew {w W : World} {bv av : Value} {G len M N j : Nat} {rv : Value} (h : LongInv w bv av G len M N j rv W) : LongInv w bv av G len M N j rv W.drew := h.below (Below.refl _ _).drew
/-- a round in which the rest is less than the divisor -/
theorem LongInv.skip {w W : World} {bv av : Value} {G len M N j : Nat} {rv rv' : Value} {x : Nat} (h : LongInv w bv av G len M N (j + 1) rv W) (hx : (pcs M)[j]? = some x) (hN : 0 < N)
    (hlt : x + 1000000000 * (val ((pcs M).drop (j + 1)) % N) < N) (hr : U64s W rv' (pcs (x + 1000000000 * (val ((pcs M).drop (j + 1)) % N)))) (hF : Fresh (G + 1) rv') : LongInv w bv av G len M N j rv' W := by
  obtain ⟨a1, a0, a2, a3, a4, ⟨ys, a5, a6⟩, a7, a8, a9, a10, a11, a12, a13, a14, a15⟩ := h
  obtain ⟨hj, hxe⟩ := List.getElem?_eq_some_iff.1 hx
  have e1 := rest_step (n := N) hj
  have e2 := a6.step hN (pcs_lt M) hj
  rw [hxe, Nat.mul_comm, Nat.add_comm] at e1 e2
  rw [Nat.mod_eq_of_lt hlt] at e1
  rw [Nat.div_eq_of_lt hlt] at e2
  refine ⟨by omega, a0, a2, a3, a4, ⟨0 :: ys, ?_, e2⟩, a7, a8, by rw [← e1]; exact hr, a10, a11, hF, a13, a14, a15⟩
  rw [show List.replicate j 0 ++ 0 :: ys = List.replicate (j + 1) 0 ++ ys by rw [List.replicate_succ']; simp]
  exact a5
/-- a round that lays a digit of the quotient -/
theorem LongInv.digit {w W : World} {bv av : Value} {G len M N j : Nat} {rv rv' : Value} {x : Nat} (h : LongInv w bv av G len M N (j + 1) rv W) (hx : (pcs M)[j]? = some x) (hN : 0 < N) {D : Int}
    (hD : D = (((x + 1000000000 * (val ((pcs M).drop (j + 1)) % N)) / N : Nat) : Int)) (hr : U64s W rv' (pcs ((x + 1000000000 * (val ((pcs M).drop (j + 1)) % N)) % N))) (hF : Fresh (G + 1) rv') :
    LongInv w bv av G len M N j rv' (W.setCell ⟨G, j, none⟩ (.int .u64 D)) := by
  obtain ⟨a1, a0, a2, a3, a4, ⟨ys, a5, a6⟩, a7, a8, a9, a10, a11, a12, a13, a14, a15⟩ := h
  obtain ⟨hj, hxe⟩ := List.getElem?_eq_some_iff.1 hx
  have e1 := rest_step (n := N) hj
  have e2 := a6.step hN (pcs_lt M) hj
  rw [hxe, Nat.mul_comm, Nat.add_comm] at e1 e2
  refine ⟨by omega, a0, ?_, ?_, ?_, ⟨_, ?_, e2⟩, a7.store a10 rfl _, a8.store a11 rfl _, ?_, a10, a11, hF, a13.setCell (p := ⟨G, j, none⟩) (by simp; omega) _, a14, by simpa [World.setCell] using a15⟩
  · rw [cell_setCell_ne _ _ (.inl (by simp; omega))]; exact a2
  · rw [cell_setCell_ne _ _ (.inl (by simp; omega))]; exact a3
  · rw [World.frozen?_setCell]; exact a4
  · rw [← set_zeros]; exact stored_u64 a5 j hD
  · rw [← e1]; exact hr.store (Apart.of_fresh hF) rfl _
theorem est_val {D0 tt : Nat} (h : D0 < 1000000000000000000) : min (IntKind.u64.wrap ((D0 : Int) / (tt : Int))) 999999999 = ((min (D0 / tt) 999999999 : Nat) : Int) := by
  have h1 : D0 / tt ≤ D0 := Nat.div_le_self _ _
  rw [← Int.natCast_ediv]
  generalize D0 / tt = q at *
  rw [IntWalk.u64_in _ (by omega)]
  omega
theorem est_val2 {D0 tt : Nat} : min ((D0 : Int) / (tt : Int)) 999999999 = ((min (D0 / tt) 999999999 : Nat) : Int) := by
  rw [← Int.natCast_ediv]
  omega
theorem est_ok {R N J D0 tt : Nat} (hD : D0 = R / 1000000000 ^ J) (ht : tt = N / 1000000000 ^ J) (h0 : tt ≠ 0) (hR : R < N * 1000000000) : R / N ≤ min (D0 / tt) 999999999 := by
  have h1 : R / N ≤ D0 / tt := by rw [hD, ht]; exact est_ge (by omega)
  have h2 := quo_lt hR
  omega
theorem cmpI_nat_gt (a b : Nat) : decide (0 < cmpI (a : Int) b) = decide (b < a) := by
  unfold cmpI; split
  · simp; omega
  · split
    · simp; omega
    · simp; omega
theorem LongInv.cell {w W : World} {bv av : Value} {G len M N j k : Nat} {rv : Value} (h : LongInv w bv av G len M N j rv W) (hk : k < len) : (∃ u, W.cell? ⟨G, k, none⟩ = some u) ∧ W.frozen? ⟨G, k, none⟩ = false := by
  obtain ⟨ys, h1, h2⟩ := h.row
  have hl : (List.replicate j 0 ++ ys).length = len := by
    have := h2.1
    have := h.leq
    simp; omega
  refine ⟨?_, h1.frozenAt k⟩
  have := h1.cellAt k (by omega)
  rw [List.getElem?_map, List.getElem?_eq_getElem (by omega)] at this
  exact ⟨_, this⟩
end Go.Proofs.YtbogpbjddaoeiaaGreatDoor
