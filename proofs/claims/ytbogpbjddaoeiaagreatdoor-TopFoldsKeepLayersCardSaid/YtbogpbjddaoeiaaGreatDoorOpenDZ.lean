import Derived.Test.YtbogpbjddaoeiaaGreatDoorOpenKZ
import Derived.Test.YtbogpbjddaoeiaaGreatDoorPtsZ
import Derived.OpenShut
namespace Go.Proofs.YtbogpbjddaoeiaaGreatDoor
open Go.ChangeShapes Go.WideShapes Go.RowKit Go.Deep
set_option maxRecDepth 100000 in
/-- '[][2]int8'. -/
theorem open_duos {H : Type} {enc : TypeId × Value → H} {w : World} {spare : Nat → Bool} {held : Bool} {base : Nat} {r : Reach} {b0 : Nat} {t e q : TypeId} {v : Value} {d : DataW H} {ps : List MemPlace}
    (ht : Tryz.prog.underlying t = some (.slice e)) (he : Tryz.prog.underlying e = some (.array 2 q)) (hq : Tryz.prog.underlying q = some (.int .i8)) (ce : Tryz.prog.cellsOf e = 2) (cq : Tryz.prog.cellsOf q = 1)
    (hv : Value.okWide Tryz.prog w r b0 t v) (h : DataW.Trod enc Tryz.prog w base spare held t v d ps) : ∃ D : List Duo, Duos w v D := by
  obtain ⟨a0, len0, cap0, rfl⟩ := okWide_slice ht hv
  obtain ⟨fuel, hf⟩ := h
  rcases open_slice ht hf with ⟨hcs, _⟩ | ⟨a, len, cap, m, n, D, Pl, hcs, _, hl, hm, hmm, _, hi⟩
  · simp only [Value.cells, List.cons.injEq, Value.slice.injEq, and_true] at hcs
    obtain ⟨rfl, rfl, rfl⟩ := hcs
    exact ⟨[], none, 0, rfl, Nat.zero_le _, Nat.zero_le _, fun h => absurd h (by simp)⟩
  · simp only [Value.cells, List.cons.injEq, Value.slice.injEq, and_true] at hcs
    obtain ⟨rfl, rfl, rfl⟩ := hcs
    have hle : len0 ≤ m := by rw [hmm]; split <;> omega
    have hint : ∀ i, i < len0 → ∃ d : Duo, okDuo d ∧ w.cell? (a.add (i * 2)) = some (.int .i8 d.1) ∧ w.cell? (a.add (i * 2 + 1)) = some (.int .i8 d.2) := by
      intro i him
      obtain ⟨cs', h1, h2⟩ := hi i (by omega)
      rw [ce] at h1
      obtain ⟨_, hlen, hcell⟩ := World.cells?_some h1
      obtain ⟨xs, k, _, _, _, hxl, hel⟩ := DataW.trod_array he h2
      rw [cq] at hel
      match xs, hxl, cs', hlen with
      | [y0, y1], _, [u0, u1], _ =>
        have g0 := hel 0 (by omega)
        have g1 := hel 1 (by omega)
        simp at g0 g1
        obtain ⟨x, hx, _, hwx⟩ := DataW.trod_int hq g0
        obtain ⟨y, hy, _, hwy⟩ := DataW.trod_int hq g1
        simp only [List.cons.injEq, and_true] at hx hy
        have e0 := hcell 0 (by omega)
        have e1 := hcell 1 (by omega)
        rw [add_add] at e0 e1
        have b0 := bounds_i8 hwx
        have b1 := bounds_i8 hwy
        exact ⟨(x, y), ⟨b0.1, b0.2, b1.1, b1.2⟩, by simpa [hx] using e0, by simpa [hy] using e1⟩
    obtain ⟨g, hg⟩ := choose_lt hint
    refine ⟨(List.range len0).map g, some a, cap0, by simp, by simpa using hl, hm, fun h0 => ?_⟩
    have h0' : 0 < len0 := by simpa using h0
    have e0 := (hg 0 h0').2.1
    rw [Nat.zero_mul] at e0
    have ea := spot_none e0
    refine ⟨a.block, a.off, congrArg some ea, ?_, fun i hil => ?_⟩
    · exact World.block_lt_of_cell? w a (u := .int .i8 (g 0).1) (by simpa [Addr.add] using e0)
    · have hil' : i < len0 := by simpa using hil
      obtain ⟨q0, q1, q2⟩ := hg i hil'
      rw [ea, add_none] at q1 q2
      simp only [List.getElem_map, List.getElem_range]
      refine ⟨q0, q1, ?_⟩
      rw [show a.off + i * 2 + 1 = a.off + (i * 2 + 1) by omega, q2]
end Go.Proofs.YtbogpbjddaoeiaaGreatDoor
