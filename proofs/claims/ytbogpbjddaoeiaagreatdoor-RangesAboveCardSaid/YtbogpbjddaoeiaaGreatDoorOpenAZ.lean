import Derived.Test.YtbogpbjddaoeiaaGreatDoorOpenDZ
namespace Go.Proofs.YtbogpbjddaoeiaaGreatDoor
open Go.ChangeShapes Go.WideShapes Go.RowKit Go.Deep
set_option maxRecDepth 100000 in
/-- '[2]int8'. -/
theorem open_duo {H : Type} {enc : TypeId × Value → H} {w : World} {spare : Nat → Bool} {held : Bool} {base : Nat} {r : Reach} {b0 : Nat} {e q : TypeId} {v : Value} {d : DataW H} {ps : List MemPlace}
    (he : Tryz.prog.underlying e = some (.array 2 q)) (hq : Tryz.prog.underlying q = some (.int .i8)) (ce : Tryz.prog.cellsOf e = 2) (cq : Tryz.prog.cellsOf q = 1)
    (hv : Value.okWide Tryz.prog w r b0 e v) (h : DataW.Trod enc Tryz.prog w base spare held e v d ps) : ∃ a b : Int, v = .agg #[.int .i8 a, .int .i8 b] ∧ okDuo (a, b) := by
  simp only [Value.okWide, he] at hv
  obtain ⟨cs, rfl, hsz, _⟩ := hv
  obtain ⟨fuel, hf⟩ := h
  obtain ⟨xs, k, _, _, _, hxl, hel⟩ := DataW.trod_array he hf
  rw [cq] at hel
  obtain ⟨l⟩ := cs
  have hl : l.length = 2 := by rw [ce] at hsz; simpa using hsz
  match xs, hxl, l, hl with
  | [y0, y1], _, [u0, u1], _ =>
    have g0 := hel 0 (by omega)
    have g1 := hel 1 (by omega)
    simp [Value.cells] at g0 g1
    obtain ⟨x, hx, _, hwx⟩ := DataW.trod_int hq g0
    obtain ⟨y, hy, _, hwy⟩ := DataW.trod_int hq g1
    simp only [List.cons.injEq, and_true] at hx hy
    have b0 := bounds_i8 hwx
    have b1 := bounds_i8 hwy
    exact ⟨x, y, by rw [hx, hy], b0.1, b0.2, b1.1, b1.2⟩
end Go.Proofs.YtbogpbjddaoeiaaGreatDoor
