import Derived.Test.YtbogpbjddaoeiaaGreatDoorMakesLZ
import Derived.Test.YtbogpbjddaoeiaaGreatDoorMakesRZ
import Derived.Test.YtbogpbjddaoeiaaGreatDoorMakesWZ
namespace Go.Proofs.YtbogpbjddaoeiaaGreatDoor
open Go.RowKit Go.Shelf
open Go.Lib (decDigits itoa nDigits)
set_option maxRecDepth 100000 in
set_option maxHeartbeats 4000000 in
theorem law_RangesMakes (hT : NeqT 33) (v u : Value) (L : List Pair) (D : List Duo) (w : World) (hw : Good w) (hv : Pairs w v L) (hu : Duos w u D) :
    Calls Tryz.prog 3 #[v, u] w (RetT w) := by
  have HKN := Lib.hid (fun w' (hb : Below w.heap.size w w') => law_known w' (hw.below hb))
  have HS1 := Lib.hid (fun w' (hb : Below w.heap.size w w') => law_short v L w' (hv.below hb))
  cases h1 : shortB L
  · have H1 := Lib.hid h1
    obtain ⟨p, c, rfl, _⟩ := hv
    obtain ⟨p2, c2, rfl, _⟩ := hu
    clear h1
    go_enter Tryz.func3, Tryz.ntmps3
    go_wp2_with fail
    refine (HKN.out w (Below.refl _ _)).mono ?_
    rintro e w1 ⟨rfl, hb1⟩
    go_wp2_with fail
    refine (HS1.out w1 hb1).mono ?_
    rintro e w2 ⟨rfl, hb2⟩
    rw [H1.out]
    have hb02 := hb1.trans (hb2.mono hb1.size)
    go_wp2_with fail
    refine (HKN.out w2 hb02).mono ?_
    rintro e w3 ⟨rfl, hb3⟩
    go_wp2
    go_ret
    exact ⟨rfl, hb02.trans (hb3.mono hb02.size)⟩
  · by_cases h2 : 200 < L.length
    · exact makes_long hT v u L D w hw hv hu h1 h2
    · by_cases he : ofErrs L = 0
      · exact makes_right hT v u L D w hw hv hu h1 h2 he
      · exact makes_wrong hT v u L D w hw hv hu h1 h2 he
end Go.Proofs.YtbogpbjddaoeiaaGreatDoor
