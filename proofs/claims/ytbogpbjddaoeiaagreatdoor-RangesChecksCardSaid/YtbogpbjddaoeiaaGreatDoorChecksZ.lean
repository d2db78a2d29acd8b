import Derived.Test.YtbogpbjddaoeiaaGreatDoorPlainQZ
import Derived.Test.YtbogpbjddaoeiaaGreatDoorLawKZ
import Derived.Test.YtbogpbjddaoeiaaGreatDoorJoinZ
import Derived.Test.YtbogpbjddaoeiaaGreatDoorEqZ
namespace Go.Proofs.YtbogpbjddaoeiaaGreatDoor
open Go.RowKit Go.Shelf
open Go.Lib (decDigits itoa nDigits)
set_option maxRecDepth 100000 in
set_option maxHeartbeats 8000000 in
theorem law_RangesChecks (hT : NeqT 33) (v u : Value) (L M : List Pair) (w : World) (hw : Good w) (hv : Pairs w v L) (hu : Pairs w u M) :
    Calls Tryz.prog 12 #[v, u] w fun e w' => e = .returned (.bool true) ∧ Below w.heap.size w w' := by
  have hkn := fun w' (hb : Below w.heap.size w w') => law_known w' (hw.below hb)
  have HKN := Lib.hid hkn
  have hs1 := fun w' (hb : Below w.heap.size w w') => law_short v L w' (hv.below hb)
  have HS1 := Lib.hid hs1
  have hs2 := fun w' (hb : Below w.heap.size w w') => law_short u M w' (hu.below hb)
  have HS2 := Lib.hid hs2
  clear hkn hs1 hs2
  cases h1 : shortB L
  · have H1 := Lib.hid h1
    clear h1 hv hu
    go_enter Tryz.func12, Tryz.ntmps12
    go_wp2_with fail
    refine (HKN.out w (Below.refl _ _)).mono ?_
    rintro e w1 ⟨rfl, hb1⟩
    go_wp2_with fail
    refine (HS1.out w1 hb1).mono ?_
    rintro e w2 ⟨rfl, hb2⟩
    rw [H1.out]
    have hb02 := hb1.trans (hb2.mono hb1.size)
    go_wp2_with fail
    refine (HKN.out w2 hb02).mono ?_
    rintro e w3 ⟨rfl, hb3⟩
    go_wp2
    go_ret
    exact ⟨rfl, hb02.trans (hb3.mono hb02.size)⟩
  · have H1 := Lib.hid h1
    cases h2 : shortB M
    · have H2 := Lib.hid h2
      clear h1 h2 hv hu
      go_enter Tryz.func12, Tryz.ntmps12
      go_wp2_with fail
      refine (HKN.out w (Below.refl _ _)).mono ?_
      rintro e w1 ⟨rfl, hb1⟩
      go_wp2_with fail
      refine (HS1.out w1 hb1).mono ?_
      rintro e w2 ⟨rfl, hb2⟩
      rw [H1.out]
      have hb02 := hb1.trans (hb2.mono hb1.size)
      go_wp2_with fail
      refine (HS2.out w2 hb02).mono ?_
      rintro e w2' ⟨rfl, hb2'⟩
      rw [H2.out]
      have hb02' := hb02.trans (hb2'.mono hb02.size)
      go_wp2_with fail
      refine (HKN.out w2' hb02').mono ?_
      rintro e w3 ⟨rfl, hb3⟩
      go_wp2
      go_ret
      exact ⟨rfl, hb02'.trans (hb3.mono hb02'.size)⟩
    · have H2 := Lib.hid h2
      have hz1 := shortB_sz h1
      have hz2 := shortB_sz h2
      have hc1 := fun w' (hb : Below w.heap.size w w') => law_check v L w' (hw.below hb) (hv.below hb) hz1
      have HC1 := Lib.hid hc1
      have hc2 := fun w' (hb : Below w.heap.size w w') => law_check u M w' (hw.below hb) (hu.below hb) hz2
      have HC2 := Lib.hid hc2
      have hr1 := fun w' (hb : Below w.heap.size w w') => ranges_Check v L w' (hw.below hb) (hv.below hb) hz1
      have HR1 := Lib.hid hr1
      have he1 := fun w' (hb : Below w.heap.size w w') => ranges_Equal hT v u L M w' (hv.below hb) (hu.below hb)
      have HE1 := Lib.hid he1
      have he2 := fun w' (hb : Below w.heap.size w w') => law_same hT v u L M w' (hv.below hb) (hu.below hb)
      have HE2 := Lib.hid he2
      have he3 := fun w' (hb : Below w.heap.size w w') => ranges_Equal hT v v L L w' (hv.below hb) (hv.below hb)
      have HE3 := Lib.hid he3
      have HT := Lib.hid (show decide (L = L) = true from decide_eq_true rfl)
      obtain ⟨q, hq⟩ : ∃ q : Bool, decide (L = M) = q := ⟨_, rfl⟩
      have HQ := Lib.hid hq
      have HV := Lib.hid hv
      have HU := Lib.hid hu
      have HZ1 := Lib.hid hz1
      have HZ2 := Lib.hid hz2
      clear hc1 hc2 hr1 he1 he2 he3 hq h1 h2 hz1 hz2 hv hu hT
      by_cases h0 : checkErr L = 0
      · have H0 := Lib.hid h0
        by_cases h0' : checkErr M = 0
        · have H0' := Lib.hid h0'
          clear h0 h0'
          go_enter Tryz.func12, Tryz.ntmps12
          go_wp2_with fail
          refine (HKN.out w (Below.refl _ _)).mono ?_
          rintro e w1 ⟨rfl, hb1⟩
          go_wp2_with fail
          refine (HS1.out w1 hb1).mono ?_
          rintro e w2 ⟨rfl, hb2⟩
          rw [H1.out]
          have hb02 := hb1.trans (hb2.mono hb1.size)
          go_wp2_with fail
          refine (HS2.out w2 hb02).mono ?_
          rintro e w3 ⟨rfl, hb3⟩
          rw [H2.out]
          have hb03 := hb02.trans (hb3.mono hb02.size)
          go_wp2_with fail
          refine (HC1.out w3 hb03).mono ?_
          rintro e w4 ⟨rfl, hb4⟩
          rw [H0.out]
          have hb04 := hb03.trans (hb4.mono hb03.size)
          go_wp2_with fail
          refine (HC1.out w4 hb04).mono ?_
          rintro e w5 ⟨rfl, hb5⟩
          rw [H0.out]
          have hb05 := hb04.trans (hb5.mono hb04.size)
          go_wp2_with fail
          refine (HC2.out w5 hb05).mono ?_
          rintro e w6 ⟨rfl, hb6⟩
          rw [H0'.out]
          have hb06 := hb05.trans (hb6.mono hb05.size)
          go_wp2_with fail
          refine (HR1.out w6 hb06).mono ?_
          rintro e w7 ⟨rfl, hb7⟩
          rw [H0.out]
          have hb07 := hb06.trans (hb7.mono hb06.size)
          go_wp2_with fail
          refine (HE1.out w7 hb07).mono ?_
          rintro e w8 ⟨rfl, hb8⟩
          rw [HQ.out]
          have hb08 := hb07.trans (hb8.mono hb07.size)
          go_wp2_with fail
          refine (HE2.out w8 hb08).mono ?_
          rintro e w8' ⟨rfl, hb8'⟩
          rw [HQ.out]
          have hb08' := hb08.trans (hb8'.mono hb08.size)
          go_wp2_with fail
          refine (HE3.out w8' hb08').mono ?_
          rintro e w9 ⟨rfl, hb9⟩
          rw [HT.out]
          have hb09 := hb08'.trans (hb9.mono hb08'.size)
          go_wp2
          go_ret
          exact ⟨rfl, hb09⟩
        · obtain ⟨pe, hpe⟩ : ∃ pe, checkErr M = pe := ⟨_, rfl⟩
          have HPE := Lib.hid hpe
          have HB := Lib.hid (show bothErr L M = pe by unfold bothErr; rw [if_pos h0, hpe])
          have HBN := Lib.hid (show bothErr L M ≠ 0 by rw [HB.out, ← hpe]; exact h0')
          have n1 : (pe == 0) = false := by rw [← hpe]; simpa using h0'
          have n2 : (pe != 0) = true := by rw [← hpe]; simpa using h0'
          have H0' := Lib.hid hpe
          clear h0 h0' hpe
          go_enter Tryz.func12, Tryz.ntmps12
          go_wp2_with fail
          refine (HKN.out w (Below.refl _ _)).mono ?_
          rintro e w1 ⟨rfl, hb1⟩
          go_wp2_with fail
          refine (HS1.out w1 hb1).mono ?_
          rintro e w2 ⟨rfl, hb2⟩
          rw [H1.out]
          have hb02 := hb1.trans (hb2.mono hb1.size)
          go_wp2_with fail
          refine (HS2.out w2 hb02).mono ?_
          rintro e w3 ⟨rfl, hb3⟩
          rw [H2.out]
          have hb03 := hb02.trans (hb3.mono hb02.size)
          go_wp2_with fail
          refine (HC1.out w3 hb03).mono ?_
          rintro e w4 ⟨rfl, hb4⟩
          rw [H0.out]
          have hb04 := hb03.trans (hb4.mono hb03.size)
          go_wp2_with fail
          refine (HC1.out w4 hb04).mono ?_
          rintro e w5 ⟨rfl, hb5⟩
          rw [H0.out]
          have hb05 := hb04.trans (hb5.mono hb04.size)
          go_wp2_with fail
          refine (HC2.out w5 hb05).mono ?_
          rintro e w6 ⟨rfl, hb6⟩
          rw [H0'.out]
          have hb06 := hb05.trans (hb6.mono hb05.size)
          go_wp2_with fail
          refine (HR1.out w6 hb06).mono ?_
          rintro e w7 ⟨rfl, hb7⟩
          rw [H0.out]
          have hb07 := hb06.trans (hb7.mono hb06.size)
          go_wp2_with fail
          refine (HE1.out w7 hb07).mono ?_
          rintro e w8 ⟨rfl, hb8⟩
          rw [HQ.out]
          have hb08 := hb07.trans (hb8.mono hb07.size)
          go_wp2_with fail
          refine (HE2.out w8 hb08).mono ?_
          rintro e w8' ⟨rfl, hb8'⟩
          rw [HQ.out]
          have hb08' := hb08.trans (hb8'.mono hb08.size)
          go_wp2_with fail
          refine (HE3.out w8' hb08').mono ?_
          rintro e w9 ⟨rfl, hb9⟩
          rw [HT.out]
          have hb09 := hb08'.trans (hb9.mono hb08'.size)
          go_wp2_with fail
          refine (union_err v u L M w9 (hw.below hb09) (HV.out.below hb09) (HU.out.below hb09) HZ1.out HZ2.out HBN.out).mono ?_
          rintro e w10 ⟨rfl, hbx10⟩
          rw [HB.out]
          have hb10 := hb09.trans (hbx10.mono hb09.size)
          go_wp2_with fail
          refine (intersect_err v u L M w10 (hw.below hb10) (HV.out.below hb10) (HU.out.below hb10) HZ1.out HZ2.out HBN.out).mono ?_
          rintro e w11 ⟨rfl, hbx11⟩
          rw [HB.out]
          have hb11 := hb10.trans (hbx11.mono hb10.size)
          go_wp2_with fail
          refine (subtract_err v u L M w11 (hw.below hb11) (HV.out.below hb11) (HU.out.below hb11) HZ1.out HZ2.out HBN.out).mono ?_
          rintro e w12 ⟨rfl, hbx12⟩
          rw [HB.out]
          have hb12 := hb11.trans (hbx12.mono hb11.size)
          go_wp2_with fail
          refine (within_err v u L M w12 (hw.below hb12) (HV.out.below hb12) (HU.out.below hb12) HZ1.out HZ2.out HBN.out).mono ?_
          rintro e w13 ⟨rfl, hbx13⟩
          rw [HB.out]
          have hb13 := hb12.trans (hbx13.mono hb12.size)
          go_wp2
          go_ret
          exact ⟨rfl, hb13⟩
      · obtain ⟨pe, hpe⟩ : ∃ pe, checkErr L = pe := ⟨_, rfl⟩
        have HPE := Lib.hid hpe
        have HB := Lib.hid (show bothErr L M = pe by unfold bothErr; rw [if_neg h0, hpe])
        have HBN := Lib.hid (show bothErr L M ≠ 0 by rw [HB.out, ← hpe]; exact h0)
        have n1 : (pe == 0) = false := by rw [← hpe]; simpa using h0
        have n2 : (pe != 0) = true := by rw [← hpe]; simpa using h0
        have H0 := Lib.hid hpe
        have HLN := Lib.hid h0
        clear h0 hpe
        go_enter Tryz.func12, Tryz.ntmps12
        go_wp2_with fail
        refine (HKN.out w (Below.refl _ _)).mono ?_
        rintro e w1 ⟨rfl, hb1⟩
        go_wp2_with fail
        refine (HS1.out w1 hb1).mono ?_
        rintro e w2 ⟨rfl, hb2⟩
        rw [H1.out]
        have hb02 := hb1.trans (hb2.mono hb1.size)
        go_wp2_with fail
        refine (HS2.out w2 hb02).mono ?_
        rintro e w3 ⟨rfl, hb3⟩
        rw [H2.out]
        have hb03 := hb02.trans (hb3.mono hb02.size)
        go_wp2_with fail
        refine (HC1.out w3 hb03).mono ?_
        rintro e w4 ⟨rfl, hb4⟩
        rw [H0.out]
        have hb04 := hb03.trans (hb4.mono hb03.size)
        go_wp2_with fail
        refine (HC1.out w4 hb04).mono ?_
        rintro e w5 ⟨rfl, hb5⟩
        rw [H0.out]
        have hb05 := hb04.trans (hb5.mono hb04.size)
        go_wp2_with fail
        refine (HR1.out w5 hb05).mono ?_
        rintro e w7 ⟨rfl, hb7⟩
        rw [H0.out]
        have hb07 := hb05.trans (hb7.mono hb05.size)
        go_wp2_with fail
        refine (HE1.out w7 hb07).mono ?_
        rintro e w8 ⟨rfl, hb8⟩
        rw [HQ.out]
        have hb08 := hb07.trans (hb8.mono hb07.size)
        go_wp2_with fail
        refine (HE2.out w8 hb08).mono ?_
        rintro e w8' ⟨rfl, hb8'⟩
        rw [HQ.out]
        have hb08' := hb08.trans (hb8'.mono hb08.size)
        go_wp2_with fail
        refine (HE3.out w8' hb08').mono ?_
        rintro e w9 ⟨rfl, hb9⟩
        rw [HT.out]
        have hb09 := hb08'.trans (hb9.mono hb08'.size)
        go_wp2_with fail
        refine (union_err v u L M w9 (hw.below hb09) (HV.out.below hb09) (HU.out.below hb09) HZ1.out HZ2.out HBN.out).mono ?_
        rintro e w10 ⟨rfl, hbx10⟩
        rw [HB.out]
        have hb10 := hb09.trans (hbx10.mono hb09.size)
        go_wp2_with fail
        refine (intersect_err v u L M w10 (hw.below hb10) (HV.out.below hb10) (HU.out.below hb10) HZ1.out HZ2.out HBN.out).mono ?_
        rintro e w11 ⟨rfl, hbx11⟩
        rw [HB.out]
        have hb11 := hb10.trans (hbx11.mono hb10.size)
        go_wp2_with fail
        refine (subtract_err v u L M w11 (hw.below hb11) (HV.out.below hb11) (HU.out.below hb11) HZ1.out HZ2.out HBN.out).mono ?_
        rintro e w12 ⟨rfl, hbx12⟩
        rw [HB.out]
        have hb12 := hb11.trans (hbx12.mono hb11.size)
        go_wp2_with fail
        refine (within_err v u L M w12 (hw.below hb12) (HV.out.below hb12) (HU.out.below hb12) HZ1.out HZ2.out HBN.out).mono ?_
        rintro e w13 ⟨rfl, hbx13⟩
        rw [HB.out]
        have hb13 := hb12.trans (hbx13.mono hb12.size)
        go_wp2_with fail
        refine (ranges_Length v L w13 (hw.below hb13) (HV.out.below hb13) HZ1.out).mono ?_
        rintro e w14 ⟨_, h14⟩
        obtain ⟨rfl, hb14⟩ := h14 HLN.out
        rw [H0.out]
        have hb014 := hb13.trans (hb14.mono hb13.size)
        clear h14
        go_wp2_with fail
        refine (contains_err v L _ w14 (hw.below hb014) (HV.out.below hb014) HZ1.out HLN.out).mono ?_
        rintro e w15 ⟨rfl, hb15⟩
        rw [H0.out]
        go_wp2
        go_ret
        exact ⟨rfl, hb014.trans (hb15.mono hb014.size)⟩
end Go.Proofs.YtbogpbjddaoeiaaGreatDoor
