import Derived.Test.YtbogpbjddaoeiaaGreatDoorPlainQZ
import Derived.Test.YtbogpbjddaoeiaaGreatDoorLawKZ
namespace Go.Proofs.YtbogpbjddaoeiaaGreatDoor
open Go.RowKit Go.Shelf
open Go.Lib (decDigits itoa nDigits)
def KnLoop (L : List Pair) (k : Nat) : Prop := k ≤ L.length ∧ ∀ j (h : j < L.length), j < k → L[j].1.size ≤ 20 ∧ L[j].2.size ≤ 20
theorem KnLoop.zero (L : List Pair) : KnLoop L 0 := ⟨Nat.zero_le _, fun j h hk => by omega⟩
theorem KnLoop.step {L : List Pair} {k : Nat} (h : KnLoop L k) (hk : k < L.length) (h1 : L[k].1.size ≤ 20) (h2 : L[k].2.size ≤ 20) : KnLoop L (k + 1) := by
  refine ⟨hk, fun j hj hjk => ?_⟩
  rcases Nat.lt_or_ge j k with h' | h'
  · exact h.2 j hj h'
  · obtain rfl : j = k := by omega
    exact ⟨h1, h2⟩
theorem KnLoop.done {L : List Pair} (h : KnLoop L L.length) : SzOk L := by
  intro p hp
  obtain ⟨j, hj, rfl⟩ := List.mem_iff_getElem.1 hp
  have := h.2 j hj hj
  omega
theorem pairs_one (w : World) (t : TypeId) (a b : ByteArray) :
    Pairs (w.alloc (Obj.cells #[.string a, .string b] t)) (.slice (some ⟨w.heap.size, 0, none⟩) 1 1) [(a, b)] := by
  refine ⟨_, _, rfl, Nat.le_refl 1, by decide, fun _ => ⟨w.heap.size, 0, rfl, by simp, fun i hi => ?_⟩⟩
  have hi' : i < 1 := hi
  obtain rfl : i = 0 := by omega
  exact ⟨alloc_cells w #[.string a, .string b] t 0 (by simp), alloc_cells w #[.string a, .string b] t 1 (by simp)⟩
theorem one_ok : AllOk [(s0, s0)] := by
  intro p hp
  simp only [List.mem_cons, List.not_mem_nil, or_false] at hp
  subst hp
  exact ⟨ok0.1, ok0.1⟩
theorem one_err : knotsErr [(s0, s0)] = 0 := knotsErr_zero (by decide) (by decide) one_ok (by unfold rats; exact List.pairwise_singleton _ _)
theorem intErr_ne {L : List Pair} {lo hi : ByteArray} (h : knotsErr L ≠ 0) : intErr L lo hi = knotsErr L := by unfold intErr; rw [if_neg h]
set_option maxRecDepth 100000 in
set_option maxHeartbeats 8000000 in
theorem law_RangesKnots (v : Value) (L : List Pair) (w : World) (hw : Good w) (hv : Pairs w v L) :
    Calls Tryz.prog 13 #[v] w fun e w' => e = .returned (.bool true) ∧ Below w.heap.size w w' := by
  have hkn := fun w' (hb : Below w.heap.size w w') => law_known w' (hw.below hb)
  have HKN := Lib.hid hkn
  have HV := Lib.hid hv
  clear hkn
  obtain ⟨p, c, rfl, hc, hm, hx⟩ := hv
  by_cases h8 : 8 < L.length ∧ (L.length < 99 ∨ 102 < L.length)
  · have e1 : decide ((8 : Int) < (L.length : Int)) = true := decide_eq_true (by omega)
    clear hx HV
    by_cases h99 : L.length < 99
    · have e2 : decide ((L.length : Int) < (99 : Int)) = true := decide_eq_true (by omega)
      generalize L.length = n at hc e1 e2 ⊢
      clear h8 h99
      go_enter Tryz.func13, Tryz.ntmps13
      go_wp2_with fail
      refine (HKN.out w (Below.refl _ _)).mono ?_
      rintro e w1 ⟨rfl, hb1⟩
      go_wp2_with fail
      refine (HKN.out w1 hb1).mono ?_
      rintro e w2 ⟨rfl, hb2⟩
      go_wp2
      go_ret
      exact ⟨rfl, hb1.trans (hb2.mono hb1.size)⟩
    · have e2 : decide ((L.length : Int) < (99 : Int)) = false := decide_eq_false (by omega)
      have e3 : decide ((102 : Int) < (L.length : Int)) = true := decide_eq_true (by omega)
      generalize L.length = n at hc e1 e2 e3 ⊢
      clear h8 h99
      go_enter Tryz.func13, Tryz.ntmps13
      go_wp2_with fail
      refine (HKN.out w (Below.refl _ _)).mono ?_
      rintro e w1 ⟨rfl, hb1⟩
      go_wp2_with fail
      refine (HKN.out w1 hb1).mono ?_
      rintro e w2 ⟨rfl, hb2⟩
      go_wp2
      go_ret
      exact ⟨rfl, hb1.trans (hb2.mono hb1.size)⟩
  · have hlen : L.length ≤ 102 := by omega
    have hsplit : (L.length ≤ 8) ∨ (99 ≤ L.length) := by omega
    have hst := KnLoop.zero L
    clear h8
    rcases hsplit with hs | hs
    · have e1 : decide ((8 : Int) < (L.length : Int)) = false := decide_eq_false (by omega)
      have e2 : True := trivial
      have e3 : True := trivial
      go_enter Tryz.func13, Tryz.ntmps13
      go_wp2_with fail
      refine (HKN.out w (Below.refl _ _)).mono ?_
      rintro e w1 ⟨rfl, hb1⟩
      go_wp2_with fail
      go_loopw [3, 2] (fun iv rv wr => ∃ k : Nat, KnLoop L k ∧ iv = .int .i64 (k : Int) ∧ rv = .bool false ∧ Below w.heap.size w wr) (fun iv _ _ => L.length - (intOf iv).toNat)
      case atStart => exact ⟨0, hst, rfl, rfl, hb1⟩
      case round =>
        clear e1 e2 e3
        obtain ⟨k, hst, rfl, rfl, hbr⟩ := hrel
        by_cases hk : k < L.length
        · obtain ⟨b, off, rfl, hbl, hcell⟩ := hx (by omega)
          obtain ⟨c0, c1⟩ := hcell k hk
          rw [← hbr.cell (p := ⟨b, off + k * 2, none⟩) hbl] at c0
          rw [← hbr.cell (p := ⟨b, off + k * 2 + 1, none⟩) hbl] at c1
          have hkn : decide ((k : Int) < (L.length : Int)) = true := decide_eq_true (by omega)
          have HST := Lib.hid hst
          clear hst
          by_cases z1 : 20 < L[k].1.size
          · have y1 : decide ((20 : Int) < (L[k].1.size : Int)) = true := decide_eq_true (by omega)
            go_wp2
            go_ret
            exact ⟨rfl, hbr⟩
          · have y1 : decide ((20 : Int) < (L[k].1.size : Int)) = false := decide_eq_false (by omega)
            by_cases z2 : 20 < L[k].2.size
            · have y2 : decide ((20 : Int) < (L[k].2.size : Int)) = true := decide_eq_true (by omega)
              go_wp2
              go_ret
              exact ⟨rfl, hbr⟩
            · have y2 : decide ((20 : Int) < (L[k].2.size : Int)) = false := decide_eq_false (by omega)
              have HF := Lib.hid (HST.out.step hk (by omega) (by omega))
              go_wp2
              refine ⟨⟨k + 1, HF.out, int_succ k, rfl, hbr⟩, ?_⟩
              show L.length - ((k : Int) + 1).toNat < L.length - ((k : Int)).toNat
              omega
        · have hkn : decide ((k : Int) < (L.length : Int)) = false := decide_eq_false (by omega)
          obtain rfl : k = L.length := by have := hst.1; omega
          have HSZ := Lib.hid hst.done
          clear hst hx
          by_cases h0 : knotsErr L = 0
          · have H0 := Lib.hid h0
            clear h0
            go_wp2_with fail
            refine (law_checkKnots _ L wr (hw.below hbr) (HV.out.below hbr) HSZ.out).mono ?_
            rintro e w2 ⟨rfl, hb2⟩
            rw [H0.out]
            have hbr2 := hbr.trans (hb2.mono hbr.size)
            go_wp2_with fail
            refine (ranges_CheckKnots _ L w2 (hw.below hbr2) (HV.out.below hbr2) HSZ.out).mono ?_
            rintro e w3 ⟨rfl, hb3⟩
            rw [H0.out]
            go_wp2
            go_ret
            exact ⟨rfl, hbr2.trans (hb3.mono hbr2.size)⟩
          · obtain ⟨pe, hpe⟩ : ∃ pe, knotsErr L = pe := ⟨_, rfl⟩
            have HPE := Lib.hid hpe
            have H0 := Lib.hid h0
            have n1 : (pe == 0) = false := by rw [← hpe]; simpa using h0
            have n2 : (pe != 0) = true := by rw [← hpe]; simpa using h0
            clear hpe h0
            go_wp2_with fail
            refine (law_checkKnots _ L wr (hw.below hbr) (HV.out.below hbr) HSZ.out).mono ?_
            rintro e w2 ⟨rfl, hb2⟩
            rw [HPE.out]
            have hbr2 := hbr.trans (hb2.mono hbr.size)
            go_wp2_with fail
            refine (ranges_CheckKnots _ L w2 (hw.below hbr2) (HV.out.below hbr2) HSZ.out).mono ?_
            rintro e w3 ⟨rfl, hb3⟩
            rw [HPE.out]
            have hbr3 := hbr2.trans (hb3.mono hbr2.size)
            obtain ⟨w4, hw4⟩ : ∃ w4, w4 = w3.alloc (Obj.cells #[.string s0, .string s0] 97) := ⟨_, rfl⟩
            have hb4 : Below w3.heap.size w3 w4 := by rw [hw4]; exact alloc_below _ _
            have hone : Pairs w4 (.slice (some ⟨w3.heap.size, 0, none⟩) 1 1) [(s0, s0)] := by rw [hw4]; exact pairs_one _ _ _ _
            have HW4 := Lib.hid hw4
            have hbr4 := hbr3.trans (hb4.mono hbr3.size)
            have HONE := Lib.hid hone
            clear hw4 hone
            go_wp2_with fail
            rw [← HW4.out]
            refine (value_err _ L _ (by decide) w4 (hw.below hbr4) (HV.out.below hbr4) HSZ.out H0.out).mono ?_
            rintro e w5 ⟨rfl, hb5⟩
            rw [HPE.out]
            have hbr5 := hbr4.trans (hb5.mono hbr4.size)
            have hb45 := hb5
            go_wp2_with fail
            refine (segment_err _ L _ (by decide) w5 (hw.below hbr5) (HV.out.below hbr5) HSZ.out H0.out).mono ?_
            rintro e w6 ⟨rfl, hb6⟩
            rw [HPE.out]
            have hbr6 := hbr5.trans (hb6.mono hbr5.size)
            have hb46 := hb45.trans (hb6.mono hb45.size)
            go_wp2_with fail
            refine (slope_err _ L _ w6 (hw.below hbr6) (HV.out.below hbr6) HSZ.out H0.out).mono ?_
            rintro e w7 ⟨rfl, hb7⟩
            rw [HPE.out]
            have hbr7 := hbr6.trans (hb7.mono hbr6.size)
            have hb47 := hb46.trans (hb7.mono hb46.size)
            go_wp2_with fail
            refine (add1_err _ L _ w7 (hw.below hbr7) (HV.out.below hbr7) HSZ.out H0.out).mono ?_
            rintro e w8 ⟨rfl, hb8⟩
            rw [HPE.out]
            have hbr8 := hbr7.trans (hb8.mono hbr7.size)
            have hb48 := hb47.trans (hb8.mono hb47.size)
            go_wp2_with fail
            refine (simplify_err _ L w8 (hw.below hbr8) (HV.out.below hbr8) HSZ.out H0.out).mono ?_
            rintro e w9 ⟨rfl, hb9⟩
            rw [HPE.out]
            have hbr9 := hbr8.trans (hb9.mono hbr8.size)
            have hb49 := hb48.trans (hb9.mono hb48.size)
            go_wp2_with fail
            refine (ranges_Integral _ L _ _ w9 (hw.below hbr9) (HV.out.below hbr9) HSZ.out (by decide) (by decide)).mono ?_
            rintro e w10 ⟨_, h10⟩
            rw [intErr_ne H0.out, HPE.out] at h10
            obtain ⟨rfl, hb10⟩ := h10 (by rw [← HPE.out]; exact H0.out)
            have hbr10 := hbr9.trans (hb10.mono hbr9.size)
            have hb410 := hb49.trans (hb10.mono hb49.size)
            clear h10
            go_wp2_with fail
            refine (above_err _ L _ _ _ (by decide) w10 (hw.below hbr10) (HV.out.below hbr10) HSZ.out H0.out).mono ?_
            rintro e w11 ⟨rfl, hb11⟩
            rw [HPE.out]
            have hbr11 := hbr10.trans (hb11.mono hbr10.size)
            have hb411 := hb410.trans (hb11.mono hb410.size)
            go_wp2_with fail
            refine (add2_err _ _ [(s0, s0)] L w11 (hw.below hbr11) (HONE.out.below hb411) (szOk_of one_ok) one_err (HV.out.below hbr11) HSZ.out H0.out).mono ?_
            rintro e w12 ⟨rfl, hb12⟩
            rw [HPE.out]
            go_wp2
            go_ret
            exact ⟨rfl, hbr11.trans (hb12.mono hbr11.size)⟩
    · have e1 : decide ((8 : Int) < (L.length : Int)) = true := decide_eq_true (by omega)
      have e2 : decide ((L.length : Int) < (99 : Int)) = false := decide_eq_false (by omega)
      have e3 : decide ((102 : Int) < (L.length : Int)) = false := decide_eq_false (by omega)
      go_enter Tryz.func13, Tryz.ntmps13
      go_wp2_with fail
      refine (HKN.out w (Below.refl _ _)).mono ?_
      rintro e w1 ⟨rfl, hb1⟩
      go_wp2_with fail
      go_loopw [3, 2] (fun iv rv wr => ∃ k : Nat, KnLoop L k ∧ iv = .int .i64 (k : Int) ∧ rv = .bool false ∧ Below w.heap.size w wr) (fun iv _ _ => L.length - (intOf iv).toNat)
      case atStart => exact ⟨0, hst, rfl, rfl, hb1⟩
      case round =>
        clear e1 e2 e3
        obtain ⟨k, hst, rfl, rfl, hbr⟩ := hrel
        by_cases hk : k < L.length
        · obtain ⟨b, off, rfl, hbl, hcell⟩ := hx (by omega)
          obtain ⟨c0, c1⟩ := hcell k hk
          rw [← hbr.cell (p := ⟨b, off + k * 2, none⟩) hbl] at c0
          rw [← hbr.cell (p := ⟨b, off + k * 2 + 1, none⟩) hbl] at c1
          have hkn : decide ((k : Int) < (L.length : Int)) = true := decide_eq_true (by omega)
          have HST := Lib.hid hst
          clear hst
          by_cases z1 : 20 < L[k].1.size
          · have y1 : decide ((20 : Int) < (L[k].1.size : Int)) = true := decide_eq_true (by omega)
            go_wp2
            go_ret
            exact ⟨rfl, hbr⟩
          · have y1 : decide ((20 : Int) < (L[k].1.size : Int)) = false := decide_eq_false (by omega)
            by_cases z2 : 20 < L[k].2.size
            · have y2 : decide ((20 : Int) < (L[k].2.size : Int)) = true := decide_eq_true (by omega)
              go_wp2
              go_ret
              exact ⟨rfl, hbr⟩
            · have y2 : decide ((20 : Int) < (L[k].2.size : Int)) = false := decide_eq_false (by omega)
              have HF := Lib.hid (HST.out.step hk (by omega) (by omega))
              go_wp2
              refine ⟨⟨k + 1, HF.out, int_succ k, rfl, hbr⟩, ?_⟩
              show L.length - ((k : Int) + 1).toNat < L.length - ((k : Int)).toNat
              omega
        · have hkn : decide ((k : Int) < (L.length : Int)) = false := decide_eq_false (by omega)
          obtain rfl : k = L.length := by have := hst.1; omega
          have HSZ := Lib.hid hst.done
          clear hst hx
          by_cases h0 : knotsErr L = 0
          · have H0 := Lib.hid h0
            clear h0
            go_wp2_with fail
            refine (law_checkKnots _ L wr (hw.below hbr) (HV.out.below hbr) HSZ.out).mono ?_
            rintro e w2 ⟨rfl, hb2⟩
            rw [H0.out]
            have hbr2 := hbr.trans (hb2.mono hbr.size)
            go_wp2_with fail
            refine (ranges_CheckKnots _ L w2 (hw.below hbr2) (HV.out.below hbr2) HSZ.out).mono ?_
            rintro e w3 ⟨rfl, hb3⟩
            rw [H0.out]
            go_wp2
            go_ret
            exact ⟨rfl, hbr2.trans (hb3.mono hbr2.size)⟩
          · obtain ⟨pe, hpe⟩ : ∃ pe, knotsErr L = pe := ⟨_, rfl⟩
            have HPE := Lib.hid hpe
            have H0 := Lib.hid h0
            have n1 : (pe == 0) = false := by rw [← hpe]; simpa using h0
            have n2 : (pe != 0) = true := by rw [← hpe]; simpa using h0
            clear hpe h0
            go_wp2_with fail
            refine (law_checkKnots _ L wr (hw.below hbr) (HV.out.below hbr) HSZ.out).mono ?_
            rintro e w2 ⟨rfl, hb2⟩
            rw [HPE.out]
            have hbr2 := hbr.trans (hb2.mono hbr.size)
            go_wp2_with fail
            refine (ranges_CheckKnots _ L w2 (hw.below hbr2) (HV.out.below hbr2) HSZ.out).mono ?_
            rintro e w3 ⟨rfl, hb3⟩
            rw [HPE.out]
            have hbr3 := hbr2.trans (hb3.mono hbr2.size)
            obtain ⟨w4, hw4⟩ : ∃ w4, w4 = w3.alloc (Obj.cells #[.string s0, .string s0] 97) := ⟨_, rfl⟩
            have hb4 : Below w3.heap.size w3 w4 := by rw [hw4]; exact alloc_below _ _
            have hone : Pairs w4 (.slice (some ⟨w3.heap.size, 0, none⟩) 1 1) [(s0, s0)] := by rw [hw4]; exact pairs_one _ _ _ _
            have HW4 := Lib.hid hw4
            have hbr4 := hbr3.trans (hb4.mono hbr3.size)
            have HONE := Lib.hid hone
            clear hw4 hone
            go_wp2_with fail
            rw [← HW4.out]
            refine (value_err _ L _ (by decide) w4 (hw.below hbr4) (HV.out.below hbr4) HSZ.out H0.out).mono ?_
            rintro e w5 ⟨rfl, hb5⟩
            rw [HPE.out]
            have hbr5 := hbr4.trans (hb5.mono hbr4.size)
            have hb45 := hb5
            go_wp2_with fail
            refine (segment_err _ L _ (by decide) w5 (hw.below hbr5) (HV.out.below hbr5) HSZ.out H0.out).mono ?_
            rintro e w6 ⟨rfl, hb6⟩
            rw [HPE.out]
            have hbr6 := hbr5.trans (hb6.mono hbr5.size)
            have hb46 := hb45.trans (hb6.mono hb45.size)
            go_wp2_with fail
            refine (slope_err _ L _ w6 (hw.below hbr6) (HV.out.below hbr6) HSZ.out H0.out).mono ?_
            rintro e w7 ⟨rfl, hb7⟩
            rw [HPE.out]
            have hbr7 := hbr6.trans (hb7.mono hbr6.size)
            have hb47 := hb46.trans (hb7.mono hb46.size)
            go_wp2_with fail
            refine (add1_err _ L _ w7 (hw.below hbr7) (HV.out.below hbr7) HSZ.out H0.out).mono ?_
            rintro e w8 ⟨rfl, hb8⟩
            rw [HPE.out]
            have hbr8 := hbr7.trans (hb8.mono hbr7.size)
            have hb48 := hb47.trans (hb8.mono hb47.size)
            go_wp2_with fail
            refine (simplify_err _ L w8 (hw.below hbr8) (HV.out.below hbr8) HSZ.out H0.out).mono ?_
            rintro e w9 ⟨rfl, hb9⟩
            rw [HPE.out]
            have hbr9 := hbr8.trans (hb9.mono hbr8.size)
            have hb49 := hb48.trans (hb9.mono hb48.size)
            go_wp2_with fail
            refine (ranges_Integral _ L _ _ w9 (hw.below hbr9) (HV.out.below hbr9) HSZ.out (by decide) (by decide)).mono ?_
            rintro e w10 ⟨_, h10⟩
            rw [intErr_ne H0.out, HPE.out] at h10
            obtain ⟨rfl, hb10⟩ := h10 (by rw [← HPE.out]; exact H0.out)
            have hbr10 := hbr9.trans (hb10.mono hbr9.size)
            have hb410 := hb49.trans (hb10.mono hb49.size)
            clear h10
            go_wp2_with fail
            refine (above_err _ L _ _ _ (by decide) w10 (hw.below hbr10) (HV.out.below hbr10) HSZ.out H0.out).mono ?_
            rintro e w11 ⟨rfl, hb11⟩
            rw [HPE.out]
            have hbr11 := hbr10.trans (hb11.mono hbr10.size)
            have hb411 := hb410.trans (hb11.mono hb410.size)
            go_wp2_with fail
            refine (add2_err _ _ [(s0, s0)] L w11 (hw.below hbr11) (HONE.out.below hb411) (szOk_of one_ok) one_err (HV.out.below hbr11) HSZ.out H0.out).mono ?_
            rintro e w12 ⟨rfl, hb12⟩
            rw [HPE.out]
            go_wp2
            go_ret
            exact ⟨rfl, hbr11.trans (hb12.mono hbr11.size)⟩
end Go.Proofs.YtbogpbjddaoeiaaGreatDoor
