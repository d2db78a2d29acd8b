import Derived.Test.YtbogpbjddaoeiaaGreatDoorPlainQZ
import Derived.Test.YtbogpbjddaoeiaaGreatDoorLawKZ
import Derived.Test.YtbogpbjddaoeiaaGreatDoorMakeSZ
namespace Go.Proofs.YtbogpbjddaoeiaaGreatDoor
open Go.RowKit Go.Shelf
open Go.Lib (decDigits itoa nDigits)
set_option maxRecDepth 100000 in
set_option maxHeartbeats 16000000 in
theorem law_RangesContains (v : Value) (D : List Duo) (x : ByteArray) (w : World) (hw : Good w) (hv : Duos w v D) (hxm : x.size ≤ maxLen) :
    Calls Tryz.prog 5 #[v, .string x] w fun e w' => e = .returned (.bool true) ∧ Below w.heap.size w w' := by
  have HKN := Lib.hid (fun w' (hb : Below w.heap.size w w') => law_known w' (hw.below hb))
  have HMA := Lib.hid (fun w' (hb : Below w.heap.size w w') => law_Make v D w' (hv.below hb))
  unfold MakePost at HMA
  have HOK := Lib.hid hv.ok
  have hxm' : x.size ≤ 9223372036854775807 := by unfold maxLen at hxm; omega
  obtain ⟨p, c, rfl, hc, hmx, _⟩ := hv
  by_cases h8 : 8 < D.length
  · have e1 : decide ((8 : Int) < (D.length : Int)) = true := decide_eq_true (by omega)
    generalize D.length = n at hc e1 ⊢
    clear h8 HMA HOK
    go_enter Tryz.func5, Tryz.ntmps5
    go_wp2_with fail
    refine (HKN.out w (Below.refl _ _)).mono ?_
    rintro e w1 ⟨rfl, hb1⟩
    go_wp2_with fail
    refine (HKN.out w1 hb1).mono ?_
    rintro e w2 ⟨rfl, hb2⟩
    go_wp2
    go_ret
    exact ⟨rfl, hb1.trans (hb2.mono hb1.size)⟩
  · have e1 : decide ((8 : Int) < (D.length : Int)) = false := decide_eq_false (by omega)
    by_cases h20 : 20 < x.size
    · have e2 : decide ((20 : Int) < (x.size : Int)) = true := decide_eq_true (by omega)
      generalize D.length = n at hc e1 ⊢
      clear h8 HMA HOK
      go_enter Tryz.func5, Tryz.ntmps5
      go_wp2_with fail
      refine (HKN.out w (Below.refl _ _)).mono ?_
      rintro e w1 ⟨rfl, hb1⟩
      go_wp2_with fail
      refine (HKN.out w1 hb1).mono ?_
      rintro e w2 ⟨rfl, hb2⟩
      go_wp2
      go_ret
      exact ⟨rfl, hb1.trans (hb2.mono hb1.size)⟩
    · have e2 : decide ((20 : Int) < (x.size : Int)) = false := decide_eq_false (by omega)
      have hx20 : x.size ≤ 20 := by omega
      generalize D.length = n at hc e1 HMA ⊢
      clear h8 h20
      go_enter Tryz.func5, Tryz.ntmps5
      go_wp2_with fail
      refine (HKN.out w (Below.refl _ _)).mono ?_
      rintro e w1 ⟨rfl, hb1⟩
      go_wp2_with fail
      refine (HMA.out w1 hb1).mono ?_
      rintro e w2 ⟨v2, Z, rfl, hp2, hs2, _, hb2⟩
      have hbw2 := hb1.trans (hb2.mono hb1.size)
      obtain ⟨_, hzl⟩ := make_small HOK.out hs2
      have hck := half_check hs2.small hs2.1 (by omega)
      have hsz := szOk_of (checkErr_ok hck).1
      have hal := (checkErr_ok hck).1
      obtain ⟨L, hL⟩ : ∃ L, L = Z.map halfP := ⟨_, rfl⟩
      rw [← hL] at hck hsz hal hp2
      have HCK := Lib.hid hck
      have HP2 := Lib.hid hp2
      obtain ⟨p2, c2, rfl, hc2, hm2, hxx⟩ := hp2
      have hmx2 : L.length ≤ 9223372036854775807 := by unfold maxLen at hm2; omega
      clear hL hs2 hck hzl HOK HMA
      cases hxb : ratB x.data.toList
      · have HX := Lib.hid hxb
        clear hxb
        go_wp2_with fail
        refine (contains_num _ L x w2 (hw.below hbw2) HP2.out HCK.out (by omega) HX.out).mono ?_
        rintro e w3 ⟨rfl, hb3⟩
        have hbw3 := hbw2.trans (hb3.mono hbw2.size)
        go_wp2_with fail
        refine (law_wrong x (by omega) _ (hw.below hbw3)).mono ?_
        rintro e w4 ⟨rfl, hb4⟩
        rw [HX.out]
        go_wp2
        go_ret
        exact ⟨rfl, hbw3.trans (hb4.mono hbw3.size)⟩
      · have HX := Lib.hid hxb
        obtain ⟨q, hq⟩ : ∃ q, q = ratV x := ⟨_, rfl⟩
        have HQ := Lib.hid (show IsR x q by rw [hq]; exact ratV_isR hxb)
        have hco := contains_ok _ L x w2 (hw.below hbw2) HP2.out HCK.out hxb
        rw [← hq] at hco
        have HCO := Lib.hid hco
        obtain ⟨r, hr⟩ : ∃ r, hasV L q = r := ⟨_, rfl⟩
        have HR := Lib.hid hr
        rw [hr] at HCO
        have HST0 := Lib.hid (show ((L.take 0).any (inP q)) = false from rfl)
        clear hxb hq hr hco
        go_wp2_with fail
        refine HCO.out.mono ?_
        rintro e w3 ⟨rfl, hb3⟩
        have hbw3 := hbw2.trans (hb3.mono hbw2.size)
        go_wp2_with fail
        refine (law_wrong x (by omega) _ (hw.below hbw3)).mono ?_
        rintro e w4 ⟨rfl, hb4⟩
        rw [HX.out]
        have hbw4 := hbw3.trans (hb4.mono hbw3.size)
        have hb24 := hb3.trans (hb4.mono hb3.size)
        go_wp2_with fail
        go_loopw [8, 9] (fun wv iv wr => ∃ (k : Nat) (B : Bool), k ≤ L.length ∧ (L.take k).any (inP q) = B ∧ wv = .bool B ∧ iv = .int .i64 (k : Int) ∧ Below w4.heap.size w4 wr) (fun _ iv _ => L.length - (intOf iv).toNat)
        case atStart => exact ⟨0, false, Nat.zero_le _, HST0.out, rfl, rfl, Below.refl _ _⟩
        case round =>
          obtain ⟨k, B, hkl, hB, rfl, rfl, hbr4⟩ := hrel
          have HB := Lib.hid hB
          clear hB
          have hbr := hbw4.trans (hbr4.mono hbw4.size)
          have hb2r := hb24.trans (hbr4.mono hb24.size)
          by_cases hk : k < L.length
          · obtain ⟨b, off, rfl, hbl, hcell⟩ := hxx (by omega)
            obtain ⟨c0, c1⟩ := hcell k hk
            rw [← hb2r.cell (p := ⟨b, off + k * 2, none⟩) hbl] at c0
            rw [← hb2r.cell (p := ⟨b, off + k * 2 + 1, none⟩) hbl] at c1
            have hkn : decide ((k : Int) < (L.length : Int)) = true := decide_eq_true (by omega)
            have hblr : b < wr.heap.size := Nat.lt_of_lt_of_le hbl hb2r.size
            obtain ⟨hs1, hs2⟩ := hsz _ (List.getElem_mem hk)
            obtain ⟨r1, r2⟩ := hal _ (List.getElem_mem hk)
            have i5 : (k : Int) < (L.length : Int) := by omega
            have i6 : (0 : Int) ≤ (k : Int) := by omega
            have HN := Lib.hid (any_take hk q)
            have H1 := Lib.hid (ratV_isR r1)
            have H2 := Lib.hid (ratV_isR r2)
            obtain ⟨l1, hl1⟩ : ∃ l : Bool, l = decide (q < ratV L[k].1) := ⟨_, rfl⟩
            obtain ⟨l2, hl2⟩ : ∃ l : Bool, l = decide (ratV L[k].2 < q) := ⟨_, rfl⟩
            have HL1 := Lib.hid hl1
            have HL2 := Lib.hid hl2
            have HI := Lib.hid (show inP q L[k] = (!l1 && !l2) by unfold inP; rw [hl1, hl2])
            clear hl1 hl2 r1 r2
            cases B
            · go_wp2_with fail
              refine (law_less x L[k].1 _ _ HQ.out H1.out (by omega) (by omega) _ (hw.below hbr)).mono ?_
              rintro e wa ⟨rfl, hba⟩
              rw [← HL1.out]
              have hb4a := hbr4.trans (hba.mono hbr4.size)
              have hbra := hbr.trans (hba.mono hbr.size)
              rw [← hba.cell (p := ⟨b, off + k * 2 + 1, none⟩) hblr] at c1
              cases l1
              · go_wp2_with fail
                refine (law_less L[k].2 x _ _ H2.out HQ.out (by omega) (by omega) _ (hw.below hbra)).mono ?_
                rintro e wb ⟨rfl, hbb⟩
                rw [← HL2.out]
                have hb4b := hb4a.trans (hbb.mono hb4a.size)
                cases l2
                · go_wp2
                  refine ⟨⟨k + 1, true, hk, by rw [HN.out, HB.out, HI.out]; rfl, rfl, int_succ k, hb4b⟩, ?_⟩
                  show L.length - ((k : Int) + 1).toNat < L.length - ((k : Int)).toNat
                  omega
                · go_wp2
                  refine ⟨⟨k + 1, false, hk, by rw [HN.out, HB.out, HI.out]; rfl, rfl, int_succ k, hb4b⟩, ?_⟩
                  show L.length - ((k : Int) + 1).toNat < L.length - ((k : Int)).toNat
                  omega
              · go_wp2
                refine ⟨⟨k + 1, false, hk, by rw [HN.out, HB.out, HI.out]; rfl, rfl, int_succ k, hb4a⟩, ?_⟩
                show L.length - ((k : Int) + 1).toNat < L.length - ((k : Int)).toNat
                omega
            · go_wp2
              refine ⟨⟨k + 1, true, hk, by rw [HN.out, HB.out]; rfl, rfl, int_succ k, hbr4⟩, ?_⟩
              show L.length - ((k : Int) + 1).toNat < L.length - ((k : Int)).toNat
              omega
          · have hkn : decide ((k : Int) < (L.length : Int)) = false := decide_eq_false (by omega)
            obtain rfl : B = r := by
              have := HB.out
              rw [show L.take k = L from List.take_of_length_le (by omega)] at this
              exact this.symm.trans HR.out
            clear hxx
            go_wp2
            go_ret
            exact ⟨rfl, hbr⟩
end Go.Proofs.YtbogpbjddaoeiaaGreatDoor
