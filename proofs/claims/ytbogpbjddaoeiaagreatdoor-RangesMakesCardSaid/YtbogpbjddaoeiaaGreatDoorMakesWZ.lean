import Derived.Test.YtbogpbjddaoeiaaGreatDoorMakes0Z
namespace Go.Proofs.YtbogpbjddaoeiaaGreatDoor
open Go.RowKit Go.Shelf
open Go.Lib (decDigits itoa nDigits)
set_option maxRecDepth 100000 in
set_option maxHeartbeats 16000000 in
theorem makes_wrong (hT : NeqT 33) (v u : Value) (L : List Pair) (D : List Duo) (w : World) (hw : Good w) (hv : Pairs w v L) (hu : Duos w u D) (h1 : shortB L = true) (h2 : ¬ 200 < L.length) (he : ofErrs L ≠ 0) :
    Calls Tryz.prog 3 #[v, u] w (RetT w) := by
  have HKN := Lib.hid (fun w' (hb : Below w.heap.size w w') => law_known w' (hw.below hb))
  have HS1 := Lib.hid (fun w' (hb : Below w.heap.size w w') => law_short v L w' (hv.below hb))
  have H1 := Lib.hid h1
  have hsz := shortB_sz h1
  have hok := hu.ok
  have HOF := Lib.hid (fun w' (hb : Below w.heap.size w w') => of_any v L w' (hw.below hb) (hv.below hb) hsz)
  have HCK := Lib.hid (fun w' u' (R M : List RP) (hg : Good w') (he : ofErrs L = 0) (hR : R.map (·.1) = L) (hp : M.Perm R) (h : Pairs w' u' ((mergeP M).map (·.1))) => (by
    obtain ⟨e1, e2⟩ := merged_check he hR hp
    have := ranges_Check u' _ w' hg h e2
    rw [e1] at this
    exact this : Calls Tryz.prog 20 #[u'] w' fun e w'' => e = .returned (.int .i64 0) ∧ Below w'.heap.size w' w''))
  have HEN := Lib.hid (fun w' (hb : Below w.heap.size w w') => law_ends u D w' (hu.below hb))
  have hE : ∀ p ∈ endsZ D, -300 ≤ p.1 ∧ p.1 < p.2 ∧ p.2 ≤ 300 := fun p hp => by have := endsZ_ok hok p hp; omega
  have hEl : (endsZ D).length ≤ 8 := by rw [endsZ_len]; omega
  have HPA := Lib.hid (fun w' u' (h : Zees w' u' (endsZ D)) => law_parts u' (endsZ D) w' h (fun p hp => by have := hE p hp; omega) (by omega))
  have HOH := Lib.hid (fun w' u' (hg : Good w') (h : Pairs w' u' ((endsZ D).map halfP)) => of_half u' (endsZ D) w' hg h hE (by omega))
  have HMA := Lib.hid (fun w' (hb : Below w.heap.size w w') => law_Make u D w' (hu.below hb))
  have HSA := Lib.hid (fun w' u1 u2 (C Z : List ZP) (h1 : Pairs w' u1 (C.map halfP)) (h2 : Pairs w' u2 (Z.map halfP)) (s1 : IsSet (setOf (endsZ D)) C) (s2 : IsSet (setOf (endsZ D)) Z) => (by
    have := law_same hT u1 u2 _ _ w' h1 h2
    rw [decide_eq_true (show C.map halfP = Z.map halfP by rw [s1.unique s2])] at this
    exact this : Calls Tryz.prog 23 #[u1, u2] w' fun e w'' => e = .returned (.bool true) ∧ Below w'.heap.size w' w''))
  unfold EndsPost at HEN
  unfold PartsNew at HPA
  unfold OfHalf at HOH
  unfold MakePost at HMA
  obtain ⟨p, c, rfl, hc, hmx, hxx⟩ := hv
  obtain ⟨p2, c2, rfl, _⟩ := hu
  have hmax : L.length ≤ 9223372036854775807 := by unfold maxLen at hmx; omega
  clear h1 hE hEl hok
  generalize endsZ D = E at *
  have HST0 := Lib.hid (MkSt.zero (L := L) (by omega))
  have g1 : decide ((200 : Int) < (L.length : Int)) = false := decide_eq_false (by omega)
  have HE0 := Lib.hid he
  obtain ⟨E0, hE0⟩ : ∃ E0, ofErrs L = E0 := ⟨_, rfl⟩
  have HE := Lib.hid hE0
  have ne0 : (E0 != 0) = true := by rw [← hE0]; simpa using he
  clear he hE0
  go_enter Tryz.func3, Tryz.ntmps3
  go_wp2_with fail
  refine (HKN.out w (Below.refl _ _)).mono ?_
  rintro e w1 ⟨rfl, hb1⟩
  go_wp2_with fail
  refine (HS1.out w1 hb1).mono ?_
  rintro e w2 ⟨rfl, hb2⟩
  rw [H1.out]
  have hb02 := hb1.trans (hb2.mono hb1.size)
  go_wp2_with fail
  refine (HOF.out w2 hb02).mono ?_
  intro e w3 hof
  obtain ⟨rfl, hb3⟩ := hof.2 HE0.out
  rw [HE.out]
  have hb03 := hb02.trans (hb3.mono hb02.size)
  clear hof
  go_wp2_with fail
  go_loopw [7, 8] (fun wv iv wr => ∃ (k : Nat) (W : Int), MkSt L k W ∧ wv = .int .i64 W ∧ iv = .int .i64 (k : Int) ∧ Below w3.heap.size w3 wr) (fun _ iv _ => L.length - (intOf iv).toNat)
  case atStart => exact ⟨0, _, HST0.out, rfl, rfl, Below.refl _ _⟩
  case round =>
    obtain ⟨k, W, hst, rfl, rfl, hbr3⟩ := hrel
    have HST := Lib.hid hst
    have hkl := hst.1
    have hbr := hb03.trans (hbr3.mono hb03.size)
    clear hst
    by_cases hx : k < L.length ∧ W = 0
    · obtain ⟨hk, rfl⟩ := hx
      obtain ⟨b, off, rfl, hbl, hcell⟩ := hxx (by omega)
      obtain ⟨c0, c1⟩ := hcell k hk
      rw [← hbr.cell (p := ⟨b, off + k * 2, none⟩) hbl] at c0
      rw [← hbr.cell (p := ⟨b, off + k * 2 + 1, none⟩) hbl] at c1
      have hkn : decide ((k : Int) < (L.length : Int)) = true := decide_eq_true (by omega)
      have hblr : b < wr.heap.size := Nat.lt_of_lt_of_le hbl hbr.size
      obtain ⟨hs1, hs2⟩ := hsz _ (List.getElem_mem hk)
      have i5 : (k : Int) < (L.length : Int) := by omega
      have i6 : (0 : Int) ≤ (k : Int) := by omega
      have HBAD := Lib.hid (fun (e : Int) => HST.out.bad (e := e) hk)
      have HGOOD := Lib.hid (HST.out.good hk)
      cases ha : ratB L[k].1.data.toList
      · have HG := Lib.hid (partErr_two (lo := L[k].1) (hi := L[k].2) (by rw [ha]; rfl))
        have HA := Lib.hid ha
        clear ha
        go_wp2_with fail
        refine (law_wrong L[k].1 (by omega) _ (hw.below hbr)).mono ?_
        rintro e wa ⟨rfl, hba⟩
        rw [HA.out]
        go_wp2
        refine ⟨⟨k + 1, 2, HBAD.out 2 HG.out (by decide), rfl, int_succ k, hbr3.trans (hba.mono hbr3.size)⟩, ?_⟩
        show L.length - ((k : Int) + 1).toNat < L.length - ((k : Int)).toNat
        omega
      · have HA := Lib.hid ha
        cases hbb : ratB L[k].2.data.toList
        · have HG := Lib.hid (partErr_two (lo := L[k].1) (hi := L[k].2) (by rw [hbb]; simp))
          have HB := Lib.hid hbb
          clear hbb ha
          go_wp2_with fail
          refine (law_wrong L[k].1 (by omega) _ (hw.below hbr)).mono ?_
          rintro e wa ⟨rfl, hba⟩
          rw [HA.out]
          have hb01 := hbr.trans (hba.mono hbr.size)
          rw [← hba.cell (p := ⟨b, off + k * 2 + 1, none⟩) hblr] at c1
          go_wp2_with fail
          refine (law_wrong L[k].2 (by omega) _ (hw.below hb01)).mono ?_
          rintro e wb ⟨rfl, hbb2⟩
          rw [HB.out]
          have hb3b := (hbr3.trans (hba.mono hbr3.size)).trans (hbb2.mono (by have := hba.size; have := hbr3.size; omega))
          go_wp2
          refine ⟨⟨k + 1, 2, HBAD.out 2 HG.out (by decide), rfl, int_succ k, hb3b⟩, ?_⟩
          show L.length - ((k : Int) + 1).toNat < L.length - ((k : Int)).toNat
          omega
        · have HB := Lib.hid hbb
          obtain ⟨lt, hlt⟩ : ∃ lt : Bool, lt = decide (ratV L[k].1 < ratV L[k].2) := ⟨_, rfl⟩
          have HLT := Lib.hid hlt
          clear hlt hbb ha
          go_wp2_with fail
          refine (law_wrong L[k].1 (by omega) _ (hw.below hbr)).mono ?_
          rintro e wa ⟨rfl, hba⟩
          rw [HA.out]
          have hb01 := hbr.trans (hba.mono hbr.size)
          rw [← hba.cell (p := ⟨b, off + k * 2, none⟩) hblr] at c0
          rw [← hba.cell (p := ⟨b, off + k * 2 + 1, none⟩) hblr] at c1
          have hbl1 : b < wa.heap.size := Nat.lt_of_lt_of_le hblr hba.size
          go_wp2_with fail
          refine (law_wrong L[k].2 (by omega) _ (hw.below hb01)).mono ?_
          rintro e wb ⟨rfl, hbb2⟩
          rw [HB.out]
          have hbwb := hb01.trans (hbb2.mono hb01.size)
          have hb3b := (hbr3.trans (hba.mono hbr3.size)).trans (hbb2.mono (by have := hba.size; have := hbr3.size; omega))
          rw [← hbb2.cell (p := ⟨b, off + k * 2, none⟩) hbl1] at c0
          rw [← hbb2.cell (p := ⟨b, off + k * 2 + 1, none⟩) hbl1] at c1
          have bl2 : b < wb.heap.size := Nat.lt_of_lt_of_le hbl hbwb.size
          cases lt
          · have HG := Lib.hid (partErr_seven HA.out HB.out HLT.out.symm)
            go_wp2_with fail
            go_region_held3 (fun W => W.cell? ⟨b, off + k * 2, none⟩ = some (.string L[k].1) ∧ W.cell? ⟨b, off + k * 2 + 1, none⟩ = some (.string L[k].2) ∧ Below wb.heap.size wb W)
              (first | exact ord_drew c0 c1 | (refine ord_keep bl2 bl2 (by assumption) ?_; first | assumption | (go_split_ands; refine ⟨?_, ?_, ?_⟩ <;> assumption)))
              ((go_at_call 19; refine (law_less _ _ _ _ (ratV_isR HA.out) (ratV_isR HB.out) (by omega) (by omega) _ ?_).mono ?_; exact hw.below (hbwb.trans ((OrdS.low (by assumption)).mono hbwb.size)); rintro e wc ⟨rfl, hbc⟩; rw [← HLT.out]))
            have hlow3 : Below wb.heap.size wb wc := OrdS.low (by assumption)
            have hb3c := hb3b.trans (hlow3.mono hb3b.size)
            go_wp2
            refine ⟨⟨k + 1, 7, HBAD.out 7 HG.out (by decide), rfl, int_succ k, hb3c⟩, ?_⟩
            show L.length - ((k : Int) + 1).toNat < L.length - ((k : Int)).toNat
            omega
          · have HG := Lib.hid (partErr_null HA.out HB.out HLT.out.symm)
            go_wp2_with fail
            go_region_held3 (fun W => W.cell? ⟨b, off + k * 2, none⟩ = some (.string L[k].1) ∧ W.cell? ⟨b, off + k * 2 + 1, none⟩ = some (.string L[k].2) ∧ Below wb.heap.size wb W)
              (first | exact ord_drew c0 c1 | (refine ord_keep bl2 bl2 (by assumption) ?_; first | assumption | (go_split_ands; refine ⟨?_, ?_, ?_⟩ <;> assumption)))
              ((go_at_call 19; refine (law_less _ _ _ _ (ratV_isR HA.out) (ratV_isR HB.out) (by omega) (by omega) _ ?_).mono ?_; exact hw.below (hbwb.trans ((OrdS.low (by assumption)).mono hbwb.size)); rintro e wc ⟨rfl, hbc⟩; rw [← HLT.out]))
            have hlow3 : Below wb.heap.size wb wc := OrdS.low (by assumption)
            have hb3c := hb3b.trans (hlow3.mono hb3b.size)
            go_wp2
            refine ⟨⟨k + 1, 0, HGOOD.out HG.out, rfl, int_succ k, hb3c⟩, ?_⟩
            show L.length - ((k : Int) + 1).toNat < L.length - ((k : Int)).toNat
            omega
    · obtain rfl : W = ofErrs L := HST.out.done hx
      rw [HE.out]
      clear hxx
      by_cases hk9 : k < L.length
      · have e8 : decide ((k : Int) < (L.length : Int)) = true := decide_eq_true (by omega)
        clear hx
        go_wp2_with fail
        refine (HEN.out wr hbr).mono ?_
        rintro e w5 ⟨v6, rfl, hz5, hb5⟩
        have hb05 := (hbr).trans (hb5.mono (hbr).size)
        obtain ⟨p6, c6, rfl, _⟩ := id hz5
        go_wp2_with fail
        refine (HPA.out _ _ hz5).mono ?_
        rintro e w6 ⟨v7, rfl, _, hp6, hb6⟩
        have hb06 := hb05.trans (hb6.mono hb05.size)
        have HP6 := Lib.hid hp6
        clear hp6 hz5
        go_wp2_with fail
        refine (HOH.out _ _ (hw.below hb06) HP6.out).mono ?_
        rintro e w7 ⟨v8, C, rfl, hp7, hs7, hb7⟩
        have hb07 := hb06.trans (hb7.mono hb06.size)
        have HP7 := Lib.hid hp7
        have HS7 := Lib.hid hs7
        clear hp7 hs7
        go_wp2_with fail
        refine (HMA.out _ hb07).mono ?_
        rintro e w8 ⟨v9, Z, rfl, hp8, hs8, _, hb8⟩
        have hb08 := hb07.trans (hb8.mono hb07.size)
        have HP8 := Lib.hid hp8
        have HS8 := Lib.hid hs8
        clear hp8 hs8
        go_wp2_with fail
        refine (HSA.out _ _ _ C Z (HP7.out.below hb8) HP8.out HS7.out HS8.out).mono ?_
        rintro e w9 ⟨rfl, hb9⟩
        go_wp2
        go_ret
        exact ⟨rfl, hb08.trans (hb9.mono hb08.size)⟩
      · have e8 : decide ((k : Int) < (L.length : Int)) = false := decide_eq_false (by omega)
        clear hx
        go_wp2_with fail
        refine (HEN.out wr hbr).mono ?_
        rintro e w5 ⟨v6, rfl, hz5, hb5⟩
        have hb05 := (hbr).trans (hb5.mono (hbr).size)
        obtain ⟨p6, c6, rfl, _⟩ := id hz5
        go_wp2_with fail
        refine (HPA.out _ _ hz5).mono ?_
        rintro e w6 ⟨v7, rfl, _, hp6, hb6⟩
        have hb06 := hb05.trans (hb6.mono hb05.size)
        have HP6 := Lib.hid hp6
        clear hp6 hz5
        go_wp2_with fail
        refine (HOH.out _ _ (hw.below hb06) HP6.out).mono ?_
        rintro e w7 ⟨v8, C, rfl, hp7, hs7, hb7⟩
        have hb07 := hb06.trans (hb7.mono hb06.size)
        have HP7 := Lib.hid hp7
        have HS7 := Lib.hid hs7
        clear hp7 hs7
        go_wp2_with fail
        refine (HMA.out _ hb07).mono ?_
        rintro e w8 ⟨v9, Z, rfl, hp8, hs8, _, hb8⟩
        have hb08 := hb07.trans (hb8.mono hb07.size)
        have HP8 := Lib.hid hp8
        have HS8 := Lib.hid hs8
        clear hp8 hs8
        go_wp2_with fail
        refine (HSA.out _ _ _ C Z (HP7.out.below hb8) HP8.out HS7.out HS8.out).mono ?_
        rintro e w9 ⟨rfl, hb9⟩
        go_wp2
        go_ret
        exact ⟨rfl, hb08.trans (hb9.mono hb08.size)⟩
end Go.Proofs.YtbogpbjddaoeiaaGreatDoor
