import Derived.Test.YtbogpbjddaoeiaaGreatDoorPlainQZ
import Derived.Test.YtbogpbjddaoeiaaGreatDoorPtsZ
import Derived.Test.YtbogpbjddaoeiaaGreatDoorValsZ
namespace Go.Proofs.YtbogpbjddaoeiaaGreatDoor
open Go.RowKit Go.Shelf
open Go.Lib (decDigits itoa nDigits)
theorem bad24 : ratB (⟨#[50, 47, 52]⟩ : ByteArray).data.toList = false := by
  cases h : ratB (⟨#[50, 47, 52]⟩ : ByteArray).data.toList
  · rfl
  · exfalso
    have h1 : ratOk ([50] ++ 47 :: [52]) := ratB_iff.1 h
    obtain ⟨n, d, hn, _, hd, _, _, _, hg⟩ := (ratOk_slash (by decide)).1 h1
    have e1 : n = 2 := itoa_inj (hn.symm.trans (by rw [show (2 : Int) = ((2 : Nat) : Int) from rfl, itoa_nat, decDigits_small (by decide)]; decide))
    have e2 : d = 4 := itoa_inj (hd.symm.trans (by rw [show (4 : Int) = ((4 : Nat) : Int) from rfl, itoa_nat, decDigits_small (by decide)]; decide))
    rw [e1, e2] at hg
    exact absurd hg (by decide)
def RetS (v : Value) (w : World) (e : Ending) (w' : World) : Prop := e = .returned v ∧ Below w.heap.size w w'
theorem rets_ok {q : Rat} {w : World} {e : Ending} {w' : World} (h : OkPost q w e w') : RetS (.tuple #[.string (tx q), .int .i64 0]) w e w' := by
  obtain ⟨r, he, hr, hb⟩ := h
  exact ⟨by rw [he, hr.unique (isR_mk q)], hb⟩
theorem rets_frac {q : Rat} {w : World} {e : Ending} {w' : World} (h : FracPost q w e w') : RetS (fracV q) w e w' := h
set_option maxRecDepth 100000 in
set_option maxHeartbeats 8000000 in
theorem law_RangesValues (v : Value) (D : List Duo) (qs sg : Int) (w : World) (hw : Good w) (hv : Duos w v D) (hq1 : -32768 ≤ qs) (hq2 : qs ≤ 32767) :
    Calls Tryz.prog 7 #[v, .int .i16 qs, .int .i64 sg] w fun e w' => e = .returned (.bool true) ∧ Below w.heap.size w w' := by
  have HKN := Lib.hid (fun w' (hb : Below w.heap.size w w') => law_known w' (hw.below hb))
  have HPT := Lib.hid (fun w' (hb : Below w.heap.size w w') => law_points v D w' (hv.below hb))
  have hok := hv.ok
  obtain ⟨p, c, rfl, hc, hmx, _⟩ := hv
  by_cases h8 : 8 < D.length
  · have e1 : decide ((8 : Int) < (D.length : Int)) = true := decide_eq_true (by omega)
    generalize D.length = n at hc e1 HPT ⊢
    clear h8 HPT
    go_enter Tryz.func7, Tryz.ntmps7
    go_wp2_with fail
    refine (HKN.out w (Below.refl _ _)).mono ?_
    rintro e w1 ⟨rfl, hb1⟩
    go_wp2_with fail
    refine (HKN.out w1 hb1).mono ?_
    rintro e w2 ⟨rfl, hb2⟩
    go_wp2
    go_ret
    exact ⟨rfl, hb1.trans (hb2.mono hb1.size)⟩
  · have e1 : decide ((8 : Int) < (D.length : Int)) = false := decide_eq_false (by omega)
    obtain ⟨Q, hQ⟩ : ∃ Q, Q = ptsQ D := ⟨_, rfl⟩
    obtain ⟨hl0, hl8⟩ := ptsQ_len D
    have hfr := ptsQ_fr hok
    have hasc := ptsQ_asc D
    unfold PtsPost at HPT
    rw [← hQ] at hl0 hl8 hfr hasc HPT
    obtain ⟨x, hx⟩ : ∃ x, x = mkRat qs 4 := ⟨_, rfl⟩
    have hxf : Fr 40000 4 x := by rw [hx]; exact Fr.mkRat (by decide) (by omega) (Nat.le_refl _)
    have HMK := Lib.hid (fun w' => (hx ▸ ref_Make qs 4 w' (by omega) (by omega) (by decide) (by decide) : Calls Tryz.prog 26 #[.int .i64 qs, .int .i64 4] w' fun e w'' => e = .returned (fracV x) ∧ Below w'.heap.size w' w''))
    obtain ⟨L, hL⟩ : ∃ L, L = Q.map textP := ⟨_, rfl⟩
    have hrats : rats L = Q := by rw [hL]; exact texts_rats hfr
    have hkerr : knotsErr L = 0 := by rw [hL]; exact texts_err hfr hasc hl0 (by omega)
    have hLl : L.length = Q.length := by rw [hL, List.length_map]
    have hsz : SzOk L := szOk_of (knotsErr_ok hkerr).1
    have HKT := Lib.hid (fun w' u (h : Quads w' u Q) => (hL ▸ law_knots u Q w' h hfr (by omega) : Calls Tryz.prog 28 #[u] w' fun e w'' => ∃ v, e = .returned v ∧ Pairs w'' v L ∧ Below w'.heap.size w' w''))
    have HTX := Lib.hid (fun w' => ref_Text' x w' (hxf.mono (by omega) (by omega)))
    obtain ⟨hxb, hxv⟩ := okR2 hxf (by decide) (by decide)
    have hvf := valueQ_fr hfr hasc hxf hl0
    have hval : valueV L (ratV (tx x)) = valueQ Q x := by rw [hxv, valueV_rats, hrats]
    have hseg : segN L (ratV (tx x)) = cntQ Q x := by rw [hxv, segN_rats, hrats, cntQ_seg hasc]
    have HVA := Lib.hid (fun w' u (hg : Good w') (h : Pairs w' u L) => (value_ok u L (tx x) w' hg h hkerr hxb (by rw [hval]; simpa using (okR2 hvf (by decide) (by decide)).1)).mono (R' := RetS (.tuple #[.string (tx (valueQ Q x)), .int .i64 0]) w') (fun e w'' h => rets_ok (hval ▸ h)))
    have HSG := Lib.hid (fun w' u (hg : Good w') (h : Pairs w' u L) => (hseg ▸ segment_ok u L (tx x) w' hg h hkerr hxb : Calls Tryz.prog 37 #[u, .string (tx x)] w' fun e w'' => e = .returned (.tuple #[.int .i64 ((cntQ Q x : Nat) : Int), .int .i64 0]) ∧ Below w'.heap.size w' w''))
    have HVB := Lib.hid (fun w' u (hg : Good w') (h : Pairs w' u L) => value_num u L ⟨#[50, 47, 52]⟩ (by decide) w' hg h hsz hkerr bad24)
    have HRV := Lib.hid (fun w' u (h : Quads w' u Q) => ref_Value u Q x w' h hfr hasc hxf (by omega) hl0)
    have HTV := Lib.hid (fun w' => ref_Text' (valueQ Q x) w' (hvf.mono (by omega) (by omega)))
    have HRS := Lib.hid (fun w' u (h : Quads w' u Q) => ref_Segment u Q x w' h hfr hxf (by omega))
    have hbig := hw.big
    unfold fracV at HMK HTX HRV HTV HRS
    unfold FracPost fracV at HRV
    by_cases hsg : sg < 0 ∨ (Q.length : Int) < sg
    · have HSL := Lib.hid (fun w' u (hg : Good w') (h : Pairs w' u L) => slope_range u L sg w' hg h hkerr (by rw [hLl]; exact hsg))
      have hqm : Q.length ≤ 8 := hl8
      obtain ⟨ql, hql⟩ : ∃ ql, Q.length = ql := ⟨_, rfl⟩
      have hqp : ∀ (W : World) (u : Value), Quads W u Q → ∃ p c, u = .slice p ql c := fun W u h => by
        obtain ⟨p, c, h1, _⟩ := h
        exact ⟨p, c, by rw [h1, hql]⟩
      have HQP := Lib.hid hqp
      rw [hql] at hsg
      clear hqp hql hqm hl0 hl8 hfr hasc hrats hkerr hLl hsz hxb hxv hval hseg hvf hxf hL hok hQ hx
      generalize tx (valueQ Q x) = sv at *
      generalize (valueQ Q x).num = vn at *
      generalize ((valueQ Q x).den : Int) = vd at *
      generalize tx x = sx at *
      generalize x.num = xn at *
      generalize (x.den : Int) = xd at *
      generalize cntQ Q x = n0 at *
      by_cases hs0 : sg < 0
      · have k1 : decide (sg < 0) = true := decide_eq_true hs0
        go_enter Tryz.func7, Tryz.ntmps7
        go_wp2_with fail
        refine (HKN.out w (Below.refl _ _)).mono ?_
        rintro e w1 ⟨rfl, hb1⟩
        go_wp2_with fail
        refine (HPT.out w1 hb1).mono ?_
        rintro e w2 ⟨vf, rfl, hqd, hb2⟩
        have hbw2 := hb1.trans (hb2.mono hb1.size)
        obtain ⟨pf, cf, rfl⟩ := HQP.out w2 vf hqd
        go_wp2_with fail
        refine (HMK.out w2).mono ?_
        rintro e w3 ⟨rfl, hb3⟩
        have hbw3 := hbw2.trans (hb3.mono hbw2.size)
        obtain ⟨w4, hw4⟩ : ∃ w4, w4 = w3.alloc (Obj.cells #[.int .i64 xn, .int .i64 xd] 47) := ⟨_, rfl⟩
        have hb4 : Below w3.heap.size w3 w4 := by rw [hw4]; exact alloc_below _ _
        have hbw4 := hbw3.trans (hb4.mono hbw3.size)
        have hx4 : w4.heap[w3.heap.size]? = some (.cells #[.int .i64 xn, .int .i64 xd] 47 (0, 0)) := by rw [hw4]; exact World.alloc_heap_new _ _
        have hqd4 := (hqd.below hb3).below hb4
        have HW4 := Lib.hid hw4
        clear hw4 hqd
        go_wp2_with fail
        rw [← HW4.out]
        have hxl4 := lt_of_some hx4
        obtain ⟨y0, y1, _, _⟩ := two_cells hx4
        have HQD4 := Lib.hid hqd4
        have HX4 := Lib.hid hx4
        clear hqd4 hx4
        go_region_held3 (fun W => W.cell? ⟨w3.heap.size, 0, none⟩ = some (.int .i64 xn) ∧ W.cell? ⟨w3.heap.size, 1, none⟩ = some (.int .i64 xd) ∧ Below w4.heap.size w4 W)
          (first | exact ord_drew y0 y1 | (refine ord_keep hxl4 hxl4 (by assumption) ?_; first | assumption | (go_split_ands; refine ⟨?_, ?_, ?_⟩ <;> assumption)))
          (first
            | (go_at_call 28; refine (HKT.out _ _ ?_).mono ?_; exact HQD4.out.below (OrdS.low (by assumption)); rintro e wk ⟨uk, rfl, hpk, hbk⟩)
            | (go_at_call 29; refine (HTX.out _).mono ?_; rintro e wt ⟨rfl, hbt⟩)
            | (go_at_call 36; refine (HVA.out _ uk ?_ (hpk.below hbt)).mono ?_; exact hw.below (hbw4.trans ((OrdS.low (by assumption)).mono hbw4.size)); rintro e w5 ⟨rfl, hb5⟩))
        have hlow5 : Below w4.heap.size w4 w5 := OrdS.low (by assumption)
        have hbw5 := hbw4.trans (hlow5.mono hbw4.size)
        have hqd5 := HQD4.out.below hlow5
        have hx5 := (hlow5.block _ (lt_of_some HX4.out)).trans HX4.out
        have hxl5 := lt_of_some hx5
        obtain ⟨z0, z1, _, _⟩ := two_cells hx5
        have HQD5 := Lib.hid hqd5
        have HX5 := Lib.hid hx5
        clear hqd5 hx5 y0 y1 hpk hbt hbk hb5
        go_wp2_with fail
        go_region_held3 (fun W => W.cell? ⟨w3.heap.size, 0, none⟩ = some (.int .i64 xn) ∧ W.cell? ⟨w3.heap.size, 1, none⟩ = some (.int .i64 xd) ∧ Below w5.heap.size w5 W)
          (first | exact ord_drew z0 z1 | (refine ord_keep hxl5 hxl5 (by assumption) ?_; first | assumption | (go_split_ands; refine ⟨?_, ?_, ?_⟩ <;> assumption)))
          (first
            | (go_at_call 28; refine (HKT.out _ _ ?_).mono ?_; exact HQD5.out.below (OrdS.low (by assumption)); rintro e wk2 ⟨uk2, rfl, hpk2, hbk2⟩)
            | (go_at_call 29; refine (HTX.out _).mono ?_; rintro e wt2 ⟨rfl, hbt2⟩)
            | (go_at_call 37; refine (HSG.out _ uk2 ?_ (hpk2.below hbt2)).mono ?_; exact hw.below (hbw5.trans ((OrdS.low (by assumption)).mono hbw5.size)); rintro e w6 ⟨rfl, hb6⟩))
        have hlow6 : Below w5.heap.size w5 w6 := OrdS.low (by assumption)
        have hbw6 := hbw5.trans (hlow6.mono hbw5.size)
        have hqd6 := HQD5.out.below hlow6
        have hx6 := (hlow6.block _ (lt_of_some HX5.out)).trans HX5.out
        clear z0 z1 hpk2 hbt2 hbk2 hb6
        clear HX4 HQD4 HX5 HQD5 hlow5 hlow6 hxl4 hxl5
        obtain ⟨z0, z1, _, _⟩ := two_cells hx6
        clear z0 z1
        go_wp2_with fail
        refine (HKT.out _ _ hqd6).mono ?_
        rintro e w7 ⟨uk3, rfl, hpk3, hb7⟩
        have hbw7 := hbw6.trans (hb7.mono hbw6.size)
        have hqd7 := hqd6.below hb7
        have hx7 := (hb7.block _ (lt_of_some hx6)).trans hx6
        clear hqd6 hx6
        go_wp2_with fail
        refine (HSL.out _ _ (hw.below hbw7) hpk3).mono ?_
        rintro e w8 ⟨rfl, hb8⟩
        have hbw8 := hbw7.trans (hb8.mono hbw7.size)
        have hqd8 := hqd7.below hb8
        have hx8 := (hb8.block _ (lt_of_some hx7)).trans hx7
        clear hqd7 hx7 hpk3
        go_wp2_with fail
        refine (HKT.out _ _ hqd8).mono ?_
        rintro e w9 ⟨uk4, rfl, hpk4, hb9⟩
        have hbw9 := hbw8.trans (hb9.mono hbw8.size)
        have hqd9 := hqd8.below hb9
        have hx9 := (hb9.block _ (lt_of_some hx8)).trans hx8
        clear hqd8 hx8
        go_wp2_with fail
        refine (HVB.out _ _ (hw.below hbw9) hpk4).mono ?_
        rintro e w10 ⟨rfl, hb10⟩
        have hbw10 := hbw9.trans (hb10.mono hbw9.size)
        have hqd10 := hqd9.below hb10
        have hx10 := (hb10.block _ (lt_of_some hx9)).trans hx9
        clear hqd9 hx9 hpk4
        obtain ⟨z0, z1, _, _⟩ := two_cells hx10
        go_wp2_with fail
        refine (HRV.out _ _ hqd10).mono ?_
        rintro e w11 ⟨rfl, hb11⟩
        have hbw11 := hbw10.trans (hb11.mono hbw10.size)
        have hqd11 := hqd10.below hb11
        have hx11 := (hb11.block _ (lt_of_some hx10)).trans hx10
        clear hqd10 hx10 z0 z1
        go_wp2_with fail
        refine (HTV.out _).mono ?_
        rintro e w12 ⟨rfl, hb12⟩
        have hbw12 := hbw11.trans (hb12.mono hbw11.size)
        have hqd12 := hqd11.below hb12
        have hx12 := (hb12.block _ (lt_of_some hx11)).trans hx11
        clear hqd11 hx11
        obtain ⟨z0, z1, _, _⟩ := two_cells hx12
        go_wp2_with fail
        refine (HRS.out _ _ hqd12).mono ?_
        rintro e w13 ⟨rfl, hb13⟩
        have hbw13 := hbw12.trans (hb13.mono hbw12.size)
        have hqd13 := hqd12.below hb13
        clear hqd12 hx12 z0 z1
        go_wp2
        go_ret
        exact ⟨rfl, hbw13⟩
      · have k1 : decide (sg < 0) = false := decide_eq_false hs0
        have k2 : decide ((ql : Int) < sg) = true := decide_eq_true (by omega)
        go_enter Tryz.func7, Tryz.ntmps7
        go_wp2_with fail
        refine (HKN.out w (Below.refl _ _)).mono ?_
        rintro e w1 ⟨rfl, hb1⟩
        go_wp2_with fail
        refine (HPT.out w1 hb1).mono ?_
        rintro e w2 ⟨vf, rfl, hqd, hb2⟩
        have hbw2 := hb1.trans (hb2.mono hb1.size)
        obtain ⟨pf, cf, rfl⟩ := HQP.out w2 vf hqd
        go_wp2_with fail
        refine (HMK.out w2).mono ?_
        rintro e w3 ⟨rfl, hb3⟩
        have hbw3 := hbw2.trans (hb3.mono hbw2.size)
        obtain ⟨w4, hw4⟩ : ∃ w4, w4 = w3.alloc (Obj.cells #[.int .i64 xn, .int .i64 xd] 47) := ⟨_, rfl⟩
        have hb4 : Below w3.heap.size w3 w4 := by rw [hw4]; exact alloc_below _ _
        have hbw4 := hbw3.trans (hb4.mono hbw3.size)
        have hx4 : w4.heap[w3.heap.size]? = some (.cells #[.int .i64 xn, .int .i64 xd] 47 (0, 0)) := by rw [hw4]; exact World.alloc_heap_new _ _
        have hqd4 := (hqd.below hb3).below hb4
        have HW4 := Lib.hid hw4
        clear hw4 hqd
        go_wp2_with fail
        rw [← HW4.out]
        have hxl4 := lt_of_some hx4
        obtain ⟨y0, y1, _, _⟩ := two_cells hx4
        have HQD4 := Lib.hid hqd4
        have HX4 := Lib.hid hx4
        clear hqd4 hx4
        go_region_held3 (fun W => W.cell? ⟨w3.heap.size, 0, none⟩ = some (.int .i64 xn) ∧ W.cell? ⟨w3.heap.size, 1, none⟩ = some (.int .i64 xd) ∧ Below w4.heap.size w4 W)
          (first | exact ord_drew y0 y1 | (refine ord_keep hxl4 hxl4 (by assumption) ?_; first | assumption | (go_split_ands; refine ⟨?_, ?_, ?_⟩ <;> assumption)))
          (first
            | (go_at_call 28; refine (HKT.out _ _ ?_).mono ?_; exact HQD4.out.below (OrdS.low (by assumption)); rintro e wk ⟨uk, rfl, hpk, hbk⟩)
            | (go_at_call 29; refine (HTX.out _).mono ?_; rintro e wt ⟨rfl, hbt⟩)
            | (go_at_call 36; refine (HVA.out _ uk ?_ (hpk.below hbt)).mono ?_; exact hw.below (hbw4.trans ((OrdS.low (by assumption)).mono hbw4.size)); rintro e w5 ⟨rfl, hb5⟩))
        have hlow5 : Below w4.heap.size w4 w5 := OrdS.low (by assumption)
        have hbw5 := hbw4.trans (hlow5.mono hbw4.size)
        have hqd5 := HQD4.out.below hlow5
        have hx5 := (hlow5.block _ (lt_of_some HX4.out)).trans HX4.out
        have hxl5 := lt_of_some hx5
        obtain ⟨z0, z1, _, _⟩ := two_cells hx5
        have HQD5 := Lib.hid hqd5
        have HX5 := Lib.hid hx5
        clear hqd5 hx5 y0 y1 hpk hbt hbk hb5
        go_wp2_with fail
        go_region_held3 (fun W => W.cell? ⟨w3.heap.size, 0, none⟩ = some (.int .i64 xn) ∧ W.cell? ⟨w3.heap.size, 1, none⟩ = some (.int .i64 xd) ∧ Below w5.heap.size w5 W)
          (first | exact ord_drew z0 z1 | (refine ord_keep hxl5 hxl5 (by assumption) ?_; first | assumption | (go_split_ands; refine ⟨?_, ?_, ?_⟩ <;> assumption)))
          (first
            | (go_at_call 28; refine (HKT.out _ _ ?_).mono ?_; exact HQD5.out.below (OrdS.low (by assumption)); rintro e wk2 ⟨uk2, rfl, hpk2, hbk2⟩)
            | (go_at_call 29; refine (HTX.out _).mono ?_; rintro e wt2 ⟨rfl, hbt2⟩)
            | (go_at_call 37; refine (HSG.out _ uk2 ?_ (hpk2.below hbt2)).mono ?_; exact hw.below (hbw5.trans ((OrdS.low (by assumption)).mono hbw5.size)); rintro e w6 ⟨rfl, hb6⟩))
        have hlow6 : Below w5.heap.size w5 w6 := OrdS.low (by assumption)
        have hbw6 := hbw5.trans (hlow6.mono hbw5.size)
        have hqd6 := HQD5.out.below hlow6
        have hx6 := (hlow6.block _ (lt_of_some HX5.out)).trans HX5.out
        clear z0 z1 hpk2 hbt2 hbk2 hb6
        clear HX4 HQD4 HX5 HQD5 hlow5 hlow6 hxl4 hxl5
        obtain ⟨z0, z1, _, _⟩ := two_cells hx6
        clear z0 z1
        go_wp2_with fail
        refine (HKT.out _ _ hqd6).mono ?_
        rintro e w7 ⟨uk3, rfl, hpk3, hb7⟩
        have hbw7 := hbw6.trans (hb7.mono hbw6.size)
        have hqd7 := hqd6.below hb7
        have hx7 := (hb7.block _ (lt_of_some hx6)).trans hx6
        clear hqd6 hx6
        go_wp2_with fail
        refine (HSL.out _ _ (hw.below hbw7) hpk3).mono ?_
        rintro e w8 ⟨rfl, hb8⟩
        have hbw8 := hbw7.trans (hb8.mono hbw7.size)
        have hqd8 := hqd7.below hb8
        have hx8 := (hb8.block _ (lt_of_some hx7)).trans hx7
        clear hqd7 hx7 hpk3
        go_wp2_with fail
        refine (HKT.out _ _ hqd8).mono ?_
        rintro e w9 ⟨uk4, rfl, hpk4, hb9⟩
        have hbw9 := hbw8.trans (hb9.mono hbw8.size)
        have hqd9 := hqd8.below hb9
        have hx9 := (hb9.block _ (lt_of_some hx8)).trans hx8
        clear hqd8 hx8
        go_wp2_with fail
        refine (HVB.out _ _ (hw.below hbw9) hpk4).mono ?_
        rintro e w10 ⟨rfl, hb10⟩
        have hbw10 := hbw9.trans (hb10.mono hbw9.size)
        have hqd10 := hqd9.below hb10
        have hx10 := (hb10.block _ (lt_of_some hx9)).trans hx9
        clear hqd9 hx9 hpk4
        obtain ⟨z0, z1, _, _⟩ := two_cells hx10
        go_wp2_with fail
        refine (HRV.out _ _ hqd10).mono ?_
        rintro e w11 ⟨rfl, hb11⟩
        have hbw11 := hbw10.trans (hb11.mono hbw10.size)
        have hqd11 := hqd10.below hb11
        have hx11 := (hb11.block _ (lt_of_some hx10)).trans hx10
        clear hqd10 hx10 z0 z1
        go_wp2_with fail
        refine (HTV.out _).mono ?_
        rintro e w12 ⟨rfl, hb12⟩
        have hbw12 := hbw11.trans (hb12.mono hbw11.size)
        have hqd12 := hqd11.below hb12
        have hx12 := (hb12.block _ (lt_of_some hx11)).trans hx11
        clear hqd11 hx11
        obtain ⟨z0, z1, _, _⟩ := two_cells hx12
        go_wp2_with fail
        refine (HRS.out _ _ hqd12).mono ?_
        rintro e w13 ⟨rfl, hb13⟩
        have hbw13 := hbw12.trans (hb13.mono hbw12.size)
        have hqd13 := hqd12.below hb13
        clear hqd12 hx12 z0 z1
        go_wp2
        go_ret
        exact ⟨rfl, hbw13⟩
    · obtain ⟨n, hn⟩ : ∃ n : Nat, sg = (n : Int) := ⟨sg.toNat, by omega⟩
      have hnq : n ≤ Q.length := by omega
      have hsf := slopeQ_fr hfr hasc hnq
      have hslo : slopeV L n = slopeQ Q n := by rw [slopeV_rats, hrats]
      rw [hn]
      have HSL := Lib.hid (fun w' u (hg : Good w') (h : Pairs w' u L) => (slope_ok u L n w' hg h hkerr (by omega) (by rw [hslo]; simpa using (okR2 hsf (by decide) (by decide)).1)).mono (R' := RetS (.tuple #[.string (tx (slopeQ Q n)), .int .i64 0]) w') (fun e w'' h => rets_ok (hslo ▸ h)))
      have HRL := Lib.hid (fun w' u (h : Quads w' u Q) => ref_Slope u Q n w' h hfr hasc hnq (by omega))
      have HTL := Lib.hid (fun w' => ref_Text' (slopeQ Q n) w' (hsf.mono (by omega) (by omega)))
      unfold fracV at HRL HTL
      unfold FracPost fracV at HRL
      have k1 : decide ((n : Int) < 0) = false := decide_eq_false (by omega)
      have k2 : decide ((Q.length : Int) < (n : Int)) = false := decide_eq_false (by omega)
      obtain ⟨ql, hql⟩ : ∃ ql, Q.length = ql := ⟨_, rfl⟩
      have hqp : ∀ (W : World) (u : Value), Quads W u Q → ∃ p c, u = .slice p ql c := fun W u h => by
        obtain ⟨p, c, h1, _⟩ := h
        exact ⟨p, c, by rw [h1, hql]⟩
      have HQP := Lib.hid hqp
      rw [hql] at k2
      have k3 : ¬ ql < n := by omega
      have k4 : n ≤ ql := by omega
      have k5 : decide (ql < n) = false := decide_eq_false k3
      clear hqp hql hl0 hl8 hfr hasc hrats hkerr hLl hsz hxb hxv hval hseg hvf hxf hL hok hQ hx hsf hslo hnq hsg hn
      generalize tx (valueQ Q x) = sv at *
      generalize (valueQ Q x).num = vn at *
      generalize ((valueQ Q x).den : Int) = vd at *
      generalize tx x = sx at *
      generalize x.num = xn at *
      generalize (x.den : Int) = xd at *
      generalize cntQ Q x = n0 at *
      generalize tx (slopeQ Q n) = ss at *
      generalize (slopeQ Q n).num = ln at *
      generalize ((slopeQ Q n).den : Int) = ld at *
      go_enter Tryz.func7, Tryz.ntmps7
      go_wp2_with fail
      refine (HKN.out w (Below.refl _ _)).mono ?_
      rintro e w1 ⟨rfl, hb1⟩
      go_wp2_with fail
      refine (HPT.out w1 hb1).mono ?_
      rintro e w2 ⟨vf, rfl, hqd, hb2⟩
      have hbw2 := hb1.trans (hb2.mono hb1.size)
      obtain ⟨pf, cf, rfl⟩ := HQP.out w2 vf hqd
      go_wp2_with fail
      refine (HMK.out w2).mono ?_
      rintro e w3 ⟨rfl, hb3⟩
      have hbw3 := hbw2.trans (hb3.mono hbw2.size)
      obtain ⟨w4, hw4⟩ : ∃ w4, w4 = w3.alloc (Obj.cells #[.int .i64 xn, .int .i64 xd] 47) := ⟨_, rfl⟩
      have hb4 : Below w3.heap.size w3 w4 := by rw [hw4]; exact alloc_below _ _
      have hbw4 := hbw3.trans (hb4.mono hbw3.size)
      have hx4 : w4.heap[w3.heap.size]? = some (.cells #[.int .i64 xn, .int .i64 xd] 47 (0, 0)) := by rw [hw4]; exact World.alloc_heap_new _ _
      have hqd4 := (hqd.below hb3).below hb4
      have HW4 := Lib.hid hw4
      clear hw4 hqd
      go_wp2_with fail
      rw [← HW4.out]
      have hxl4 := lt_of_some hx4
      obtain ⟨y0, y1, _, _⟩ := two_cells hx4
      have HQD4 := Lib.hid hqd4
      have HX4 := Lib.hid hx4
      clear hqd4 hx4
      go_region_held3 (fun W => W.cell? ⟨w3.heap.size, 0, none⟩ = some (.int .i64 xn) ∧ W.cell? ⟨w3.heap.size, 1, none⟩ = some (.int .i64 xd) ∧ Below w4.heap.size w4 W)
        (first | exact ord_drew y0 y1 | (refine ord_keep hxl4 hxl4 (by assumption) ?_; first | assumption | (go_split_ands; refine ⟨?_, ?_, ?_⟩ <;> assumption)))
        (first
          | (go_at_call 28; refine (HKT.out _ _ ?_).mono ?_; exact HQD4.out.below (OrdS.low (by assumption)); rintro e wk ⟨uk, rfl, hpk, hbk⟩)
          | (go_at_call 29; refine (HTX.out _).mono ?_; rintro e wt ⟨rfl, hbt⟩)
          | (go_at_call 36; refine (HVA.out _ uk ?_ (hpk.below hbt)).mono ?_; exact hw.below (hbw4.trans ((OrdS.low (by assumption)).mono hbw4.size)); rintro e w5 ⟨rfl, hb5⟩))
      have hlow5 : Below w4.heap.size w4 w5 := OrdS.low (by assumption)
      have hbw5 := hbw4.trans (hlow5.mono hbw4.size)
      have hqd5 := HQD4.out.below hlow5
      have hx5 := (hlow5.block _ (lt_of_some HX4.out)).trans HX4.out
      have hxl5 := lt_of_some hx5
      obtain ⟨z0, z1, _, _⟩ := two_cells hx5
      have HQD5 := Lib.hid hqd5
      have HX5 := Lib.hid hx5
      clear hqd5 hx5 y0 y1 hpk hbt hbk hb5
      go_wp2_with fail
      go_region_held3 (fun W => W.cell? ⟨w3.heap.size, 0, none⟩ = some (.int .i64 xn) ∧ W.cell? ⟨w3.heap.size, 1, none⟩ = some (.int .i64 xd) ∧ Below w5.heap.size w5 W)
        (first | exact ord_drew z0 z1 | (refine ord_keep hxl5 hxl5 (by assumption) ?_; first | assumption | (go_split_ands; refine ⟨?_, ?_, ?_⟩ <;> assumption)))
        (first
          | (go_at_call 28; refine (HKT.out _ _ ?_).mono ?_; exact HQD5.out.below (OrdS.low (by assumption)); rintro e wk2 ⟨uk2, rfl, hpk2, hbk2⟩)
          | (go_at_call 29; refine (HTX.out _).mono ?_; rintro e wt2 ⟨rfl, hbt2⟩)
          | (go_at_call 37; refine (HSG.out _ uk2 ?_ (hpk2.below hbt2)).mono ?_; exact hw.below (hbw5.trans ((OrdS.low (by assumption)).mono hbw5.size)); rintro e w6 ⟨rfl, hb6⟩))
      have hlow6 : Below w5.heap.size w5 w6 := OrdS.low (by assumption)
      have hbw6 := hbw5.trans (hlow6.mono hbw5.size)
      have hqd6 := HQD5.out.below hlow6
      have hx6 := (hlow6.block _ (lt_of_some HX5.out)).trans HX5.out
      clear z0 z1 hpk2 hbt2 hbk2 hb6
      clear HX4 HQD4 HX5 HQD5 hlow5 hlow6 hxl4 hxl5
      obtain ⟨z0, z1, _, _⟩ := two_cells hx6
      clear z0 z1
      go_wp2_with fail
      refine (HKT.out _ _ hqd6).mono ?_
      rintro e w7 ⟨uk3, rfl, hpk3, hb7⟩
      have hbw7 := hbw6.trans (hb7.mono hbw6.size)
      have hqd7 := hqd6.below hb7
      have hx7 := (hb7.block _ (lt_of_some hx6)).trans hx6
      clear hqd6 hx6
      go_wp2_with fail
      refine (HSL.out _ _ (hw.below hbw7) hpk3).mono ?_
      rintro e w8 ⟨rfl, hb8⟩
      have hbw8 := hbw7.trans (hb8.mono hbw7.size)
      have hqd8 := hqd7.below hb8
      have hx8 := (hb8.block _ (lt_of_some hx7)).trans hx7
      clear hqd7 hx7 hpk3
      go_wp2_with fail
      refine (HKT.out _ _ hqd8).mono ?_
      rintro e w9 ⟨uk4, rfl, hpk4, hb9⟩
      have hbw9 := hbw8.trans (hb9.mono hbw8.size)
      have hqd9 := hqd8.below hb9
      have hx9 := (hb9.block _ (lt_of_some hx8)).trans hx8
      clear hqd8 hx8
      go_wp2_with fail
      refine (HVB.out _ _ (hw.below hbw9) hpk4).mono ?_
      rintro e w10 ⟨rfl, hb10⟩
      have hbw10 := hbw9.trans (hb10.mono hbw9.size)
      have hqd10 := hqd9.below hb10
      have hx10 := (hb10.block _ (lt_of_some hx9)).trans hx9
      clear hqd9 hx9 hpk4
      obtain ⟨z0, z1, _, _⟩ := two_cells hx10
      go_wp2_with fail
      refine (HRV.out _ _ hqd10).mono ?_
      rintro e w11 ⟨rfl, hb11⟩
      have hbw11 := hbw10.trans (hb11.mono hbw10.size)
      have hqd11 := hqd10.below hb11
      have hx11 := (hb11.block _ (lt_of_some hx10)).trans hx10
      clear hqd10 hx10 z0 z1
      go_wp2_with fail
      refine (HTV.out _).mono ?_
      rintro e w12 ⟨rfl, hb12⟩
      have hbw12 := hbw11.trans (hb12.mono hbw11.size)
      have hqd12 := hqd11.below hb12
      have hx12 := (hb12.block _ (lt_of_some hx11)).trans hx11
      clear hqd11 hx11
      obtain ⟨z0, z1, _, _⟩ := two_cells hx12
      go_wp2_with fail
      refine (HRS.out _ _ hqd12).mono ?_
      rintro e w13 ⟨rfl, hb13⟩
      have hbw13 := hbw12.trans (hb13.mono hbw12.size)
      have hqd13 := hqd12.below hb13
      clear hqd12 hx12 z0 z1

      go_wp2_with fail
      refine (HRL.out _ _ hqd13).mono ?_
      rintro e w14 ⟨rfl, hb14⟩
      have hbw14 := hbw13.trans (hb14.mono hbw13.size)
      go_wp2_with fail
      refine (HTL.out _).mono ?_
      rintro e w15 ⟨rfl, hb15⟩
      have hbw15 := hbw14.trans (hb15.mono hbw14.size)
      go_wp2
      go_ret
      exact ⟨rfl, hbw15⟩
end Go.Proofs.YtbogpbjddaoeiaaGreatDoor
