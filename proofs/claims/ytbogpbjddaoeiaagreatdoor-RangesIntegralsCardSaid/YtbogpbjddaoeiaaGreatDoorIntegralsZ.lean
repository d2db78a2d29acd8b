import Derived.Test.YtbogpbjddaoeiaaGreatDoorPlainQZ
import Derived.Test.YtbogpbjddaoeiaaGreatDoorInts1Z
import Derived.Test.YtbogpbjddaoeiaaGreatDoorIntRZ
namespace Go.Proofs.YtbogpbjddaoeiaaGreatDoor
open Go.RowKit Go.Shelf
open Go.Lib (decDigits itoa nDigits)
set_option maxRecDepth 100000 in
set_option maxHeartbeats 8000000 in
theorem law_RangesIntegrals (v : Value) (D : List Duo) (lw ln : Int) (w : World) (hw : Good w) (hv : Duos w v D) (hl1 : -128 ≤ lw) (hl2 : lw ≤ 127) (hn1 : 0 ≤ ln) (hn2 : ln ≤ 255) :
    Calls Tryz.prog 4 #[v, .int .i8 lw, .int .u8 ln] w fun e w' => e = .returned (.bool true) ∧ Below w.heap.size w w' := by
  have HKN := Lib.hid (fun w' (hb : Below w.heap.size w w') => law_known w' (hw.below hb))
  have HPT := Lib.hid (fun w' (hb : Below w.heap.size w w') => law_points v D w' (hv.below hb))
  have hok := hv.ok
  obtain ⟨p, c, rfl, hc, hmx, _⟩ := hv
  by_cases h8 : 8 < D.length
  · have e1 : decide ((8 : Int) < (D.length : Int)) = true := decide_eq_true (by omega)
    generalize D.length = n at hc e1 HPT ⊢
    clear h8 HPT
    go_enter Tryz.func4, Tryz.ntmps4
    go_wp2_with fail
    refine (HKN.out w (Below.refl _ _)).mono ?_
    rintro e w1 ⟨rfl, hb1⟩
    go_wp2_with fail
    refine (HKN.out w1 hb1).mono ?_
    rintro e w2 ⟨rfl, hb2⟩
    go_wp2
    go_ret
    exact ⟨rfl, hb1.trans (hb2.mono hb1.size)⟩
  · have e1 : decide ((8 : Int) < (D.length : Int)) = false := decide_eq_false (by omega)
    obtain ⟨Q, hQ⟩ : ∃ Q, Q = ptsQ D := ⟨_, rfl⟩
    obtain ⟨hl0, hl8⟩ := ptsQ_len D
    have hfr := ptsQ_fr hok
    have hasc := ptsQ_asc D
    have hH := halved_ptsQ hok
    unfold PtsPost at HPT
    rw [← hQ] at hl0 hl8 hfr hasc hH HPT
    obtain ⟨x, hx⟩ : ∃ x, x = mkRat lw 2 := ⟨_, rfl⟩
    obtain ⟨y, hy⟩ : ∃ y, y = mkRat (lw + 1 + ln) 2 := ⟨_, rfl⟩
    have hxd : Dn 192 2 x := by rw [hx]; exact Dn.half (by omega)
    have hyd : Dn 192 2 y := by rw [hy]; exact Dn.half (by omega)
    have hxy : x < y := by rw [hx, hy]; exact half_lt (by omega)
    have hyx : ¬ y < x := fun h => Rat.lt_irrefl (rat_lt_trans hxy h)
    have hxf := hxd.fr (by decide)
    have hyf := hyd.fr (by decide)
    have HMK := Lib.hid (fun w' => (hx ▸ ref_Make lw 2 w' (by omega) (by omega) (by decide) (by decide) : Calls Tryz.prog 26 #[.int .i64 lw, .int .i64 2] w' fun e w'' => e = .returned (fracV x) ∧ Below w'.heap.size w' w''))
    have HML := Lib.hid (fun w' => (hy ▸ ref_Make (lw + 1 + ln) 2 w' (by omega) (by omega) (by decide) (by decide) : Calls Tryz.prog 26 #[.int .i64 (lw + 1 + ln), .int .i64 2] w' fun e w'' => e = .returned (fracV y) ∧ Below w'.heap.size w' w''))
    obtain ⟨L, hL⟩ : ∃ L, L = Q.map textP := ⟨_, rfl⟩
    have hrats : rats L = Q := by rw [hL]; exact texts_rats hfr
    have hkerr : knotsErr L = 0 := by rw [hL]; exact texts_err hfr hasc hl0 (by omega)
    have hLl : L.length = Q.length := by rw [hL, List.length_map]
    have HKT := Lib.hid (fun w' u (h : Quads w' u Q) => (hL ▸ law_knots u Q w' h hfr (by omega) : Calls Tryz.prog 28 #[u] w' fun e w'' => ∃ v, e = .returned v ∧ Pairs w'' v L ∧ Below w'.heap.size w' w''))
    have HTX := Lib.hid (fun w' => ref_Text' x w' (hxf.mono (by omega) (by omega)))
    have HTY := Lib.hid (fun w' => ref_Text' y w' (hyf.mono (by omega) (by omega)))
    obtain ⟨hxb, hxv⟩ := okR2 hxf (by decide) (by decide)
    obtain ⟨hyb, hyv⟩ := okR2 hyf (by decide) (by decide)
    have hxs := ratB_size hxb
    have hys := ratB_size hyb
    have hp1 : partErr (tx x) (tx y) = 0 := by rw [partErr_tx hxf hyf (by decide) (by decide) (by decide) (by decide), if_pos hxy]
    have hp2 : partErr (tx y) (tx x) = 7 := by rw [partErr_tx hyf hxf (by decide) (by decide) (by decide) (by decide), if_neg hyx]
    have hsd := sumS_dn hH hasc hl0 hl8 hxd hyd
    have hsum := sumI_tx hrats hasc hxv hyv
    have HRI := Lib.hid (fun w' u (h : Quads w' u Q) => ref_Integral u Q x y w' h hfr hH hasc hl8 hl0 hxd hyd)
    obtain ⟨sm, hsm⟩ : ∃ sm, sm = sumQ Q (pairsQ x (insQ x y Q ++ [y])) := ⟨_, rfl⟩
    rw [← hsm] at hsd hsum HRI
    have hsf := hsd.fr (by decide)
    have HIA := Lib.hid (fun w' u (hg : Good w') (h : Pairs w' u L) => (integral_ok u L (tx x) (tx y) w' hg h hkerr hp1 (by rw [hsum]; simpa using (okR2 hsf (by decide) (by decide)).1)).mono (R' := RetV (.tuple #[.string (tx sm), .int .i64 0]) w') (fun e w'' h => retv_ok (hsum ▸ h)))
    have HIB := Lib.hid (fun w' u (hg : Good w') (h : Pairs w' u L) => integral_err u L (tx y) (tx x) 7 w' hg h hkerr (by omega) (by omega) hp2 (by decide))
    have HIC := Lib.hid (fun w' u (hg : Good w') (h : Pairs w' u L) => integral_err u L ⟨#[48]⟩ ⟨#[48, 48]⟩ 2 w' hg h hkerr (by decide) (by decide) bad00 (by decide))
    have HTS := Lib.hid (fun w' => ref_Text' sm w' (hsf.mono (by omega) (by omega)))
    unfold fracV at HMK HML HTX HTY HRI HTS
    unfold FracPost fracV at HRI
    obtain ⟨ql, hql⟩ : ∃ ql, Q.length = ql := ⟨_, rfl⟩
    have hqp : ∀ (W : World) (u : Value), Quads W u Q → ∃ p c, u = .slice p ql c := fun W u h => by
      obtain ⟨p, c, h1, _⟩ := h
      exact ⟨p, c, by rw [h1, hql]⟩
    have HQP := Lib.hid hqp
    clear hqp hql hl0 hl8 hfr hasc hrats hkerr hLl hxb hxv hyb hyv hxs hys hp1 hp2 hsd hsum hsm hsf hxd hyd hxf hyf hxy hyx hL hok hQ hx hy hH
    generalize tx sm = sv at *
    generalize sm.num = vn at *
    generalize (sm.den : Int) = vd at *
    generalize tx x = sx at *
    generalize tx y = sy at *
    generalize x.num = xn at *
    generalize (x.den : Int) = xd at *
    generalize y.num = yn at *
    generalize (y.den : Int) = yd at *
    go_enter Tryz.func4, Tryz.ntmps4
    go_wp2_with fail
    refine (HKN.out w (Below.refl _ _)).mono ?_
    rintro e w1 ⟨rfl, hb1⟩
    go_wp2_with fail
    refine (HPT.out w1 hb1).mono ?_
    rintro e w2 ⟨vf, rfl, hqd, hb2⟩
    have hbw2 := hb1.trans (hb2.mono hb1.size)
    obtain ⟨pf, cf, rfl⟩ := HQP.out w2 vf hqd
    go_wp2_with fail
    refine (HMK.out w2).mono ?_
    rintro e w3 ⟨rfl, hb3⟩
    have hbw3 := hbw2.trans (hb3.mono hbw2.size)
    obtain ⟨w4, hw4⟩ : ∃ w4, w4 = w3.alloc (Obj.cells #[.int .i64 xn, .int .i64 xd] 47) := ⟨_, rfl⟩
    have hb4 : Below w3.heap.size w3 w4 := by rw [hw4]; exact alloc_below _ _
    have hbw4 := hbw3.trans (hb4.mono hbw3.size)
    have hx4 : w4.heap[w3.heap.size]? = some (.cells #[.int .i64 xn, .int .i64 xd] 47 (0, 0)) := by rw [hw4]; exact World.alloc_heap_new _ _
    have hqd4 := (hqd.below hb3).below hb4
    have HW4 := Lib.hid hw4
    clear hw4 hqd
    go_wp2_with fail
    rw [← HW4.out]
    refine (HML.out w4).mono ?_
    rintro e w5 ⟨rfl, hb5⟩
    have hbw5 := hbw4.trans (hb5.mono hbw4.size)
    have hx5 := (hb5.block _ (lt_of_some hx4)).trans hx4
    have hqd5 := hqd4.below hb5
    obtain ⟨w6, hw6⟩ : ∃ w6, w6 = w5.alloc (Obj.cells #[.int .i64 yn, .int .i64 yd] 47) := ⟨_, rfl⟩
    have hb6 : Below w5.heap.size w5 w6 := by rw [hw6]; exact alloc_below _ _
    have hbw6 := hbw5.trans (hb6.mono hbw5.size)
    have hy6 : w6.heap[w5.heap.size]? = some (.cells #[.int .i64 yn, .int .i64 yd] 47 (0, 0)) := by rw [hw6]; exact World.alloc_heap_new _ _
    have hx6 := (hb6.block _ (lt_of_some hx5)).trans hx5
    have hqd6 := hqd5.below hb6
    have HW6 := Lib.hid hw6
    clear hw6 hx4 hx5 hqd4 hqd5
    go_wp2_with fail
    rw [← HW6.out]
    have HQD6 := Lib.hid hqd6
    have HX6 := Lib.hid hx6
    have HY6 := Lib.hid hy6
    have hxl6 := lt_of_some hx6
    have hyl6 := lt_of_some hy6
    obtain ⟨y0, y1, _, _⟩ := two_cells hx6
    obtain ⟨z0, z1, _, _⟩ := two_cells hy6
    clear hqd6 hx6 hy6
    go_region_held3 (fun W => W.cell? ⟨w3.heap.size, 0, none⟩ = some (.int .i64 xn) ∧ W.cell? ⟨w3.heap.size, 1, none⟩ = some (.int .i64 xd) ∧ W.cell? ⟨w5.heap.size, 0, none⟩ = some (.int .i64 yn) ∧ W.cell? ⟨w5.heap.size, 1, none⟩ = some (.int .i64 yd) ∧ Below w6.heap.size w6 W)
      (first | exact FourS.drew y0 y1 z0 z1 | (refine FourS.keep hxl6 hxl6 hyl6 hyl6 (by assumption) ?_; first | assumption | (go_split_ands; refine ⟨?_, ?_, ?_, ?_, ?_⟩ <;> assumption)))
      (first
        | (go_at_call 28; refine (HKT.out _ _ ?_).mono ?_; exact HQD6.out.below (FourS.low (by assumption)); rintro e wk6 ⟨uk6, rfl, hpk6, hbk6⟩)
        | (go_at_call 29; ((with_reducible refine (HTX.out _).mono ?_); rintro e wt6 ⟨rfl, hbt6⟩))
        | (go_at_call 29; ((with_reducible refine (HTY.out _).mono ?_); rintro e wu6 ⟨rfl, hbu6⟩))
        | (go_at_call 27; refine (HIA.out _ uk6 ?_ ((hpk6.below hbt6).below hbu6)).mono ?_; exact hw.below (hbw6.trans ((FourS.low (by assumption)).mono hbw6.size)); rintro e w7 ⟨rfl, hbr6⟩))
    have hlow6 : Below w6.heap.size w6 w7 := FourS.low (by assumption)
    have hbw7 := hbw6.trans (hlow6.mono hbw6.size)
    have hqd7 := HQD6.out.below hlow6
    have hx7 := (hlow6.block _ hxl6).trans HX6.out
    have hy7 := (hlow6.block _ hyl6).trans HY6.out
    clear y0 y1 z0 z1 hpk6 hbt6 hbu6 hbk6 hbr6 hlow6
    go_wp2_with fail
    have HQD7 := Lib.hid hqd7
    have HX7 := Lib.hid hx7
    have HY7 := Lib.hid hy7
    have hxl7 := lt_of_some hx7
    have hyl7 := lt_of_some hy7
    obtain ⟨y0, y1, _, _⟩ := two_cells hx7
    obtain ⟨z0, z1, _, _⟩ := two_cells hy7
    clear hqd7 hx7 hy7
    go_region_held3 (fun W => W.cell? ⟨w3.heap.size, 0, none⟩ = some (.int .i64 xn) ∧ W.cell? ⟨w3.heap.size, 1, none⟩ = some (.int .i64 xd) ∧ W.cell? ⟨w5.heap.size, 0, none⟩ = some (.int .i64 yn) ∧ W.cell? ⟨w5.heap.size, 1, none⟩ = some (.int .i64 yd) ∧ Below w7.heap.size w7 W)
      (first | exact FourS.drew y0 y1 z0 z1 | (refine FourS.keep hxl7 hxl7 hyl7 hyl7 (by assumption) ?_; first | assumption | (go_split_ands; refine ⟨?_, ?_, ?_, ?_, ?_⟩ <;> assumption)))
      (first
        | (go_at_call 28; refine (HKT.out _ _ ?_).mono ?_; exact HQD7.out.below (FourS.low (by assumption)); rintro e wk7 ⟨uk7, rfl, hpk7, hbk7⟩)
        | (go_at_call 29; ((with_reducible refine (HTX.out _).mono ?_); rintro e wt7 ⟨rfl, hbt7⟩))
        | (go_at_call 29; ((with_reducible refine (HTY.out _).mono ?_); rintro e wu7 ⟨rfl, hbu7⟩))
        | (go_at_call 27; refine (HIB.out _ uk7 ?_ ((hpk7.below hbu7).below hbt7)).mono ?_; exact hw.below (hbw7.trans ((FourS.low (by assumption)).mono hbw7.size)); rintro e w8 ⟨rfl, hbr7⟩))
    have hlow7 : Below w7.heap.size w7 w8 := FourS.low (by assumption)
    have hbw8 := hbw7.trans (hlow7.mono hbw7.size)
    have hqd8 := HQD7.out.below hlow7
    have hx8 := (hlow7.block _ hxl7).trans HX7.out
    have hy8 := (hlow7.block _ hyl7).trans HY7.out
    clear y0 y1 z0 z1 hpk7 hbt7 hbu7 hbk7 hbr7 hlow7
    have HX8 := Lib.hid hx8
    have HY8 := Lib.hid hy8
    clear HX6 HY6 HX7 HY7 HQD6 HQD7 hx8 hy8
    go_wp2_with fail
    refine (HKT.out _ _ hqd8).mono ?_
    rintro e w9 ⟨uk9, rfl, hpk9, hb9⟩
    have hbw9 := hbw8.trans (hb9.mono hbw8.size)
    have hqd9 := hqd8.below hb9
    have hx9 := (hb9.block _ (lt_of_some HX8.out)).trans HX8.out
    have hy9 := (hb9.block _ (lt_of_some HY8.out)).trans HY8.out
    have HX9 := Lib.hid hx9
    have HY9 := Lib.hid hy9
    clear hqd8 hx9 hy9
    go_wp2_with fail
    refine (HIC.out _ _ (hw.below hbw9) hpk9).mono ?_
    rintro e w10 ⟨rfl, hb10⟩
    have hbw10 := hbw9.trans (hb10.mono hbw9.size)
    have hqd10 := hqd9.below hb10
    obtain ⟨y0, y1, _, _⟩ := two_cells ((hb10.block _ (lt_of_some HX9.out)).trans HX9.out)
    obtain ⟨z0, z1, _, _⟩ := two_cells ((hb10.block _ (lt_of_some HY9.out)).trans HY9.out)
    clear hqd9 hpk9
    go_wp2_with fail
    refine (HRI.out _ _ hqd10).mono ?_
    rintro e w11 ⟨rfl, hb11⟩
    have hbw11 := hbw10.trans (hb11.mono hbw10.size)
    clear y0 y1 z0 z1
    go_wp2_with fail
    refine (HTS.out _).mono ?_
    rintro e w12 ⟨rfl, hb12⟩
    have hbw12 := hbw11.trans (hb12.mono hbw11.size)
    go_wp2
    go_ret
    exact ⟨rfl, hbw12⟩
end Go.Proofs.YtbogpbjddaoeiaaGreatDoor
