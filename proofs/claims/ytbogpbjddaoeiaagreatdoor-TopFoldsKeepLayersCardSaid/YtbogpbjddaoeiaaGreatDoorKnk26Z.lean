import Derived.Test.YtbogpbjddaoeiaaGreatDoorTwoRowZ
import Derived.Test.YtbogpbjddaoeiaaGreatDoorKnk17Z
import Derived.Test.YtbogpbjddaoeiaaGreatDoorHeldAZ
namespace Go.Proofs.YtbogpbjddaoeiaaGreatDoor
open Go.Lib (decDigits itoa nDigits)
def kS : QP := (0, 0)
def kD : List (Rat × Rat) := [(1 / 2, 5), (-1 / 2, 5)]
theorem k_plan : Plan kS kD where
  s1 := Fq.int (a := 0) (by decide)
  s2 := Fq.int (a := 0) (by decide)
  d := fun x hx => by
    unfold kD at hx
    simp only [List.mem_cons, List.not_mem_nil, or_false] at hx
    rcases hx with rfl | rfl
    · exact ⟨⟨3, by decide, by decide, by decide +kernel⟩, 5, by decide, by decide, by decide +kernel⟩
    · exact ⟨⟨-3, by decide, by decide, by decide +kernel⟩, 5, by decide, by decide, by decide +kernel⟩
  n := by decide
  ne := by decide
theorem tx_of {q : Rat} {l : List UInt8} (h : rtext q = l) : tx q = ⟨l.toArray⟩ := by show (⟨(rtext q).toArray⟩ : ByteArray) = _; rw [h]
theorem tx_half : tx (1 / 2) = ⟨#[49, 47, 50]⟩ := tx_of text1_2
theorem tx_mhalf : tx (-1 / 2) = ⟨#[45, 49, 47, 50]⟩ := by
  have h : rtext (-1 / 2) = 45 :: rtext (1 / 2) := by
    rw [show (-1 / 2 : Rat) = -(1 / 2) by decide +kernel]
    exact rtext_neg (by decide +kernel) (by decide +kernel)
  rw [text1_2] at h
  exact tx_of h
theorem tx_3 : tx 3 = ⟨#[51]⟩ := tx_of text3
theorem tx_4 : tx 4 = ⟨#[52]⟩ := tx_of text4
theorem tx_5 : tx 5 = ⟨#[53]⟩ := tx_of text5
theorem tx_3_5 : tx (3 / 5) = ⟨#[51, 47, 53]⟩ := tx_of (by
  rw [rtext_of (n := ((3 : Nat) : Int)) (d := 5) (by decide +kernel) (by decide +kernel), rjoin_small (by decide) (by decide)]; decide)
theorem tx_4_5 : tx (4 / 5) = ⟨#[52, 47, 53]⟩ := tx_of (by
  rw [rtext_of (n := ((4 : Nat) : Int)) (d := 5) (by decide +kernel) (by decide +kernel), rjoin_small (by decide) (by decide)]; decide)
theorem tx_5_3 : tx (5 / 3) = ⟨#[53, 47, 51]⟩ := tx_of (by
  rw [rtext_of (n := ((5 : Nat) : Int)) (d := 3) (by decide +kernel) (by decide +kernel), rjoin_small (by decide) (by decide)]; decide)
theorem rjoin_21 {n d : Nat} (h1 : 10 ≤ n) (h2 : n < 100) (h3 : d < 10) (h4 : d ≠ 1) : rjoin (n : Int) d = [UInt8.ofNat (48 + n / 10), UInt8.ofNat (48 + n % 10), 47, UInt8.ofNat (48 + d)] := by
  unfold rjoin
  rw [if_neg h4, itoa_nat, decDigits_big h1, decDigits_small (show n / 10 < 10 by omega), decDigits_small h3]
  rfl
theorem text15_4 : rtext (15 / 4) = [49, 53, 47, 52] := by
  rw [rtext_of (n := ((15 : Nat) : Int)) (d := 4) (by decide +kernel) (by decide +kernel), rjoin_21 (by decide) (by decide) (by decide) (by decide)]; decide
theorem tx_15_4 : tx (-15 / 4) = ⟨#[45, 49, 53, 47, 52]⟩ := by
  have h : rtext (-15 / 4) = 45 :: rtext (15 / 4) := by
    rw [show (-15 / 4 : Rat) = -(15 / 4) by decide +kernel]
    exact rtext_neg (by decide +kernel) (by decide +kernel)
  rw [text15_4] at h
  exact tx_of h
theorem tx_42 : tx 42 = ⟨#[52, 50]⟩ := tx_of (by
  rw [rtext_of (n := ((42 : Nat) : Int)) (d := 1) (by decide +kernel) (by decide +kernel), rjoin_two (by decide) (by decide)]; decide)
theorem tx_17_3 : tx (17 / 3) = ⟨#[49, 55, 47, 51]⟩ := tx_of (by
  rw [rtext_of (n := ((17 : Nat) : Int)) (d := 3) (by decide +kernel) (by decide +kernel), rjoin_21 (by decide) (by decide) (by decide) (by decide)]; decide)
theorem tx_19_3 : tx (19 / 3) = ⟨#[49, 57, 47, 51]⟩ := tx_of (by
  rw [rtext_of (n := ((19 : Nat) : Int)) (d := 3) (by decide +kernel) (by decide +kernel), rjoin_21 (by decide) (by decide) (by decide) (by decide)]; decide)
theorem okB_of {q : Rat} {N D : Nat} (h : q.num.natAbs ≤ N ∧ q.den ≤ D) (h1 : N < 10 ^ 200) (h2 : D < 10 ^ 200) : OkB q := (okR2 (show Fr N D q from h) h1 h2).1
theorem k_dir : dirQ (1 / 2) = (3 / 5, 4 / 5) := by decide +kernel
theorem k_at1 : atK kS kD 1 = (3, 4) := by decide +kernel
theorem k_ax1 : axK kD 1 = (0, 5 / 3) := by decide +kernel
theorem k_g0 : gK kD 0 = 4 / 3 := by decide +kernel
theorem k_g1 : gK kD 1 = 4 / 3 := by decide +kernel
theorem k_area : areaQ kD 0 3 = 42 := by decide +kernel
theorem k_w0 : withinB kD 0 = true := by decide +kernel
theorem k_w3 : withinB kD 3 = true := by decide +kernel
theorem k_hu : hU kS kD (3, 17 / 3) 0 = 1 := by decide +kernel
theorem k_xu : xU kS kD (3, 17 / 3) 0 = 19 / 3 := by decide +kernel
theorem k_hit : hitU kS kD (3, 17 / 3) 0 := by
  unfold hitU
  rw [k_hu, k_xu]
  exact ⟨by decide +kernel, by decide +kernel, by decide +kernel⟩
theorem k_out : outU kS kD (3, 17 / 3) 0 = (19 / 3, 1) := by
  unfold outU
  rw [k_hu, k_xu, List.take_zero]
  decide +kernel
end Go.Proofs.YtbogpbjddaoeiaaGreatDoor
namespace Go.Proofs.YtbogpbjddaoeiaaGreatDoor
open Go.RowKit Go.Shelf
open Go.Lib (decDigits itoa nDigits)
set_option maxRecDepth 100000 in
set_option maxHeartbeats 4000000 in
theorem law40_example (w : World) (hw : Good w) : Calls Tryz.prog 152 #[] w (MakePost kS kD w) := by
  have HAT := Lib.hid (fun (W : World) (hg : Good W) => show Calls Tryz.prog 107 #[.int .i64 0, .int .i64 0] W (RV (.agg #[.string (tx 0), .string (tx 0)]) W) from vec_At 0 0 (by decide) (by decide) (by decide) (by decide) W hg)
  unfold RV at HAT
  rw [tx0] at HAT
  obtain ⟨wA, hwA⟩ : ∃ wA, wA = w.alloc (Obj.cells #[.string ⟨#[]⟩, .string ⟨#[]⟩, .slice none 0 0, .slice none 0 0] 106) := ⟨_, rfl⟩
  have hbA : Below w.heap.size w wA := by rw [hwA]; exact alloc_below _ _
  have hxA : wA.heap[w.heap.size]? = some (.cells #[.string ⟨#[]⟩, .string ⟨#[]⟩, .slice none 0 0, .slice none 0 0] 106 (0, 0)) := by rw [hwA]; exact World.alloc_heap_new _ _
  have XA := Lib.hid hxA
  have HWA := Lib.hid hwA
  clear hwA hxA
  go_enter Tryz.func152, Tryz.ntmps152
  go_wp2_with fail
  rw [← HWA.out]
  refine (HAT.out _ (hw.below hbA)).mono ?_
  rintro e w1 ⟨rfl, hb1⟩
  have hx1 := (hb1.block _ (lt_of_some XA.out)).trans XA.out
  have hbw := hbA.trans (hb1.mono hbA.size)
  obtain ⟨wG, hwG⟩ : ∃ wG, wG = (((w1.setCell ⟨w.heap.size, 0, none⟩ (.string ⟨#[48]⟩)).setCell ⟨w.heap.size, 1, none⟩ (.string ⟨#[48]⟩)).setCell ⟨w.heap.size, 2, none⟩ (.slice (some ⟨w1.heap.size, 0, none⟩) 2 2)).setCell ⟨w.heap.size, 3, none⟩ (.slice (some ⟨w1.heap.size + 1, 0, none⟩) 2 2) := ⟨_, rfl⟩
  obtain ⟨hG, hGo, hGb⟩ := four_set hx1 hwG
  have hsG : wG.heap.size = w1.heap.size := by rw [hwG]; simp
  obtain ⟨wF, hwF⟩ : ∃ wF, wF = (wG.alloc (Obj.cells #[.string ⟨#[49, 47, 50]⟩, .string ⟨#[45, 49, 47, 50]⟩] 31)).alloc (Obj.cells #[.string ⟨#[53]⟩, .string ⟨#[53]⟩] 31) := ⟨_, rfl⟩
  have hbF : Below wG.heap.size wG wF := by rw [hwF]; exact (alloc_below _ _).trans ((alloc_below _ _).mono (by simp))
  have hlt := lt_of_some hx1
  have HF := Lib.hid ((hbF.block _ (by omega)).trans hG)
  have hU0 : Txs (wG.alloc (Obj.cells #[.string ⟨#[49, 47, 50]⟩, .string ⟨#[45, 49, 47, 50]⟩] 31)) (.slice (some ⟨w1.heap.size, 0, none⟩) 2 2) [1 / 2, -1 / 2] := by
    rw [← tx_half, ← tx_mhalf, ← hsG]
    exact txs_two _ _ wG
  have hU1 : Txs wF (.slice (some ⟨w1.heap.size + 1, 0, none⟩) 2 2) [5, 5] := by
    rw [hwF, ← tx_5]
    have := txs_two 5 5 (wG.alloc (Obj.cells #[.string ⟨#[49, 47, 50]⟩, .string ⟨#[45, 49, 47, 50]⟩] 31))
    rwa [World.size_alloc, hsG] at this
  have HT0 := Lib.hid (show Txs wF (.slice (some ⟨w1.heap.size, 0, none⟩) 2 2) (kD.map (·.1)) from hU0.below (by rw [hwF]; exact alloc_below _ _))
  have HT1 := Lib.hid (show Txs wF (.slice (some ⟨w1.heap.size + 1, 0, none⟩) 2 2) (kD.map (·.2)) from hU1)
  have hbG := hbw.trans (hGb _ (Nat.le_refl _))
  have HFB := Lib.hid (hbG.trans (hbF.mono hbG.size))
  rw [hwG] at hwF
  have HFW := Lib.hid hwF
  obtain ⟨r0, r1, r2, r3⟩ := four_cells hx1
  obtain ⟨f0, f1, f2, f3⟩ := four_free hx1
  clear hwF hwG hG hGo hGb hsG hbF hU0 hU1 hbG hx1
  go_wp2_with fail
  rw [← HFW.out]
  have q := HF.out
  obtain ⟨q0, q1, q2, q3⟩ := four_cells q
  refine bodyPost_ret (v := .agg #[.string ⟨#[48]⟩, .string ⟨#[48]⟩, .slice (some ⟨w1.heap.size, 0, none⟩) 2 2, .slice (some ⟨w1.heap.size + 1, 0, none⟩) 2 2]) (by simp [results, Tryz.results152, go_sem, q0, q1, q2, q3]) rfl ⟨_, _, ?_, HT0.out, HT1.out, HFB.out⟩
  unfold profV kS
  rw [tx0]
/-- what the chapter's examples say -/
theorem k_reach_num : -(5 : Rat) * (4 / 3 : Rat)⁻¹ = -15 / 4 := by decide +kernel
set_option maxRecDepth 100000 in
set_option maxHeartbeats 8000000 in
theorem law40_known (w : World) (hw : Good w) : Calls Tryz.prog 106 #[] w (RV (.bool true) w) := by
  have hP := k_plan.ok
  have hI := k_plan.in
  have HEX := Lib.hid (fun (W : World) (hg : Good W) => law40_example W hg)
  have HDI := Lib.hid (fun (W : World) (hg : Good W) => show Calls Tryz.prog 153 #[.string ⟨#[49, 47, 50]⟩] W (RV (.tuple #[.agg #[.string ⟨#[51, 47, 53]⟩, .string ⟨#[52, 47, 53]⟩], .int .i64 0]) W) by
    have := kink_Direction (1 / 2) (okB_of (N := 1) (D := 2) (by decide +kernel) (by decide) (by decide)) (by rw [k_dir]; exact okB_of (N := 3) (D := 5) (by decide +kernel) (by decide) (by decide)) (by rw [k_dir]; exact okB_of (N := 4) (D := 5) (by decide +kernel) (by decide) (by decide)) W hg
    rw [k_dir] at this
    unfold ptV at this
    rw [tx_half, tx_3_5, tx_4_5] at this
    exact this)
  have HAX := Lib.hid (fun (vd vl : Value) (W : World) (hg : Good W) (h1 : Txs W vd (kD.map (·.1))) (h2 : Txs W vl (kD.map (·.2))) => kink_Axes kS kD hP hI rfl (by
    rw [k_at1, k_ax1]
    exact ⟨okB_of (N := 3) (D := 1) (by decide +kernel) (by decide) (by decide), okB_of (N := 4) (D := 1) (by decide +kernel) (by decide) (by decide), okB_of (N := 0) (D := 1) (by decide +kernel) (by decide) (by decide), okB_of (N := 5) (D := 3) (by decide +kernel) (by decide) (by decide)⟩) vd vl W hg h1 h2)
  have HRE := Lib.hid (fun (vd vl : Value) (W : World) (hg : Good W) (h1 : Txs W vd (kD.map (·.1))) (h2 : Txs W vl (kD.map (·.2))) => show Calls Tryz.prog 155 #[profV kS vd vl] W (RV (.tuple #[.string ⟨#[45, 49, 53, 47, 52]⟩, .string ⟨#[]⟩, .int .i64 0]) W) by
    have := kink_Reach kS kD hP hI rfl (4 / 3) 5 k_g0 k_g1 rfl rfl (by decide +kernel) (by rw [k_reach_num]; exact okB_of (N := 15) (D := 4) (by decide +kernel) (by decide) (by decide)) vd vl W hg h1 h2
    rw [k_reach_num, tx_15_4] at this
    exact this)
  have HAR := Lib.hid (fun (vd vl : Value) (W : World) (hg : Good W) (h1 : Txs W vd (kD.map (·.1))) (h2 : Txs W vl (kD.map (·.2))) => show Calls Tryz.prog 156 #[profV kS vd vl, .string ⟨#[48]⟩, .string ⟨#[51]⟩] W (RV (.tuple #[.string ⟨#[52, 50]⟩, .int .i64 0]) W) by
    have := kink_Area kS kD hP hI (by decide) vd vl 0 3 (okB_of (N := 0) (D := 1) (by decide +kernel) (by decide) (by decide)) (okB_of (N := 3) (D := 1) (by decide +kernel) (by decide) (by decide)) k_w0 k_w3 (by decide +kernel) (by rw [k_area]; exact okB_of (N := 42) (D := 1) (by decide +kernel) (by decide) (by decide)) W hg h1 h2
    rw [k_area, tx_42, tx0, tx_3] at this
    exact this)
  have HUN := Lib.hid (fun (vd vl : Value) (W : World) (hg : Good W) (h1 : Txs W vd (kD.map (·.1))) (h2 : Txs W vl (kD.map (·.2))) => show Calls Tryz.prog 66 #[profV kS vd vl, .agg #[.string ⟨#[51]⟩, .string ⟨#[49, 55, 47, 51]⟩]] W (RV (.tuple #[.agg #[.string ⟨#[49, 57, 47, 51]⟩, .string ⟨#[49]⟩], .bool true, .int .i64 0]) W) by
    have := callsIn_wide.1 (kink_Unfold kS kD hP hI hI.noDiv (3, 17 / 3) (okB_of (N := 3) (D := 1) (by decide +kernel) (by decide) (by decide)) (okB_of (N := 17) (D := 3) (by decide +kernel) (by decide) (by decide)) 0 (by decide) k_hit (fun j hj => absurd hj (Nat.not_lt_zero _)) (by rw [k_out]; exact okB_of (N := 19) (D := 3) (by decide +kernel) (by decide) (by decide)) (by rw [k_out]; exact okB_of (N := 1) (D := 1) (by decide +kernel) (by decide) (by decide)) vd vl W hg h1 h2)
    rw [k_out] at this
    unfold ptV at this
    rw [tx_3, tx_17_3, tx_19_3, tx1] at this
    exact this)
  have HAT := Lib.hid (fun (W : World) (hg : Good W) => show Calls Tryz.prog 107 #[.int .i64 3, .int .i64 4] W (RV (.agg #[.string ⟨#[51]⟩, .string ⟨#[52]⟩]) W) by
    have := vec_At 3 4 (by decide) (by decide) (by decide) (by decide) W hg
    rw [show ptV (((3 : Int) : Rat), ((4 : Int) : Rat)) = .agg #[.string (tx 3), .string (tx 4)] from rfl, tx_3, tx_4] at this
    exact this)
  have HAC := Lib.hid (show axC kS kD 1 = [.string ⟨#[51]⟩, .string ⟨#[52]⟩, .string ⟨#[48]⟩, .string ⟨#[53, 47, 51]⟩] by
    unfold axC
    rw [k_at1, k_ax1]
    show [Value.string (tx 3), .string (tx 4), .string (tx 0), .string (tx (5 / 3))] = _
    rw [tx_3, tx_4, tx0, tx_5_3])
  unfold RV at HDI HRE HAR HUN HAT
  unfold MakePost at HEX
  unfold profV at HEX HAX HRE HAR HUN
  clear hP hI
  go_enter Tryz.func106, Tryz.ntmps106
  go_wp2_with fail
  refine (HEX.out w hw).mono ?_
  rintro e w1 ⟨vd, vl, rfl, hvd, hvl, hb1⟩
  have HVD := Lib.hid hvd
  have HVL := Lib.hid hvl
  obtain ⟨bd, cd, hvd', -, -, -, -⟩ := hvd
  obtain ⟨bl, cl, hvl', -, -, -, -⟩ := hvl
  rw [show (kD.map (·.1)).length = 2 from rfl] at hvd'
  rw [show (kD.map (·.2)).length = 2 from rfl] at hvl'
  subst hvd'
  subst hvl'
  go_wp2_with fail
  obtain ⟨wA, hwA⟩ : ∃ wA, wA = w1.alloc (Obj.cells #[.string (tx kS.1), .string (tx kS.2), .slice (some ⟨bd, 0, none⟩) 2 cd, .slice (some ⟨bl, 0, none⟩) 2 cl] 106) := ⟨_, rfl⟩
  have hbA : Below w1.heap.size w1 wA := by rw [hwA]; exact alloc_below _ _
  have hpA : wA.heap[w1.heap.size]? = some (.cells #[.string (tx kS.1), .string (tx kS.2), .slice (some ⟨bd, 0, none⟩) 2 cd, .slice (some ⟨bl, 0, none⟩) 2 cl] 106 (0, 0)) := by rw [hwA]; exact World.alloc_heap_new _ _
  rw [← hwA]
  have HPA := Lib.hid hpA
  have hbwA := hb1.trans (hbA.mono hb1.size)
  have HVDA := Lib.hid (HVD.out.below hbA)
  have HVLA := Lib.hid (HVL.out.below hbA)
  clear hwA hpA
  refine (HDI.out wA (hw.below hbwA)).mono ?_
  rintro e w2 ⟨rfl, hb2⟩
  have hp2 := (hb2.block _ (lt_of_some HPA.out)).trans HPA.out
  have lA := lt_of_some hp2
  obtain ⟨e0, e1, e2, e3⟩ := four_cells hp2
  have HP2 := Lib.hid hp2
  clear hp2
  go_wp2_with fail
  obtain ⟨w3, hw3⟩ : ∃ w3, w3 = w2.alloc (Obj.cells #[.string ⟨#[51, 47, 53]⟩, .string ⟨#[52, 47, 53]⟩] 104) := ⟨_, rfl⟩
  have hb3 : Below w2.heap.size w2 w3 := by rw [hw3]; exact alloc_below _ _
  have hq3 : w3.heap[w2.heap.size]? = some (.cells #[.string ⟨#[51, 47, 53]⟩, .string ⟨#[52, 47, 53]⟩] 104 (0, 0)) := by rw [hw3]; exact World.alloc_heap_new _ _
  rw [← hw3]
  have HQ3 := Lib.hid hq3
  clear hw3 hq3 e0 e1 e2 e3
  have hbA3 := hb2.trans (hb3.mono hb2.size)
  refine (HAX.out _ _ w3 (hw.below (hbwA.trans (hbA3.mono hbwA.size))) (HVDA.out.below hbA3) (HVLA.out.below hbA3)).mono ?_
  rintro e w4 ⟨ba, ca, rfl, hba, hax, hb4⟩
  have hbA4 := hbA3.trans (hb4.mono hbA3.size)
  have hp4 := (hbA4.block _ (lt_of_some HPA.out)).trans HPA.out
  obtain ⟨e0, e1, e2, e3⟩ := four_cells hp4
  have HAXC := Lib.hid hax
  clear hp4 hax
  go_wp2_with fail
  refine (HRE.out _ _ w4 (hw.below (hbwA.trans (hbA4.mono hbwA.size))) (HVDA.out.below hbA4) (HVLA.out.below hbA4)).mono ?_
  rintro e w5 ⟨rfl, hb5⟩
  have hbA5 := hbA4.trans (hb5.mono hbA4.size)
  have hp5 := (hbA5.block _ (lt_of_some HPA.out)).trans HPA.out
  clear e0 e1 e2 e3
  obtain ⟨e0, e1, e2, e3⟩ := four_cells hp5
  clear hp5
  go_wp2_with fail
  refine (HAR.out _ _ w5 (hw.below (hbwA.trans (hbA5.mono hbwA.size))) (HVDA.out.below hbA5) (HVLA.out.below hbA5)).mono ?_
  rintro e w6 ⟨rfl, hb6⟩
  have hbA6 := hbA5.trans (hb6.mono hbA5.size)
  have hp6 := (hbA6.block _ (lt_of_some HPA.out)).trans HPA.out
  clear e0 e1 e2 e3
  obtain ⟨e0, e1, e2, e3⟩ := four_cells hp6
  clear hp6
  go_wp2_with fail
  refine (HUN.out _ _ w6 (hw.below (hbwA.trans (hbA6.mono hbwA.size))) (HVDA.out.below hbA6) (HVLA.out.below hbA6)).mono ?_
  rintro e w7 ⟨rfl, hb7⟩
  have hbA7 := hbA6.trans (hb7.mono hbA6.size)
  clear e0 e1 e2 e3
  have hs2 := hb2.size
  have hs3 := hb3.size
  have hs4 := hb4.size
  have hs5 := hb5.size
  have hs6 := hb6.size
  have hs7 := hb7.size
  have hl3 := lt_of_some HQ3.out
  have hb37 : Below w3.heap.size w3 w7 := hb4.trans ((hb5.mono hs4).trans ((hb6.mono (by omega)).trans (hb7.mono (by omega))))
  have hb47 : Below w4.heap.size w4 w7 := hb5.trans ((hb6.mono hs5).trans (hb7.mono (by omega)))
  go_wp2_with fail
  obtain ⟨w8, hw8⟩ : ∃ w8, w8 = w7.alloc (Obj.cells #[.string ⟨#[49, 57, 47, 51]⟩, .string ⟨#[49]⟩] 104) := ⟨_, rfl⟩
  have hb8 : Below w7.heap.size w7 w8 := by rw [hw8]; exact alloc_below _ _
  have hq8 : w8.heap[w7.heap.size]? = some (.cells #[.string ⟨#[49, 57, 47, 51]⟩, .string ⟨#[49]⟩] 104 (0, 0)) := by rw [hw8]; exact World.alloc_heap_new _ _
  rw [← hw8]
  clear hw8
  have hs8 := hb8.size
  have hl8 := lt_of_some hq8
  obtain ⟨p0, p1, _, _⟩ := two_cells ((hb8.block _ (by omega)).trans ((hb37.block _ hl3).trans HQ3.out))
  obtain ⟨r0, r1, _, _⟩ := two_cells hq8
  have hb48 := hb47.trans (hb8.mono (by omega))
  have hax : ∀ j (u : Value), (axC kS kD 1)[j]? = some u → w8.cell? ⟨ba, 4 + j, none⟩ = some u := fun j u hu => (hb48.cell (p := ⟨ba, _, none⟩) hba).trans (HAXC.out j u hu)
  rw [HAC.out] at hax
  have x0 := hax 0 _ rfl
  have x1 := hax 1 _ rfl
  have x2 := hax 2 _ rfl
  have x3 := hax 3 _ rfl
  simp only [Nat.add_zero, Nat.reduceAdd] at x0 x1 x2 x3
  have l2 : w2.heap.size < w8.heap.size := by omega
  have l7 : w7.heap.size < w8.heap.size := by omega
  have lb : ba < w8.heap.size := by omega
  have hb18 : Below w1.heap.size w1 w8 := hbA.trans ((hbA7.trans (hb8.mono (by omega))).mono hbA.size)
  have hbw8 := hb1.trans (hb18.mono hb1.size)
  have HBW8 := Lib.hid hbw8
  clear hax hq8 hb48 hb47 hb37
  refine wp_held_two (fun W' => Below w8.heap.size w8 W') [0, 1, 2, 3, 4, 5, 6, 7, 8, 9, 10, 11, 12, 13, 14, 15, 16, 17, 18, 19, 21] [20] [22, 23, 24, 25, 26, 27, 28, 29, 30, 31, 32, 33, 34, 35, 36, 37, 38, 39, 40, 41, 42, 43, 44, 45, 46, 47, 48, 49, 50, 51, 52, 53, 54, 55, 56] [] 57 (by kernel_rfl) (by kernel_rfl) ⟨rfl, rfl, rfl, Nat.le_refl _, fun _ _ => rfl⟩ ?_
  iterate 21
    refine wpTakeL_step rfl ?_ rfl ?_ ?_
    rotate_left
    · intro W' hS'
      have q0 := (hS'.cell (p := ⟨w2.heap.size, 0, none⟩) l2).trans p0
      have q1 := (hS'.cell (p := ⟨w2.heap.size, 1, none⟩) l2).trans p1
      have q2 := (hS'.cell (p := ⟨w7.heap.size, 0, none⟩) l7).trans r0
      have q3 := (hS'.cell (p := ⟨w7.heap.size, 1, none⟩) l7).trans r1
      have q4 := (hS'.cell (p := ⟨ba, 4, none⟩) lb).trans x0
      have q5 := (hS'.cell (p := ⟨ba, 5, none⟩) lb).trans x1
      have q6 := (hS'.cell (p := ⟨ba, 6, none⟩) lb).trans x2
      have q7 := (hS'.cell (p := ⟨ba, 7, none⟩) lb).trans x3
      go_simp
      try with_reducible rfl
    try simp only [List.getElem_toArray, List.getElem_cons_zero, List.getElem_cons_succ, Act.put, List.setIfInBounds_toArray, List.set_cons_zero, List.set_cons_succ]
  have hH0 : Below w8.heap.size w8 w8.drew := ⟨rfl, rfl, rfl, Nat.le_refl _, fun _ _ => rfl⟩
  refine wpKeepL_step rfl rfl (fun K hK => ?_)
  go_simp
  refine (HAT.out _ ((hw.below HBW8.out).below hH0)).mono ?_
  rintro e v1 ⟨rfl, hv1⟩
  have hH1 := hH0.trans (hv1.mono hH0.size)
  refine hK _ _ ⟨hH1, ?_⟩
  clear hK K
  try simp only [List.getElem_toArray, List.getElem_cons_zero, List.getElem_cons_succ, Act.put, List.setIfInBounds_toArray, List.set_cons_zero, List.set_cons_succ]
  unfold wpKeepL
  iterate 35
    refine wpTakeL_step rfl ?_ rfl ?_ ?_
    rotate_left
    · intro W' hS'
      have q0 := (hS'.cell (p := ⟨w2.heap.size, 0, none⟩) l2).trans p0
      have q1 := (hS'.cell (p := ⟨w2.heap.size, 1, none⟩) l2).trans p1
      have q2 := (hS'.cell (p := ⟨w7.heap.size, 0, none⟩) l7).trans r0
      have q3 := (hS'.cell (p := ⟨w7.heap.size, 1, none⟩) l7).trans r1
      have q4 := (hS'.cell (p := ⟨ba, 4, none⟩) lb).trans x0
      have q5 := (hS'.cell (p := ⟨ba, 5, none⟩) lb).trans x1
      have q6 := (hS'.cell (p := ⟨ba, 6, none⟩) lb).trans x2
      have q7 := (hS'.cell (p := ⟨ba, 7, none⟩) lb).trans x3
      go_simp
      try with_reducible rfl
    try simp only [List.getElem_toArray, List.getElem_cons_zero, List.getElem_cons_succ, Act.put, List.setIfInBounds_toArray, List.set_cons_zero, List.set_cons_succ]
  unfold wpTakeL wpKeepL
  simp only [List.drop_succ_cons, List.drop_zero]
  refine wpKeep_step rfl (fun K hK => ?_)
  go_simp
  refine hK _ _ ⟨trivial, wpKeep_nil ?_⟩
  clear hK K
  try simp only [List.getElem_toArray, List.getElem_cons_zero, List.getElem_cons_succ, Act.put, List.setIfInBounds_toArray, List.set_cons_zero, List.set_cons_succ]
  refine NormalOnly.mk ?_
  go_wp2
  go_ret
  exact ⟨rfl, HBW8.out.trans (hH1.mono HBW8.out.size)⟩
set_option maxRecDepth 100000 in
theorem law40_Known (w : World) (hw : Good w) : Calls Tryz.prog 62 #[] w (RV (.bool true) w) := by
  have HK := Lib.hid (fun (W : World) (hg : Good W) => law40_known W hg)
  unfold RV at HK
  go_enter Tryz.func62, Tryz.ntmps62
  go_wp2_with fail
  refine (HK.out w hw).mono ?_
  rintro e w1 ⟨rfl, hb1⟩
  go_wp2
  go_ret
  exact ⟨rfl, hb1⟩
end Go.Proofs.YtbogpbjddaoeiaaGreatDoor
namespace Go.Proofs.YtbogpbjddaoeiaaGreatDoor
open Go.RowKit Go.Shelf
open Go.Lib (decDigits itoa nDigits)
theorem quarter_fq {n : Int} (h0 : -128 ≤ n) (h1 : n ≤ 127) : Fq 32 4 (Rat.divInt n 4) := by
  refine ⟨4, n, by decide, by decide, by omega, ?_⟩
  rw [show (Rat.divInt n 4) = (n : Rat) / ((4 : Int) : Rat) from Rat.divInt_eq_div n 4]
  exact Rat.div_mul_cancel (by decide +kernel)
/-- what is unfolded from a folded place -/
theorem unfold_folded {s : QP} {D : List (Rat × Rat)} (hp : Plan s D) {h x : Rat} (hh : Fq 32 4 h) (hx : Fq 32 4 x) {k : Nat} (w0 : withinB D h = true) (hx0 : ¬ x < 0) (hk : k < D.length) (hl : restQ D h x k ≤ lgQ D h k) (hb : ∀ j, j < k → lgQ D h j < restQ D h x j)
    (vd vl : Value) (w : World) (hw : Good w) (hvd : Txs w vd (D.map (·.1))) (hvl : Txs w vl (D.map (·.2))) :
    Calls Tryz.prog 66 #[profV s vd vl, .agg #[.string (tx (foldP s D h x k).1), .string (tx (foldP s D h x k).2)]] w (RV (.tuple #[.agg #[.string (tx x), .string (tx h)], .bool true, .int .i64 0]) w) := by
  have ok1 : OkB x := hx.ok (by decide) (by decide)
  have ok2 : OkB h := hh.ok (by decide) (by decide)
  obtain ⟨f1, f2⟩ := hp.fold hh hx hk
  obtain ⟨k0, h1, h2, h3, h4⟩ := fold_found (s := s) hp.in w0 hx0 hk hl hb
  have := callsIn_wide.1 (kink_Unfold s D hp.ok hp.in hp.in.noDiv (foldP s D h x k) f1 f2 k0 h1 h2 h3 (by rw [h4]; exact ok1) (by rw [h4]; exact ok2) vd vl w hw hvd hvl)
  rw [h4] at this
  exact this
theorem sub_keep (x y : Rat) (hx : Fq 32 4 x) (hy : Fq 32 4 y) (w : World) (hw : Good w) : Calls Tryz.prog 58 #[.string (tx y), .string (tx x)] w (RV (.string (tx (y - x))) w) :=
  k_sub y x ((hy.ok (by decide) (by decide)).sz.mono (by decide)) ((hx.ok (by decide) (by decide)).sz.mono (by decide)) w hw
def Byte (n : Int) : Prop := -128 ≤ n ∧ n ≤ 127
set_option maxRecDepth 100000 in
set_option maxHeartbeats 8000000 in
theorem law_TopFolds (a b : Int) (ha : Byte a) (hb : Byte b) (v : Value) (D0 : List Duo) (n0 n1 n2 : Int) (hn0 : Byte n0) (hn1 : Byte n1) (hn2 : Byte n2) (w : World) (hw : Good w) (hv : Duos w v D0) :
    Calls Tryz.prog 14 #[.agg #[.int .i8 a, .int .i8 b, v], .agg #[.int .i8 n0, .int .i8 n1, .int .i8 n2]] w fun e w' => e = .returned (.bool true) ∧ Below w.heap.size w w' := by
  have HKN := Lib.hid (fun (W : World) (hg : Good W) => law40_Known W hg)
  have HMK := Lib.hid (fun (hl : D0.length ≤ 4) (W : World) (hg : Good W) (h : Duos W v D0) => law40_Make a b ha.1 ha.2 hb.1 hb.2 v D0 hl W hg h)
  have HV := Lib.hid hv
  have HPL := Lib.hid (fun (hl : D0.length ≤ 4) => plan_plan (D0 := D0) a b hl)
  generalize planS a b = s at *
  generalize planD D0 = D at *
  have q0 := Lib.hid (quarter_fq hn0.1 hn0.2)
  have q1 := Lib.hid (quarter_fq hn1.1 hn1.2)
  have q2 := Lib.hid (quarter_fq hn2.1 hn2.2)
  unfold Byte at hn0 hn1 hn2
  have HO0 := Lib.hid (fun (W : World) (hg : Good W) => rat_Of n0 4 (by omega) (by omega) (by decide) (by decide) (by decide) W hg)
  have HO1 := Lib.hid (fun (W : World) (hg : Good W) => rat_Of n1 4 (by omega) (by omega) (by decide) (by decide) (by decide) W hg)
  have HO2 := Lib.hid (fun (W : World) (hg : Good W) => rat_Of n2 4 (by omega) (by omega) (by decide) (by decide) (by decide) W hg)
  have k0 : IntKind.i64.wrap n0 = n0 := IntWalk.i64_in _ (by omega)
  have k1 : IntKind.i64.wrap n1 = n1 := IntWalk.i64_in _ (by omega)
  have k2 : IntKind.i64.wrap n2 = n2 := IntWalk.i64_in _ (by omega)
  generalize Rat.divInt n0 4 = h at *
  generalize Rat.divInt n1 4 = x at *
  generalize Rat.divInt n2 4 = y at *
  have HSU := Lib.hid (fun (W : World) (hg : Good W) => sub_keep x y q1.out q2.out W hg)
  unfold RV at HKN HO0 HO1 HO2 HSU
  unfold MakePost at HMK
  obtain ⟨p, c, rfl, hc, hmx, -⟩ := hv
  obtain ⟨wP, hwP⟩ : ∃ wP, wP = w.alloc (Obj.cells #[.int .i8 a, .int .i8 b, .slice p D0.length c] 101) := ⟨_, rfl⟩
  obtain ⟨wA, hwA⟩ : ∃ wA, wA = wP.alloc (Obj.cells #[.int .i8 n0, .int .i8 n1, .int .i8 n2] 102) := ⟨_, rfl⟩
  have hbP : Below w.heap.size w wP := by rw [hwP]; exact alloc_below _ _
  have hbA : Below wP.heap.size wP wA := by rw [hwA]; exact alloc_below _ _
  have hsP : wP.heap.size = w.heap.size + 1 := by rw [hwP]; simp
  have hp0 : wP.heap[w.heap.size]? = some (.cells #[.int .i8 a, .int .i8 b, .slice p D0.length c] 101 (0, 0)) := by rw [hwP]; exact World.alloc_heap_new _ _
  have HPA := Lib.hid ((hbA.block _ (by omega)).trans hp0)
  have HQA := Lib.hid (show wA.heap[w.heap.size + 1]? = some (.cells #[.int .i8 n0, .int .i8 n1, .int .i8 n2] 102 (0, 0)) by rw [hwA, ← hsP]; exact World.alloc_heap_new _ _)
  have hbw : Below w.heap.size w wA := hbP.trans (hbA.mono hbP.size)
  rw [hwP] at hwA
  have HWA := Lib.hid hwA
  clear hwP hwA hp0 hsP hbP hbA
  go_enter Tryz.func14, Tryz.ntmps14
  go_wp2_with fail
  rw [← HWA.out]
  refine (HKN.out wA (hw.below hbw)).mono ?_
  rintro e w1 ⟨rfl, hb1⟩
  have hbw1 := hbw.trans (hb1.mono hbw.size)
  have hp1 := (hb1.block _ (lt_of_some HPA.out)).trans HPA.out
  have e0 : w1.cell? ⟨w.heap.size, 0, none⟩ = some (.int .i8 a) := by simp [World.cell?, hp1]
  have e1 : w1.cell? ⟨w.heap.size, 1, none⟩ = some (.int .i8 b) := by simp [World.cell?, hp1]
  have e2 : w1.cell? ⟨w.heap.size, 2, none⟩ = some (.slice p D0.length c) := by simp [World.cell?, hp1]
  clear hp1
  by_cases hl : D0.length ≤ 4
  · have hl1 : decide ((4 : Int) < (D0.length : Int)) = false := decide_eq_false (by omega)
    have HPP := Lib.hid (HPL.out hl)
    go_wp2_with fail
    refine (HMK.out hl w1 (hw.below hbw1) (HV.out.below hbw1)).mono ?_
    rintro e w2 ⟨vd, vl, rfl, hvd, hvl, hb2⟩
    have HL1 := Lib.hid (show (D.map (·.1)).length = D.length from List.length_map _)
    have HL2 := Lib.hid (show (D.map (·.2)).length = D.length from List.length_map _)
    have hvd0 := hvd
    have hvl0 := hvl
    obtain ⟨bd, cd, rfl, -, -, -, -⟩ := hvd0
    obtain ⟨bl, cl, rfl, -, -, -, -⟩ := hvl0
    rw [HL1.out] at hvd ⊢
    rw [HL2.out] at hvl ⊢
    have hbw2 := hbw1.trans (hb2.mono hbw1.size)
    unfold profV
    have hb02 := hb1.trans (hb2.mono hb1.size)
    have hq2 := (hb02.block _ (lt_of_some HQA.out)).trans HQA.out
    have HQ2 := Lib.hid hq2
    have lq2 := lt_of_some hq2
    have HFO := Lib.hid (fun (z : Rat) (hz : Fq 32 4 z) (W : World) (hg : Good W) (h1 : Txs W (.slice (some ⟨bd, 0, none⟩) D.length cd) (D.map (·.1))) (h2 : Txs W (.slice (some ⟨bl, 0, none⟩) D.length cl) (D.map (·.2))) => show Calls Tryz.prog 65 #[profV s (.slice (some ⟨bd, 0, none⟩) D.length cd) (.slice (some ⟨bl, 0, none⟩) D.length cl), .agg #[.string (tx z), .string (tx h)]] W (FoldPost s D h z W) from
      callsIn_wide.1 (kink_Fold s D HPP.out.ok HPP.out.in HPP.out.in.noDiv h z (q0.out.ok (by decide) (by decide)) (hz.ok (by decide) (by decide)) (fun k hk => HPP.out.restz q0.out hz hk) (fun k hk => HPP.out.fold q0.out hz hk) _ _ W hg h1 h2))
    have HUF := Lib.hid (fun (z : Rat) (hz : Fq 32 4 z) (k : Nat) (w0 : withinB D h = true) (hx0 : ¬ z < 0) (hk : k < D.length) (hl : restQ D h z k ≤ lgQ D h k) (hbb : ∀ j, j < k → lgQ D h j < restQ D h z j) (W : World) (hg : Good W) (h1 : Txs W (.slice (some ⟨bd, 0, none⟩) D.length cd) (D.map (·.1))) (h2 : Txs W (.slice (some ⟨bl, 0, none⟩) D.length cl) (D.map (·.2))) =>
      unfold_folded HPP.out q0.out hz w0 hx0 hk hl hbb _ _ W hg h1 h2)
    unfold profV at HFO HUF
    unfold FoldPost at HFO
    unfold RV at HUF
    clear e0 e1 e2 hq2
    obtain ⟨w3, hw3⟩ : ∃ w3, w3 = w2.alloc (Obj.cells #[.string (tx s.1), .string (tx s.2), .slice (some ⟨bd, 0, none⟩) D.length cd, .slice (some ⟨bl, 0, none⟩) D.length cl] 106) := ⟨_, rfl⟩
    have hb3 : Below w2.heap.size w2 w3 := by rw [hw3]; exact alloc_below _ _
    have hp3 : w3.heap[w2.heap.size]? = some (.cells #[.string (tx s.1), .string (tx s.2), .slice (some ⟨bd, 0, none⟩) D.length cd, .slice (some ⟨bl, 0, none⟩) D.length cl] 106 (0, 0)) := by rw [hw3]; exact World.alloc_heap_new _ _
    have HP3 := Lib.hid hp3
    have HQ3 := Lib.hid ((hb3.block _ lq2).trans HQ2.out)
    have HVD3 := Lib.hid (hvd.below hb3)
    have HVL3 := Lib.hid (hvl.below hb3)
    have hbw3 := hbw2.trans (hb3.mono hbw2.size)
    obtain ⟨a0, a1, a2⟩ : w3.cell? ⟨w.heap.size + 1, 0, none⟩ = some (.int .i8 n0) ∧ w3.cell? ⟨w.heap.size + 1, 1, none⟩ = some (.int .i8 n1) ∧ w3.cell? ⟨w.heap.size + 1, 2, none⟩ = some (.int .i8 n2) := by
      refine ⟨?_, ?_, ?_⟩ <;> simp [World.cell?, HQ3.out]
    have hl2 := lt_of_some hp3
    have lq3 : w.heap.size + 1 < w3.heap.size := Nat.lt_of_lt_of_le lq2 hb3.size
    have HW3 := Lib.hid hw3
    rw [hw3] at a0 a1 a2
    clear hw3 hp3
    go_wp2_with fail
    rw [← HW3.out]
    rw [← HW3.out] at a0 a1 a2
    refine (HO0.out w3 (hw.below hbw3)).mono ?_
    rintro e w4 ⟨rfl, hb4⟩
    have b1 := (hb4.cell (p := ⟨w.heap.size + 1, 1, none⟩) lq3).trans a1
    have b2 := (hb4.cell (p := ⟨w.heap.size + 1, 2, none⟩) lq3).trans a2
    clear a0 a1 a2
    go_wp2_with fail
    refine (HO1.out w4 (hw.below (hbw3.trans (hb4.mono hbw3.size)))).mono ?_
    rintro e w5 ⟨rfl, hb5⟩
    have hb35 := hb4.trans (hb5.mono hb4.size)
    have c2 := (hb5.cell (p := ⟨w.heap.size + 1, 2, none⟩) (Nat.lt_of_lt_of_le lq3 hb4.size)).trans b2
    clear b1 b2
    go_wp2_with fail
    refine (HO2.out w5 (hw.below (hbw3.trans (hb35.mono hbw3.size)))).mono ?_
    rintro e w6 ⟨rfl, hb6⟩
    have hb36 := hb35.trans (hb6.mono hb35.size)
    clear c2
    obtain ⟨d0, d1, d2, d3⟩ := four_cells ((hb36.block _ hl2).trans HP3.out)
    go_wp2_with fail
    refine (HFO.out x q1.out w6 (hw.below (hbw3.trans (hb36.mono hbw3.size))) (HVD3.out.below hb36) (HVL3.out.below hb36)).mono ?_
    rintro e w7 ⟨x1, y1, err1, rfl, hb7, hcase1⟩
    have hb37 := hb36.trans (hb7.mono hb36.size)
    have hs37 := hb37.size
    have lp7 : w2.heap.size < w7.heap.size := Nat.lt_of_lt_of_le hl2 hs37
    clear d0 d1 d2 d3
    obtain ⟨d0, d1, d2, d3⟩ := four_cells ((hb37.block _ hl2).trans HP3.out)
    go_wp2_with fail
    obtain ⟨w8, hw8⟩ : ∃ w8, w8 = w7.alloc (Obj.cells #[.string x1, .string y1] 104) := ⟨_, rfl⟩
    have hb8 : Below w7.heap.size w7 w8 := by rw [hw8]; exact alloc_below _ _
    have HP8 := Lib.hid (show w8.heap[w7.heap.size]? = some (.cells #[.string x1, .string y1] 104 (0, 0)) by rw [hw8]; exact World.alloc_heap_new _ _)
    rw [← hw8]
    clear hw8 d0 d1 d2 d3
    have hb38 := hb37.trans (hb8.mono hs37)
    refine (HFO.out y q2.out w8 (hw.below (hbw3.trans (hb38.mono hbw3.size))) (HVD3.out.below hb38) (HVL3.out.below hb38)).mono ?_
    rintro e w9 ⟨x2, y2, err2, rfl, hb9, hcase2⟩
    have hb39 := hb38.trans (hb9.mono hb38.size)
    have hs39 := hb39.size
    have HW9 := Lib.hid (hbw3.trans (hb39.mono hbw3.size))
    rcases hcase1 with rfl | rfl | ⟨rfl, hw0, hx0, kx, hkx, rfl, rfl, hlx, hbx⟩
    · go_wp2_with fail
      go_ret
      exact ⟨rfl, HW9.out.trans ((alloc_below _ _).mono HW9.out.size)⟩
    · go_wp2_with fail
      go_ret
      exact ⟨rfl, HW9.out.trans ((alloc_below _ _).mono HW9.out.size)⟩
    rcases hcase2 with rfl | rfl | ⟨rfl, -, hy0, ky, hky, rfl, rfl, hly, hby⟩
    · go_wp2_with fail
      go_ret
      exact ⟨rfl, HW9.out.trans ((alloc_below _ _).mono HW9.out.size)⟩
    · go_wp2_with fail
      go_ret
      exact ⟨rfl, HW9.out.trans ((alloc_below _ _).mono HW9.out.size)⟩
    have HU1 := Lib.hid (HUF.out x q1.out kx hw0 hx0 hkx hlx hbx)
    have HU2 := Lib.hid (HUF.out y q2.out ky hw0 hy0 hky hly hby)
    clear hlx hbx hly hby hw0 hx0 hy0 hkx hky
    generalize tx (foldP s D h x kx).1 = fx1 at *
    generalize tx (foldP s D h x kx).2 = fx2 at *
    generalize tx (foldP s D h y ky).1 = fy1 at *
    generalize tx (foldP s D h y ky).2 = fy2 at *
    have h89 := hb9.size
    have l8 := lt_of_some HP8.out
    have lp9 : w2.heap.size < w9.heap.size := Nat.lt_of_lt_of_le hl2 hs39
    have l79 : w7.heap.size < w9.heap.size := Nat.lt_of_lt_of_le l8 h89
    obtain ⟨d0, d1, d2, d3⟩ := four_cells ((hb39.block _ hl2).trans HP3.out)
    obtain ⟨f0, f1, _, _⟩ := two_cells ((hb9.block _ l8).trans HP8.out)
    go_wp2_with fail
    obtain ⟨wX, hwX⟩ : ∃ wX, wX = w9.alloc (Obj.cells #[.string fy1, .string fy2] 104) := ⟨_, rfl⟩
    have hbX : Below w9.heap.size w9 wX := by rw [hwX]; exact alloc_below _ _
    have HPX := Lib.hid (show wX.heap[w9.heap.size]? = some (.cells #[.string fy1, .string fy2] 104 (0, 0)) by rw [hwX]; exact World.alloc_heap_new _ _)
    rw [← hwX]
    clear hwX d0 d1 d2 d3 f0 f1
    have hb3X := hb39.trans (hbX.mono hs39)
    have hsX := hbX.size
    have lX := lt_of_some HPX.out
    refine (HU1.out wX (hw.below (hbw3.trans (hb3X.mono hbw3.size))) (HVD3.out.below hb3X) (HVL3.out.below hb3X)).mono ?_
    rintro e w10 ⟨rfl, hb10⟩
    have hs10 := hb10.size
    have hb310 := hb3X.trans (hb10.mono hb3X.size)
    have hs310 := hb310.size
    obtain ⟨d0, d1, d2, d3⟩ := four_cells ((hb310.block _ hl2).trans HP3.out)
    obtain ⟨f0, f1, _, _⟩ := two_cells ((hb10.block _ lX).trans HPX.out)
    have lp10 : w2.heap.size < w10.heap.size := Nat.lt_of_lt_of_le hl2 hs310
    have lX10 : w9.heap.size < w10.heap.size := Nat.lt_of_lt_of_le lX hs10
    go_wp2_with fail
    obtain ⟨wY, hwY⟩ : ∃ wY, wY = w10.alloc (Obj.cells #[.string (tx x), .string (tx h)] 104) := ⟨_, rfl⟩
    have hbY : Below w10.heap.size w10 wY := by rw [hwY]; exact alloc_below _ _
    have HPY := Lib.hid (show wY.heap[w10.heap.size]? = some (.cells #[.string (tx x), .string (tx h)] 104 (0, 0)) by rw [hwY]; exact World.alloc_heap_new _ _)
    rw [← hwY]
    clear hwY d0 d1 d2 d3 f0 f1
    have hb3Y := hb310.trans (hbY.mono hs310)
    have lY := lt_of_some HPY.out
    refine (HU2.out wY (hw.below (hbw3.trans (hb3Y.mono hbw3.size))) (HVD3.out.below hb3Y) (HVL3.out.below hb3Y)).mono ?_
    rintro e w11 ⟨rfl, hb11⟩
    have hs11 := hb11.size
    have hb311 := hb3Y.trans (hb11.mono hb3Y.size)
    have hs311 := hb311.size
    obtain ⟨f0, f1, _, _⟩ := two_cells ((hb11.block _ lY).trans HPY.out)
    have l1011 : w10.heap.size < w11.heap.size := Nat.lt_of_lt_of_le lY hs11
    have HBT := Lib.hid (hbw3.trans (hb311.mono hbw3.size))
    go_wp2_with fail
    obtain ⟨wZ, hwZ⟩ : ∃ wZ, wZ = w11.alloc (Obj.cells #[.string (tx y), .string (tx h)] 104) := ⟨_, rfl⟩
    have hbZ : Below w11.heap.size w11 wZ := by rw [hwZ]; exact alloc_below _ _
    rw [← hwZ]
    clear hwZ f0 f1
    have HBZ := Lib.hid (HBT.out.trans (hbZ.mono HBT.out.size))
    refine (HSU.out wZ (hw.below HBZ.out)).mono ?_
    rintro e w12 ⟨rfl, hb12⟩
    have HB12 := Lib.hid (HBZ.out.trans (hb12.mono HBZ.out.size))
    go_wp2_with fail
    refine (HSU.out w12 (hw.below HB12.out)).mono ?_
    rintro e w13 ⟨rfl, hb13⟩
    go_wp2
    go_ret
    exact ⟨rfl, HB12.out.trans (hb13.mono HB12.out.size)⟩
  · have hl1 : decide ((4 : Int) < (D0.length : Int)) = true := decide_eq_true (by omega)
    go_wp2_with fail
    refine (HKN.out w1 (hw.below hbw1)).mono ?_
    rintro e w2 ⟨rfl, hb2⟩
    go_wp2
    go_ret
    exact ⟨rfl, hbw1.trans (hb2.mono hbw1.size)⟩
end Go.Proofs.YtbogpbjddaoeiaaGreatDoor
