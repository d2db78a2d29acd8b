import Derived.Test.YtbogpbjddaoeiaaGreatDoorPlainQZ
import Derived.Test.YtbogpbjddaoeiaaGreatDoorAbvFZ
import Derived.Test.YtbogpbjddaoeiaaGreatDoorCutZ
import Derived.Test.YtbogpbjddaoeiaaGreatDoorLawKZ
import Derived.Test.YtbogpbjddaoeiaaGreatDoorMakeSZ
import Derived.Test.YtbogpbjddaoeiaaGreatDoorHeldAZ
namespace Go.Proofs.YtbogpbjddaoeiaaGreatDoor
open Go.RowKit Go.Shelf
open Go.Lib (decDigits itoa nDigits)
/-- a part's box -/
def BoxP (w : World) (s0 s1 : ByteArray) (s : Value) (wx : World) : Prop := ∃ B, s = .pointer (some ⟨B, 0, none⟩) ∧ wx.heap[B]? = some (.cells #[.string s0, .string s1] 33 (0, 0)) ∧ w.heap.size ≤ B ∧ Below w.heap.size w wx
def RetW (v : Value) (w : World) (e : Ending) (w' : World) : Prop := e = .returned v ∧ Below w.heap.size w w'
def RetAb (w : World) (e : Ending) (w' : World) : Prop := e = .returned (.bool true) ∧ Below w.heap.size w w'
/-- what is asked of each piece between neighbouring cuts -/
def PieceOk (Q U : List QP) (h : Rat) (C : List Rat) : Prop := ∀ i (hi1 : i + 1 < C.length) (b : Bool), (b = true ↔ covQ U ((C[i] + C[i + 1]) * (1 / 2))) →
    (b = true → ¬ valueQ Q C[i] < h ∧ ¬ valueQ Q C[i + 1] < h) ∧ (b = false → ¬ h < valueQ Q C[i] ∧ ¬ h < valueQ Q C[i + 1] ∧ ¬ (valueQ Q C[i] = h ∧ valueQ Q C[i + 1] = h))
/-- what the law asks of the answer -/
structure AbvOk (Q U : List QP) (h lo hi : Rat) : Prop where
  len : U.length ≤ 9
  fr : ∀ u ∈ U, FrB u.1 ∧ FrB u.2
  norm : NormQ U
  within : ∀ u ∈ U, lo ≤ u.1 ∧ u.2 ≤ hi
  piece : PieceOk Q U h (allCuts Q U lo hi U.length)
theorem AbvOk.of {Q : List QP} (hQ : Fk Q) {h lo hi : Rat} (hh : Dn 64 2 h) (h1 : Dn 192 2 lo) (h2 : Dn 192 2 hi) (hlt : lo < hi) (hl : (aboveU Q h lo hi).length ≤ 9) : AbvOk Q (aboveU Q h lo hi) h lo hi :=
  ⟨hl, aboveU_frB hQ.hv hQ.asc hQ.pos hh h1 h2, aboveU_norm ⟨hQ.asc, hlt⟩, aboveU_in ⟨hQ.asc, hlt⟩, fun _ hi1 _ hb => above_piece ⟨hQ.asc, hlt⟩ (allCuts_cut ⟨hQ.asc, hlt⟩ hi1) hb⟩
theorem duo_alloc (w : World) (a b : Int) (h : okDuo (a, b)) : Duos (w.alloc (Obj.cells #[.int .i8 a, .int .i8 b] 59)) (.slice (some ⟨w.heap.size, 0, none⟩) 1 1) [(a, b)] := by
  refine ⟨_, _, rfl, Nat.le_refl _, by decide, fun _ => ⟨w.heap.size, 0, rfl, by simp, fun i hi => ?_⟩⟩
  obtain rfl : i = 0 := by simpa using hi
  exact ⟨h, alloc_cells w #[_, _] _ 0 (by simp), alloc_cells w #[_, _] _ 1 (by simp)⟩
set_option maxRecDepth 100000 in
set_option maxHeartbeats 32000000 in
theorem law_RangesAbove (v : Value) (D : List Duo) (n a b : Int) (w : World) (hw : Good w) (hv : Duos w v D) (hn1 : -128 ≤ n) (hn2 : n ≤ 127) (hab : okDuo (a, b)) :
    Calls Tryz.prog 6 #[v, .int .i8 n, .agg #[.int .i8 a, .int .i8 b]] w (RetAb w) := by
  have HKN := Lib.hid (fun w' (hb : Below w.heap.size w w') => law_known w' (hw.below hb))
  have HPT := Lib.hid (fun w' (hb : Below w.heap.size w w') => law_points v D w' (hv.below hb))
  have hF := Fk.of hv.ok
  obtain ⟨p, c, rfl, hc, hmx, hxx⟩ := hv
  clear hxx
  obtain ⟨wB, hwB⟩ : ∃ wB, wB = w.alloc (Obj.cells #[.int .i8 a, .int .i8 b] 59) := ⟨_, rfl⟩
  have hbB : Below w.heap.size w wB := by rw [hwB]; exact alloc_below _ _
  have hBx : wB.heap[w.heap.size]? = some (.cells #[.int .i8 a, .int .i8 b] 59 (0, 0)) := by rw [hwB]; exact World.alloc_heap_new _ _
  have HWB := Lib.hid hwB
  clear hwB
  by_cases h8 : 8 < D.length
  · have e1 : decide ((8 : Int) < (D.length : Int)) = true := decide_eq_true (by omega)
    clear HPT hF h8
    generalize D.length = nd at *
    go_enter Tryz.func6, Tryz.ntmps6
    go_wp2_with fail
    rw [← HWB.out]
    refine (HKN.out wB hbB).mono ?_
    rintro e w1 ⟨rfl, hb1⟩
    have hb01 := hbB.trans (hb1.mono hbB.size)
    go_wp2_with fail
    refine (HKN.out w1 hb01).mono ?_
    rintro e w2 ⟨rfl, hb2⟩
    go_wp2
    go_ret
    exact ⟨rfl, hb01.trans (hb2.mono hb01.size)⟩
  · have e1 : decide ((8 : Int) < (D.length : Int)) = false := decide_eq_false (by omega)
    clear h8
    unfold PtsPost at HPT
    generalize ptsQ D = Q at *
    generalize D.length = nd at *
    have hl8 := hF.len
    have hl0 := hF.pos
    unfold okDuo at hab
    dsimp only at hab
    obtain ⟨e0, he0⟩ : ∃ e0, e0 = (endZ (a, b)).1 := ⟨_, rfl⟩
    obtain ⟨e1', he1'⟩ : ∃ e1', e1' = (endZ (a, b)).2 := ⟨_, rfl⟩
    have hE : endsZ [(a, b)] = [(e0, e1')] := by rw [he0, he1']; rfl
    have he : -128 ≤ e0 ∧ e0 ≤ 127 ∧ e0 < e1' ∧ e1' ≤ e0 + 12 := by
      rw [he0, he1']
      unfold endZ
      dsimp only
      omega
    have HEN := Lib.hid (fun w' u (h : Duos w' u [(a, b)]) => law_ends u [(a, b)] w' h)
    unfold EndsPost at HEN
    rw [hE] at HEN
    have HDU := Lib.hid (fun w' => duo_alloc w' a b hab)
    clear he0 he1' hE
    obtain ⟨lo, hlo⟩ : ∃ lo, lo = hf e0 := ⟨_, rfl⟩
    obtain ⟨hi, hhi⟩ : ∃ hi, hi = hf e1' := ⟨_, rfl⟩
    obtain ⟨h, hh⟩ : ∃ h, h = hf n := ⟨_, rfl⟩
    have dlo : Dn 192 2 lo := by rw [hlo]; exact Dn.half (by omega)
    have dhi : Dn 192 2 hi := by rw [hhi]; exact Dn.half (by omega)
    have dh : Dn 64 2 h := by rw [hh]; exact Dn.half (by omega)
    have hlt : lo < hi := by rw [hlo, hhi]; exact hf_lt.2 he.2.2.1
    have H0 := Lib.hid (fun w' => law_half e0 w' (by omega) (by omega))
    have H1 := Lib.hid (fun w' => law_half e1' w' (by omega) (by omega))
    have HN := Lib.hid (fun w' => law_half n w' (by omega) (by omega))
    rw [← hlo] at H0
    rw [← hhi] at H1
    rw [← hh] at HN
    clear hlo hhi hh
    have flo := frB_dn dlo
    have fhi := frB_dn dhi
    have fh := frB_dn (dh.mono (B' := 192) (by decide))
    have slo := txSize flo
    have shi := txSize fhi
    have sh := txSize fh
    have HKT := Lib.hid (fun w' u (h : Quads w' u Q) => law_knots u Q w' h hF.fr (by omega))
    unfold KntPost at HKT
    have HAB := Lib.hid (fun w' u (hg : Good w') (hp : Pairs w' u (Q.map textP)) => above_fn hF dh dlo dhi hlt u w' hg hp)
    have HAN := Lib.hid (fun w' u (hg : Good w') (hp : Pairs w' u (Q.map textP)) => (by
      have := above_at u _ ⟨#[120]⟩ (tx lo) (tx hi) (by decide) w' hg hp hF.sz (by rw [atErr_two hF.err badX]; decide)
      rw [atErr_two hF.err badX] at this
      exact this : Calls Tryz.prog 33 #[u, .string ⟨#[120]⟩, .agg #[.string (tx lo), .string (tx hi)]] w' (ErrPost (.slice none 0 0) 2 w')))
    have HAW := Lib.hid (fun w' u (hg : Good w') (hp : Pairs w' u (Q.map textP)) => (by
      have := above_part u _ (tx h) s1 s1 (by omega) (by decide) (by decide) w' hg hp hF.sz (atErr_ok hF.err fh.ok.1) (by rw [bad11]; decide)
      rw [bad11] at this
      exact this : Calls Tryz.prog 33 #[u, .string (tx h), .agg #[.string s1, .string s1]] w' (ErrPost (.slice none 0 0) 7 w')))
    have HOK := Lib.hid (fun (hl : (aboveU Q h lo hi).length ≤ 9) => AbvOk.of hF dh dlo dhi hlt hl)
    have HVL := Lib.hid (fun c (hc : FrB c) w' u (hg : Good w') (hp : Pairs w' u (Q.map textP)) => value_fn hF hc u w' hg hp)
    have HLS := Lib.hid (fun (x y : Rat) (hx : (tx x).size ≤ 402) (hy : (tx y).size ≤ 402) w' (hg : Good w') => law_less (tx x) (tx y) x y (isT x) (isT y) (by omega) (by omega) w' hg)
    have HVS := Lib.hid (fun c (hc : FrB c) => ratB_size (okR2 (value_frB hF.fr hF.asc hF.pos hc) (by decide) (by decide)).1)
    have HTK := Lib.hid (fun k (hk : k < Q.length) w' => ref_Text' Q[k].1 w' ((hF.fr.at hk).1.mono (by decide) (by decide)))
    have HQB := Lib.hid (fun q (hq : q ∈ Q) => frB_dn ((hF.hv.all q hq).1.mono (B' := 192) (by decide)))
    have HCT := Lib.hid (fun (C : List Rat) (x : Rat) (hx : FrB x) (hC : ∀ c ∈ C, FrB c) w' u (hg : Good w') (ht : Txts w' u C) (h2 : 2 ≤ C.length) (hl : C.length ≤ 1000) => law_cut u C x hx hC w' hg ht h2 hl)
    unfold AbvW at HAB
    unfold ErrPost at HAN HAW
    unfold CutPost at HCT
    unfold fracV at HTK
    have HLT := Lib.hid hlt
    have HFL := Lib.hid flo
    have HFH := Lib.hid fhi
    obtain ⟨U, hU⟩ : ∃ U, U = aboveU Q h lo hi := ⟨_, rfl⟩
    rw [← hU] at HAB HOK
    clear hF dlo dhi dh hlt flo fhi fh hU
    obtain ⟨sl, hsl⟩ : ∃ s, s = tx lo := ⟨_, rfl⟩
    obtain ⟨sr, hsr⟩ : ∃ s, s = tx hi := ⟨_, rfl⟩
    obtain ⟨st, hst⟩ : ∃ s, s = tx h := ⟨_, rfl⟩
    rw [← hsl] at slo H0 HAB HAN
    rw [← hsr] at shi H1 HAB HAN
    rw [← hst] at sh HN HAB HAW
    have HSL := Lib.hid hsl
    have HSR := Lib.hid hsr
    have HST := Lib.hid hst
    clear hsl hsr hst
    go_enter Tryz.func6, Tryz.ntmps6
    go_wp2_with fail
    rw [← HWB.out]
    refine (HKN.out wB hbB).mono ?_
    rintro e w1 ⟨rfl, hb1⟩
    have hb01 := hbB.trans (hb1.mono hbB.size)
    have hx1 := (hb1.block _ (lt_of_some hBx)).trans hBx
    clear hBx
    go_wp2_with fail
    refine (HPT.out w1 hb01).mono ?_
    rintro e w2 ⟨v2, rfl, hq2, hb2⟩
    have hb02 := hb01.trans (hb2.mono hb01.size)
    have hx2 := (hb2.block _ (lt_of_some hx1)).trans hx1
    obtain ⟨pf, cf, rfl, hcf, hmf, _⟩ := id hq2
    obtain ⟨nq, hnq⟩ : ∃ nq, Q.length = nq := ⟨_, rfl⟩
    rw [hnq] at hcf hq2 ⊢
    have HNQ := Lib.hid hnq
    have HQ2 := Lib.hid hq2
    clear hnq hq2 hx1
    obtain ⟨_, _, _, _⟩ := two_cells hx2
    go_wp2_with fail
    obtain ⟨w3, hw3⟩ : ∃ w3, w3 = w2.alloc (Obj.cells #[.int .i8 a, .int .i8 b] 59) := ⟨_, rfl⟩
    have hb3 : Below w2.heap.size w2 w3 := by rw [hw3]; exact alloc_below _ _
    have hd3 := HDU.out w2
    rw [← hw3] at hd3 ⊢
    clear hw3
    have hb03 := hb02.trans (hb3.mono hb02.size)
    refine (HEN.out w3 _ hd3).mono ?_
    rintro e w4 ⟨v4, rfl, hz4, hb4⟩
    have hb04 := hb03.trans (hb4.mono hb03.size)
    have hb24 := hb3.trans (hb4.mono hb3.size)
    obtain ⟨pz, cz, rfl, hcz, hmz, hxz⟩ := hz4
    obtain ⟨bz, oz, rfl, hbz, hcell⟩ := hxz (by simp)
    obtain ⟨z0, z1⟩ := hcell 0 (by simp)
    simp only [List.getElem_cons_zero, Nat.zero_mul, Nat.add_zero] at z0 z1
    simp only [List.length_cons, List.length_nil, Nat.zero_add] at hcz ⊢
    replace HQ2 := Lib.hid (HQ2.out.below hb24)
    clear hcell hxz hd3 hx2
    clear HPT HEN HDU HWB
    obtain ⟨w5, hw5⟩ : ∃ w5, w5 = w4.alloc (Obj.cells #[.int .i64 e0, .int .i64 e1'] 60) := ⟨_, rfl⟩
    have hx5 : w5.heap[w4.heap.size]? = some (.cells #[.int .i64 e0, .int .i64 e1'] 60 (0, 0)) := by rw [hw5]; exact World.alloc_heap_new _ _
    have hb5 : Below w4.heap.size w4 w5 := by rw [hw5]; exact alloc_below _ _
    have hb05 := hb04.trans (hb5.mono hb04.size)
    have HQ5 := Lib.hid (HQ2.out.below hb5)
    obtain ⟨y0, y1, _, _⟩ := two_cells hx5
    have hl5 := lt_of_some hx5
    go_upto_region 5 with fail
    have HW5 := Lib.hid hw5
    clear hw5 hx5 HQ2
    rw [← HW5.out]
    go_cut [9] from 43 to 49 (fun s9 wx => BoxP w5 sl sr s9 wx)
    case first =>
      refine wp_held_alloc (fun W' => Below w5.heap.size w5 W') [0, 1, 3, 4] [2, 5, 6] 7 8 (by kernel_rfl) (by kernel_rfl) ⟨rfl, rfl, rfl, Nat.le_refl _, fun _ _ => rfl⟩ ?_
      iterate 4
        refine wpTakeL_step rfl ?_ rfl ?_ ?_
        rotate_left
        · intro W' hS'
          have s0 := (hS'.cell (p := ⟨w4.heap.size, 0, none⟩) hl5).trans y0
          have s1 := (hS'.cell (p := ⟨w4.heap.size, 1, none⟩) hl5).trans y1
          go_simp
          try with_reducible rfl
        try simp only [List.getElem_toArray, List.getElem_cons_zero, List.getElem_cons_succ, Act.put, List.setIfInBounds_toArray, List.set_cons_zero, List.set_cons_succ]
      have hH0 : Below w5.heap.size w5 w5.drew := ⟨rfl, rfl, rfl, Nat.le_refl _, fun _ _ => rfl⟩
      generalize w5.drew = w0 at *
      unfold wpKeepA
      refine ⟨?_, ?_⟩
      · refine wpOne_mk rfl rfl (fun K hK => ?_)
        go_simp
        refine (H0.out _).mono ?_
        rintro e wk1 ⟨rfl, hbwk1⟩
        have hK1 := hH0.trans (hbwk1.mono hH0.size)
        refine hK _ _ ⟨hK1, ?_⟩
        clear hK K
        try simp only [List.getElem_toArray, List.getElem_cons_zero, List.getElem_cons_succ, Act.put, List.setIfInBounds_toArray, List.set_cons_zero, List.set_cons_succ]
        unfold wpKeepA
        refine ⟨?_, ?_⟩
        · refine wpOne_mk rfl rfl (fun K hK => ?_)
          go_simp
          refine (H1.out _).mono ?_
          rintro e wk2 ⟨rfl, hbwk2⟩
          have hK2 := hK1.trans (hbwk2.mono hK1.size)
          refine hK _ _ ⟨hK2, ?_⟩
          clear hK K
          try simp only [List.getElem_toArray, List.getElem_cons_zero, List.getElem_cons_succ, Act.put, List.setIfInBounds_toArray, List.set_cons_zero, List.set_cons_succ]
          unfold wpKeepA
          refine ⟨?_, ?_⟩
          · refine wpOne_mk rfl rfl (fun K hK => ?_)
            go_simp
            refine hK _ _ ⟨hK2, ?_⟩
            clear hK K
            try simp only [List.getElem_toArray, List.getElem_cons_zero, List.getElem_cons_succ, Act.put, List.setIfInBounds_toArray, List.set_cons_zero, List.set_cons_succ]
            unfold wpKeepA
            refine wpOne_mk rfl rfl (fun K hK => ?_)
            go_simp
            have hB3 := hK2.size
            obtain ⟨wk3, hwwk3⟩ : ∃ wk3, wk3 = wk2.alloc (Obj.cells #[.string ⟨#[]⟩, .string ⟨#[]⟩] 33) := ⟨_, rfl⟩
            have hz3 : wk3.heap[wk2.heap.size]? = some (.cells #[.string ⟨#[]⟩, .string ⟨#[]⟩] 33 (0, 0)) := by rw [hwwk3]; exact World.alloc_heap_new _ _
            have hK3 : Below w5.heap.size w5 wk3 := by rw [hwwk3]; exact hK2.trans ((alloc_below _ _).mono hK2.size)
            rw [← hwwk3]
            clear hwwk3
            refine hK _ _ ⟨hK3, ?_⟩
            clear hK K
            try simp only [List.getElem_toArray, List.getElem_cons_zero, List.getElem_cons_succ, Act.put, List.setIfInBounds_toArray, List.set_cons_zero, List.set_cons_succ]
            try unfold wpKeepL
            simp only [List.drop_succ_cons, List.drop_zero]
            try simp only [List.getElem_toArray, List.getElem_cons_zero, List.getElem_cons_succ, Act.put, List.setIfInBounds_toArray, List.set_cons_zero, List.set_cons_succ]
            obtain ⟨_, _, _, _⟩ := two_cells hz3
            have hpz := two_set1 (.string sr) (two_set0 (.string sl) hz3)
            have HBA := Lib.hid (show BoxP w5 sl sr (.pointer (some ⟨_, 0, none⟩)) _ from ⟨_, rfl, hpz, hB3, (hK3.setCell (p := ⟨_, 0, none⟩) hB3 _).setCell (p := ⟨_, 1, none⟩) hB3 _⟩)
            clear hpz hz3
            refine wpKeep_step rfl (fun K hK => ?_)
            go_simp
            refine hK _ _ ⟨trivial, wpKeep_nil ?_⟩
            clear hK K
            try simp only [List.getElem_toArray, List.getElem_cons_zero, List.getElem_cons_succ, Act.put, List.setIfInBounds_toArray, List.set_cons_zero, List.set_cons_succ]
            refine NormalOnly.mk ?_
            go_wp2_with fail
            go_meet
            exact HBA.out
          · refine wpOne_mk rfl rfl (fun K hK => ?_)
            go_simp
            have hB4 := hK2.size
            obtain ⟨wk4, hwwk4⟩ : ∃ wk4, wk4 = wk2.alloc (Obj.cells #[.string ⟨#[]⟩, .string ⟨#[]⟩] 33) := ⟨_, rfl⟩
            have hz4 : wk4.heap[wk2.heap.size]? = some (.cells #[.string ⟨#[]⟩, .string ⟨#[]⟩] 33 (0, 0)) := by rw [hwwk4]; exact World.alloc_heap_new _ _
            have hK4 : Below w5.heap.size w5 wk4 := by rw [hwwk4]; exact hK2.trans ((alloc_below _ _).mono hK2.size)
            rw [← hwwk4]
            clear hwwk4
            refine hK _ _ ⟨hK4, ?_⟩
            clear hK K
            try simp only [List.getElem_toArray, List.getElem_cons_zero, List.getElem_cons_succ, Act.put, List.setIfInBounds_toArray, List.set_cons_zero, List.set_cons_succ]
            refine wpKeepL_step rfl rfl (fun K hK => ?_)
            go_simp
            refine hK _ _ ⟨hK4, ?_⟩
            clear hK K
            try simp only [List.getElem_toArray, List.getElem_cons_zero, List.getElem_cons_succ, Act.put, List.setIfInBounds_toArray, List.set_cons_zero, List.set_cons_succ]
            try unfold wpKeepL
            simp only [List.drop_succ_cons, List.drop_zero]
            try simp only [List.getElem_toArray, List.getElem_cons_zero, List.getElem_cons_succ, Act.put, List.setIfInBounds_toArray, List.set_cons_zero, List.set_cons_succ]
            obtain ⟨_, _, _, _⟩ := two_cells hz4
            have hpz := two_set1 (.string sr) (two_set0 (.string sl) hz4)
            have HBA := Lib.hid (show BoxP w5 sl sr (.pointer (some ⟨_, 0, none⟩)) _ from ⟨_, rfl, hpz, hB4, (hK4.setCell (p := ⟨_, 0, none⟩) hB4 _).setCell (p := ⟨_, 1, none⟩) hB4 _⟩)
            clear hpz hz4
            refine wpKeep_step rfl (fun K hK => ?_)
            go_simp
            refine hK _ _ ⟨trivial, wpKeep_nil ?_⟩
            clear hK K
            try simp only [List.getElem_toArray, List.getElem_cons_zero, List.getElem_cons_succ, Act.put, List.setIfInBounds_toArray, List.set_cons_zero, List.set_cons_succ]
            refine NormalOnly.mk ?_
            go_wp2_with fail
            go_meet
            exact HBA.out
        · refine wpOne_mk rfl rfl (fun K hK => ?_)
          go_simp
          have hB5 := hK1.size
          obtain ⟨wk5, hwwk5⟩ : ∃ wk5, wk5 = wk1.alloc (Obj.cells #[.string ⟨#[]⟩, .string ⟨#[]⟩] 33) := ⟨_, rfl⟩
          have hz5 : wk5.heap[wk1.heap.size]? = some (.cells #[.string ⟨#[]⟩, .string ⟨#[]⟩] 33 (0, 0)) := by rw [hwwk5]; exact World.alloc_heap_new _ _
          have hK5 : Below w5.heap.size w5 wk5 := by rw [hwwk5]; exact hK1.trans ((alloc_below _ _).mono hK1.size)
          rw [← hwwk5]
          clear hwwk5
          refine hK _ _ ⟨hK5, ?_⟩
          clear hK K
          try simp only [List.getElem_toArray, List.getElem_cons_zero, List.getElem_cons_succ, Act.put, List.setIfInBounds_toArray, List.set_cons_zero, List.set_cons_succ]
          refine wpKeepL_step rfl rfl (fun K hK => ?_)
          go_simp
          refine (H1.out _).mono ?_
          rintro e wk6 ⟨rfl, hbwk6⟩
          have hK6 := hK5.trans (hbwk6.mono hK5.size)
          refine hK _ _ ⟨hK6, ?_⟩
          clear hK K
          try simp only [List.getElem_toArray, List.getElem_cons_zero, List.getElem_cons_succ, Act.put, List.setIfInBounds_toArray, List.set_cons_zero, List.set_cons_succ]
          have hz6 := (hbwk6.block _ (lt_of_some hz5)).trans hz5
          refine wpKeepL_step rfl rfl (fun K hK => ?_)
          go_simp
          refine hK _ _ ⟨hK6, ?_⟩
          clear hK K
          try simp only [List.getElem_toArray, List.getElem_cons_zero, List.getElem_cons_succ, Act.put, List.setIfInBounds_toArray, List.set_cons_zero, List.set_cons_succ]
          try unfold wpKeepL
          simp only [List.drop_succ_cons, List.drop_zero]
          try simp only [List.getElem_toArray, List.getElem_cons_zero, List.getElem_cons_succ, Act.put, List.setIfInBounds_toArray, List.set_cons_zero, List.set_cons_succ]
          obtain ⟨_, _, _, _⟩ := two_cells hz6
          have hpz := two_set1 (.string sr) (two_set0 (.string sl) hz6)
          have HBA := Lib.hid (show BoxP w5 sl sr (.pointer (some ⟨_, 0, none⟩)) _ from ⟨_, rfl, hpz, hB5, (hK6.setCell (p := ⟨_, 0, none⟩) hB5 _).setCell (p := ⟨_, 1, none⟩) hB5 _⟩)
          clear hpz hz6
          refine wpKeep_step rfl (fun K hK => ?_)
          go_simp
          refine hK _ _ ⟨trivial, wpKeep_nil ?_⟩
          clear hK K
          try simp only [List.getElem_toArray, List.getElem_cons_zero, List.getElem_cons_succ, Act.put, List.setIfInBounds_toArray, List.set_cons_zero, List.set_cons_succ]
          refine NormalOnly.mk ?_
          go_wp2_with fail
          go_meet
          exact HBA.out
      · refine wpOne_mk rfl rfl (fun K hK => ?_)
        go_simp
        have hB7 := hH0.size
        obtain ⟨wk7, hwwk7⟩ : ∃ wk7, wk7 = w0.alloc (Obj.cells #[.string ⟨#[]⟩, .string ⟨#[]⟩] 33) := ⟨_, rfl⟩
        have hz7 : wk7.heap[w0.heap.size]? = some (.cells #[.string ⟨#[]⟩, .string ⟨#[]⟩] 33 (0, 0)) := by rw [hwwk7]; exact World.alloc_heap_new _ _
        have hK7 : Below w5.heap.size w5 wk7 := by rw [hwwk7]; exact hH0.trans ((alloc_below _ _).mono hH0.size)
        rw [← hwwk7]
        clear hwwk7
        refine hK _ _ ⟨hK7, ?_⟩
        clear hK K
        try simp only [List.getElem_toArray, List.getElem_cons_zero, List.getElem_cons_succ, Act.put, List.setIfInBounds_toArray, List.set_cons_zero, List.set_cons_succ]
        refine wpKeepL_step rfl rfl (fun K hK => ?_)
        go_simp
        refine (H0.out _).mono ?_
        rintro e wk8 ⟨rfl, hbwk8⟩
        have hK8 := hK7.trans (hbwk8.mono hK7.size)
        refine hK _ _ ⟨hK8, ?_⟩
        clear hK K
        try simp only [List.getElem_toArray, List.getElem_cons_zero, List.getElem_cons_succ, Act.put, List.setIfInBounds_toArray, List.set_cons_zero, List.set_cons_succ]
        have hz8 := (hbwk8.block _ (lt_of_some hz7)).trans hz7
        refine wpKeepL_step rfl rfl (fun K hK => ?_)
        go_simp
        refine (H1.out _).mono ?_
        rintro e wk9 ⟨rfl, hbwk9⟩
        have hK9 := hK8.trans (hbwk9.mono hK8.size)
        refine hK _ _ ⟨hK9, ?_⟩
        clear hK K
        try simp only [List.getElem_toArray, List.getElem_cons_zero, List.getElem_cons_succ, Act.put, List.setIfInBounds_toArray, List.set_cons_zero, List.set_cons_succ]
        have hz9 := (hbwk9.block _ (lt_of_some hz8)).trans hz8
        refine wpKeepL_step rfl rfl (fun K hK => ?_)
        go_simp
        refine hK _ _ ⟨hK9, ?_⟩
        clear hK K
        try simp only [List.getElem_toArray, List.getElem_cons_zero, List.getElem_cons_succ, Act.put, List.setIfInBounds_toArray, List.set_cons_zero, List.set_cons_succ]
        try unfold wpKeepL
        simp only [List.drop_succ_cons, List.drop_zero]
        try simp only [List.getElem_toArray, List.getElem_cons_zero, List.getElem_cons_succ, Act.put, List.setIfInBounds_toArray, List.set_cons_zero, List.set_cons_succ]
        obtain ⟨_, _, _, _⟩ := two_cells hz9
        have hpz := two_set1 (.string sr) (two_set0 (.string sl) hz9)
        have HBA := Lib.hid (show BoxP w5 sl sr (.pointer (some ⟨_, 0, none⟩)) _ from ⟨_, rfl, hpz, hB7, (hK9.setCell (p := ⟨_, 0, none⟩) hB7 _).setCell (p := ⟨_, 1, none⟩) hB7 _⟩)
        clear hpz hz9
        refine wpKeep_step rfl (fun K hK => ?_)
        go_simp
        refine hK _ _ ⟨trivial, wpKeep_nil ?_⟩
        clear hK K
        try simp only [List.getElem_toArray, List.getElem_cons_zero, List.getElem_cons_succ, Act.put, List.setIfInBounds_toArray, List.set_cons_zero, List.set_cons_succ]
        refine NormalOnly.mk ?_
        go_wp2_with fail
        go_meet
        exact HBA.out
    case rest =>
      obtain ⟨B9, rfl, hB9, hBl9, hbw6⟩ := hcut
      obtain ⟨w6, rfl⟩ : ∃ w6 : World, w6 = wc := ⟨_, rfl⟩
      have hb06 := hb05.trans (hbw6.mono hb05.size)
      have HQ6 := Lib.hid (HQ5.out.below hbw6)
      clear y0 y1
      go_wp2_with fail
      refine (HN.out w6).mono ?_
      rintro e w7 ⟨rfl, hb7⟩
      have hb07 := hb06.trans (hb7.mono hb06.size)
      have HQ7 := Lib.hid (HQ6.out.below hb7)
      have hB7 := (hb7.block _ (lt_of_some hB9)).trans hB9
      have hl7 := lt_of_some hB7
      obtain ⟨x0, x1, _, _⟩ := two_cells hB7
      have HB7 := Lib.hid hB7
      clear hB7 HQ5 HQ6
      go_wp2_with fail
      go_region_held3 (fun W => W.cell? ⟨B9, 0, none⟩ = some (.string sl) ∧ W.cell? ⟨B9, 1, none⟩ = some (.string sr) ∧ W.cell? ⟨B9, 0, none⟩ = some (.string sl) ∧ W.cell? ⟨B9, 1, none⟩ = some (.string sr) ∧ Below w7.heap.size w7 W)
        (first | exact FourS.drew x0 x1 x0 x1 | (refine FourS.keep hl7 hl7 hl7 hl7 (by assumption) ?_; first | assumption | (go_split_ands; refine ⟨?_, ?_, ?_, ?_, ?_⟩ <;> assumption)))
        (first
          | (go_at_call 28; refine (HKT.out _ _ ?_).mono ?_; exact HQ7.out.below (FourS.low (by assumption)); rintro e wk7 ⟨uk7, rfl, hpk7, hbk7⟩)
          | (go_at_call 33; refine (HAB.out _ uk7 ?_ hpk7).mono ?_; exact hw.below (hb07.trans ((FourS.low (by assumption)).mono hb07.size)); rintro e w8 ⟨u8, rfl, hU9, hpu, hbr7⟩))
      have hG2 : Below w7.heap.size w7 w8 := FourS.low (by assumption)
      obtain ⟨pu, cu, rfl, _⟩ := id hpu
      obtain ⟨nu, hnu⟩ : ∃ nu, (U.map textP).length = nu := ⟨_, rfl⟩
      rw [hnu] at hpu ⊢
      have hnu2 : U.length = nu := by rw [← hnu, List.length_map]
      clear hnu
      have hb08 := hb07.trans (hG2.mono hb07.size)
      have HQ8 := Lib.hid (HQ7.out.below hG2)
      have HPU8 := Lib.hid hpu
      have hB8 := (hG2.block _ hl7).trans HB7.out
      have hl8 := lt_of_some hB8
      have HB8 := Lib.hid hB8
      clear x0 x1 hpu hpk7 hG2 hbk7 hbr7
      obtain ⟨x0, x1, _, _⟩ := two_cells hB8
      clear hB8
      go_wp2_with fail
      go_region_held3 (fun W => W.cell? ⟨B9, 0, none⟩ = some (.string sl) ∧ W.cell? ⟨B9, 1, none⟩ = some (.string sr) ∧ W.cell? ⟨B9, 0, none⟩ = some (.string sl) ∧ W.cell? ⟨B9, 1, none⟩ = some (.string sr) ∧ Below w8.heap.size w8 W)
        (first | exact FourS.drew x0 x1 x0 x1 | (refine FourS.keep hl8 hl8 hl8 hl8 (by assumption) ?_; first | assumption | (go_split_ands; refine ⟨?_, ?_, ?_, ?_, ?_⟩ <;> assumption)))
        (first
          | (go_at_call 28; refine (HKT.out _ _ ?_).mono ?_; exact HQ8.out.below (FourS.low (by assumption)); rintro e wk8 ⟨uk8, rfl, hpk8, hbk8⟩)
          | (go_at_call 33; refine (HAN.out _ uk8 ?_ hpk8).mono ?_; exact hw.below (hb08.trans ((FourS.low (by assumption)).mono hb08.size)); rintro e w9 ⟨rfl, hbr8⟩))
      have hJ2 : Below w8.heap.size w8 w9 := FourS.low (by assumption)
      have hb09 := hb08.trans (hJ2.mono hb08.size)
      have HQ9 := Lib.hid (HQ8.out.below hJ2)
      have HPU9 := Lib.hid (HPU8.out.below hJ2)
      have HB9 := Lib.hid ((hJ2.block _ hl8).trans HB8.out)
      clear x0 x1 hpk8 hJ2 hbk8 hbr8 HQ7 HQ8 HPU8 HB7 HB8
      go_wp2_with fail
      refine (HKT.out w9 _ HQ9.out).mono ?_
      rintro e w10 ⟨uk9, rfl, hpk9, hb10⟩
      have hb010 := hb09.trans (hb10.mono hb09.size)
      go_wp2_with fail
      refine (HAW.out w10 uk9 (hw.below hb010) hpk9).mono ?_
      rintro e w11 ⟨rfl, hb11⟩
      have hb011 := hb010.trans (hb11.mono hb010.size)
      have hb911 := hb10.trans (hb11.mono hb10.size)
      have hok := HOK.out hU9
      have hck := textsB_check hok.fr hok.norm hok.len
      have hsz := szOk_of (checkErr_ok hck).1
      have HCK := Lib.hid hck
      have HAO := Lib.hid hok
      have HCH := Lib.hid (fun w' u (hg : Good w') (hp : Pairs w' u (U.map textP)) => ranges_Check u _ w' hg hp hsz)
      rw [hck] at HCH
      have HHS := Lib.hid (fun m (hm : Fr (10 ^ 130) (10 ^ 130) m) w' u (hg : Good w') (hp : Pairs w' u (U.map textP)) => has_fn hck hm u w' hg hp)
      have HUR := Lib.hid (textsB_rats hok.fr)
      clear hpk9 hok hck hsz
      go_wp2_with fail
      refine (HCH.out w11 _ (hw.below hb011) (HPU9.out.below hb911)).mono ?_
      rintro e w12 ⟨rfl, hb12⟩
      have hb012 := hb011.trans (hb12.mono hb011.size)
      have hb912 := hb911.trans (hb12.mono hb911.size)
      have hq12 := HQ9.out.below hb912
      have hp12 := HPU9.out.below hb912
      have hB12 := (hb912.block _ (lt_of_some HB9.out)).trans HB9.out
      obtain ⟨x0, x1, _, _⟩ := two_cells hB12
      have hl12 := lt_of_some hB12
      have HB12 := Lib.hid hB12
      obtain ⟨pf1, cf1, hvf, _, _, hxf⟩ := hq12
      simp only [Value.slice.injEq] at hvf
      obtain ⟨rfl, hzz, rfl⟩ := hvf
      clear hzz
      obtain ⟨bf, of_, rfl, hbf, hcf0⟩ := hxf hl0
      obtain ⟨pu1, cu1, hvu, hcu1, hmu1, hxu⟩ := hp12
      simp only [Value.slice.injEq] at hvu
      obtain ⟨rfl, hnu3, rfl⟩ := hvu
      have HXU := Lib.hid hxu
      have HCF := Lib.hid hcf0
      have HP12 := Lib.hid (HPU9.out.below hb912)
      have HQ12 := Lib.hid (HQ9.out.below hb912)
      have hTS := txts_start lo hi w12
      rw [← HSL.out, ← HSR.out] at hTS
      have HTS := Lib.hid (show Txts _ _ (knotCuts Q lo hi 0) from hTS)
      clear hB12 hxf hxu hcf0 hTS HQ9 HPU9 HB9 hb1 hb2 hb3 hb4 hb5 hb7 hb10 hb11 hb12 hb911 hb912 hnu3
      go_wp2_with fail
      go_loopw [17, 18] (fun cv kv wr => ∃ (k : Nat) (vv : Value), k ≤ nq ∧ Txts wr vv (knotCuts Q lo hi k) ∧ vv = cv ∧ kv = .int .i64 (k : Int) ∧ Below w12.heap.size w12 wr) (fun _ kv _ => nq - (intOf kv).toNat)
      case atStart => exact ⟨0, _, Nat.zero_le _, HTS.out, rfl, rfl, alloc_below _ _⟩
      case round =>
        obtain ⟨k, cv, hkq, htx, rfl, rfl, hbr⟩ := hrel
        have hbr0 := hb012.trans (hbr.mono hb012.size)
        obtain ⟨bc, cc, rfl, hcc, hcm, hbc, _⟩ := id htx
        obtain ⟨nc, hnc⟩ : ∃ nc, (knotCuts Q lo hi k).length = nc := ⟨_, rfl⟩
        rw [hnc] at htx hcc ⊢
        have HNC := Lib.hid hnc
        have HTX := Lib.hid htx
        clear htx hnc
        by_cases hk : k < nq
        · have hkQ : k < Q.length := by rw [HNQ.out]; exact hk
          have hkn : decide ((k : Int) < (nq : Int)) = true := decide_eq_true (by omega)
          have i1 : (0 : Int) ≤ (k : Int) := by omega
          have i2 : (k : Int) < (nq : Int) := by omega
          obtain ⟨c0, c1, _, _⟩ := HCF.out k hkQ
          rw [← hbr.cell (p := ⟨bf, of_ + k * 4, none⟩) hbf] at c0
          rw [← hbr.cell (p := ⟨bf, of_ + k * 4 + 1, none⟩) hbf] at c1
          have TK := Lib.hid (HTK.out k hkQ)
          obtain ⟨k1, k2, k3, k4⟩ := knotCuts_ok HLT.out HQB.out HFL.out HFH.out (Nat.le_of_lt hkQ)
          have CT := Lib.hid (HCT.out (knotCuts Q lo hi k) Q[k].1 (HQB.out _ (List.getElem_mem hkQ)) k2)
          have HSU := Lib.hid (knotCuts_succ (lo := lo) (hi := hi) hkQ)
          have HLE := Lib.hid (And.intro k4 (show (knotCuts Q lo hi k).length ≤ 1000 by omega))
          clear k1 k2 k3 k4
          generalize Q[k].1 = q at *
          generalize tx q = tq at *
          generalize q.num = q0 at *
          generalize (q.den : Int) = q1 at *
          go_wp2_with fail
          refine (TK.out _).mono ?_
          rintro e wa ⟨rfl, hba⟩
          have hbra := hbr0.trans (hba.mono hbr0.size)
          go_wp2_with fail
          refine (CT.out wa _ (hw.below hbra) (HTX.out.below hba) HLE.out.1 HLE.out.2).mono ?_
          rintro e wb ⟨v', rfl, htx', hbb⟩
          rw [← HSU.out] at htx'
          have HT' := Lib.hid htx'
          clear htx'
          go_wp2
          refine ⟨⟨k + 1, v', hk, HT'.out, rfl, int_succ k, hbr.trans ((hba.trans (hbb.mono hba.size)).mono hbr.size)⟩, ?_⟩
          show nq - ((k : Int) + 1).toNat < nq - ((k : Int)).toNat
          omega
        · have hkn : decide ((k : Int) < (nq : Int)) = false := decide_eq_false (by omega)
          obtain rfl : k = nq := by omega
          have htx0 := HTX.out
          have e0q : knotCuts Q lo hi k = allCuts Q U lo hi 0 := by rw [← HNQ.out]; rfl
          rw [e0q] at htx0
          have HT0 := Lib.hid htx0
          obtain ⟨w13, hw13⟩ : ∃ w13 : World, w13 = wr := ⟨_, rfl⟩
          have HP13 := Lib.hid (HP12.out.below hbr)
          have HQ13 := Lib.hid (HQ12.out.below hbr)
          have HB13 := Lib.hid ((hbr.block _ hl12).trans HB12.out)
          clear htx0 e0q HTX HNC hw13 x0 x1
          go_wp2_with fail
          go_loopw [6, 17, 19] (fun _ cv kv wq => ∃ (k : Nat) (vv : Value), k ≤ nu ∧ Txts wq vv (allCuts Q U lo hi k) ∧ vv = cv ∧ kv = .int .i64 (k : Int) ∧ Below wr.heap.size wr wq) (fun _ _ kv _ => nu - (intOf kv).toNat)
          case atStart => exact ⟨0, _, Nat.zero_le _, HT0.out, rfl, rfl, Below.refl _ _⟩
          case round =>
            obtain ⟨j, cv, hju, htx, rfl, rfl, hbs⟩ := hrel
            have hbs0 := hbr0.trans (hbs.mono hbr0.size)
            obtain ⟨bd, cd, rfl, hcd, hdm, hbd, hcelld⟩ := id htx
            obtain ⟨nd2, hnd2⟩ : ∃ nd2, (allCuts Q U lo hi j).length = nd2 := ⟨_, rfl⟩
            rw [hnd2] at htx hcd ⊢
            have HND := Lib.hid hnd2
            have HTX := Lib.hid htx
            have HCD := Lib.hid hcelld
            clear htx hnd2 hcelld
            have hBs := (hbs.block _ (lt_of_some HB13.out)).trans HB13.out
            have hlB := lt_of_some hBs
            obtain ⟨x0, x1, _, _⟩ := two_cells hBs
            clear hBs
            by_cases hj : j < nu
            · have hjU : j < U.length := by omega
              have hjT : j < (U.map textP).length := by rw [List.length_map]; exact hjU
              have hkn : decide ((j : Int) < (nu : Int)) = true := decide_eq_true (by omega)
              have i1 : (0 : Int) ≤ (j : Int) := by omega
              have i2 : (j : Int) < (nu : Int) := by omega
              obtain ⟨bu, ou, rfl, hbu, hcu0⟩ := HXU.out (by rw [List.length_map]; omega)
              obtain ⟨c0, c1⟩ := hcu0 j hjT
              simp only [List.getElem_map, textP] at c0 c1
              rw [← (hbr.trans (hbs.mono hbr.size)).cell (p := ⟨bu, ou + j * 2, none⟩) hbu] at c0
              rw [← (hbr.trans (hbs.mono hbr.size)).cell (p := ⟨bu, ou + j * 2 + 1, none⟩) hbu] at c1
              have hbuq : bu < wr.heap.size := Nat.lt_of_lt_of_le hbu (Nat.le_trans hbr.size hbs.size)
              obtain ⟨f1, f2⟩ := HAO.out.fr _ (List.getElem_mem hjU)
              obtain ⟨g1, g2⟩ := HAO.out.within _ (List.getElem_mem hjU)
              have s1 := txSize f1
              have s2 := txSize f2
              have LA := Lib.hid (fun w' (hg : Good w') => HLS.out U[j].1 lo s1 (by rw [← HSL.out]; exact slo) w' hg)
              have LB := Lib.hid (fun w' (hg : Good w') => HLS.out hi U[j].2 (by rw [← HSR.out]; exact shi) s2 w' hg)
              rw [decide_eq_false (Rat.not_lt.2 g1), ← HSL.out] at LA
              rw [decide_eq_false (Rat.not_lt.2 g2), ← HSR.out] at LB
              obtain ⟨k1, k2, k3, k4⟩ := allCuts_ok HLT.out HQB.out HAO.out.fr HFL.out HFH.out (k := j) (by omega)
              have hlU := HAO.out.len
              have CT := Lib.hid (HCT.out (allCuts Q U lo hi j) U[j].1 f1 k2)
              have hmid : ∀ c ∈ cutQ (allCuts Q U lo hi j) U[j].1, FrB c := fun c hc => by
                rcases cutQ_mem hc with e | e
                · exact k2 c e
                · rw [e]; exact f1
              have hlen2 := cutQ_len (allCuts Q U lo hi j) U[j].1
              have CT2 := Lib.hid (HCT.out (cutQ (allCuts Q U lo hi j) U[j].1) U[j].2 f2 hmid)
              have HSU := Lib.hid (allCuts_succ (Q := Q) (lo := lo) (hi := hi) hjU)
              have HLE := Lib.hid (And.intro k4 (show (allCuts Q U lo hi j).length ≤ 1000 by omega))
              have HLE2 := Lib.hid (And.intro (show 2 ≤ (cutQ (allCuts Q U lo hi j) U[j].1).length by omega) (show (cutQ (allCuts Q U lo hi j) U[j].1).length ≤ 1000 by omega))
              clear k1 k2 k3 k4 hmid hlen2 hcu0 g1 g2
              generalize U[j].1 = q1 at *
              generalize U[j].2 = q2 at *
              generalize cutQ (allCuts Q U lo hi j) q1 = C2 at *
              generalize allCuts Q U lo hi j = C1 at *
              generalize tx q1 = tq1 at *
              generalize tx q2 = tq2 at *
              go_wp2_with fail
              refine wp_held_two (fun W' => Below wr.heap.size wr W') [0, 1, 2, 3, 4, 5, 6] [7, 8] [9, 10, 11, 12, 13, 14, 15] [16] 17 (by kernel_rfl) (by kernel_rfl) ⟨rfl, rfl, rfl, Nat.le_refl _, fun _ _ => rfl⟩ ?_
              iterate 7
                refine wpTakeL_step rfl ?_ rfl ?_ ?_
                rotate_left
                · intro W' hS'
                  have s0 := (hS'.cell (p := ⟨bu, ou + j * 2, none⟩) hbuq).trans c0
                  have s1 := (hS'.cell (p := ⟨bu, ou + j * 2 + 1, none⟩) hbuq).trans c1
                  have s2 := (hS'.cell (p := ⟨B9, 0, none⟩) hlB).trans x0
                  have s3 := (hS'.cell (p := ⟨B9, 1, none⟩) hlB).trans x1
                  go_simp
                  try with_reducible rfl
                try simp only [List.getElem_toArray, List.getElem_cons_zero, List.getElem_cons_succ, Act.put, List.setIfInBounds_toArray, List.set_cons_zero, List.set_cons_succ]
              have hL0 : Below wr.heap.size wr wr.drew := ⟨rfl, rfl, rfl, Nat.le_refl _, fun _ _ => rfl⟩
              refine wpKeepL_step rfl rfl (fun K hK => ?_)
              go_simp
              refine (LA.out _ (hw.below (hbs0.trans (hL0.mono hbs0.size)))).mono ?_
              rintro e wr1 ⟨rfl, hbwr1⟩
              have hL1 := hL0.trans (hbwr1.mono hL0.size)
              refine hK _ _ ⟨hL1, ?_⟩
              clear hK K
              try simp only [List.getElem_toArray, List.getElem_cons_zero, List.getElem_cons_succ, Act.put, List.setIfInBounds_toArray, List.set_cons_zero, List.set_cons_succ]
              refine wpKeepL_step rfl rfl (fun K hK => ?_)
              go_simp
              refine hK _ _ ⟨hL1, ?_⟩
              clear hK K
              try simp only [List.getElem_toArray, List.getElem_cons_zero, List.getElem_cons_succ, Act.put, List.setIfInBounds_toArray, List.set_cons_zero, List.set_cons_succ]
              unfold wpKeepL
              iterate 7
                refine wpTakeL_step rfl ?_ rfl ?_ ?_
                rotate_left
                · intro W' hS'
                  have s0 := (hS'.cell (p := ⟨bu, ou + j * 2, none⟩) hbuq).trans c0
                  have s1 := (hS'.cell (p := ⟨bu, ou + j * 2 + 1, none⟩) hbuq).trans c1
                  have s2 := (hS'.cell (p := ⟨B9, 0, none⟩) hlB).trans x0
                  have s3 := (hS'.cell (p := ⟨B9, 1, none⟩) hlB).trans x1
                  go_simp
                  try with_reducible rfl
                try simp only [List.getElem_toArray, List.getElem_cons_zero, List.getElem_cons_succ, Act.put, List.setIfInBounds_toArray, List.set_cons_zero, List.set_cons_succ]
              unfold wpTakeL
              refine wpKeepL_step rfl rfl (fun K hK => ?_)
              go_simp
              refine (LB.out _ (hw.below (hbs0.trans (hL1.mono hbs0.size)))).mono ?_
              rintro e wr2 ⟨rfl, hbwr2⟩
              have hL2 := hL1.trans (hbwr2.mono hL1.size)
              refine hK _ _ ⟨hL2, ?_⟩
              clear hK K
              try simp only [List.getElem_toArray, List.getElem_cons_zero, List.getElem_cons_succ, Act.put, List.setIfInBounds_toArray, List.set_cons_zero, List.set_cons_succ]
              unfold wpKeepL
              simp only [List.drop_succ_cons, List.drop_zero]
              try simp only [List.getElem_toArray, List.getElem_cons_zero, List.getElem_cons_succ, Act.put, List.setIfInBounds_toArray, List.set_cons_zero, List.set_cons_succ]
              refine wpKeep_step rfl (fun K hK => ?_)
              go_simp
              refine hK _ _ ⟨trivial, wpKeep_nil ?_⟩
              clear hK K
              try simp only [List.getElem_toArray, List.getElem_cons_zero, List.getElem_cons_succ, Act.put, List.setIfInBounds_toArray, List.set_cons_zero, List.set_cons_succ]
              refine NormalOnly.mk ?_
              have hbs2 := hbs0.trans (hL2.mono hbs0.size)
              have hbu2 : bu < wr2.heap.size := Nat.lt_of_lt_of_le hbuq hL2.size
              have d0 := (hL2.cell (p := ⟨bu, ou + j * 2, none⟩) hbuq).trans c0
              have d1 := (hL2.cell (p := ⟨bu, ou + j * 2 + 1, none⟩) hbuq).trans c1
              clear x0 x1 c0 c1 hL0 hL1 hbwr1 hbwr2
              go_wp2_with fail
              refine wp_held_list (fun W' => Below wr2.heap.size wr2 W') [0, 1, 2, 3, 4, 5, 7, 8, 9, 10, 11] [6, 12] 13 (by kernel_rfl) (by kernel_rfl) ⟨rfl, rfl, rfl, Nat.le_refl _, fun _ _ => rfl⟩ ?_
              iterate 11
                refine wpTakeL_step rfl ?_ rfl ?_ ?_
                rotate_left
                · intro W' hS'
                  have s0 := (hS'.cell (p := ⟨bu, ou + j * 2, none⟩) hbu2).trans d0
                  have s1 := (hS'.cell (p := ⟨bu, ou + j * 2 + 1, none⟩) hbu2).trans d1
                  go_simp
                  try with_reducible rfl
                try simp only [List.getElem_toArray, List.getElem_cons_zero, List.getElem_cons_succ, Act.put, List.setIfInBounds_toArray, List.set_cons_zero, List.set_cons_succ]
              have hM0 : Below wr2.heap.size wr2 wr2.drew := ⟨rfl, rfl, rfl, Nat.le_refl _, fun _ _ => rfl⟩
              refine wpKeepL_step rfl rfl (fun K hK => ?_)
              go_simp
              refine (CT.out _ _ (hw.below (hbs2.trans (hM0.mono hbs2.size))) (HTX.out.below (hL2.trans (hM0.mono hL2.size))) HLE.out.1 HLE.out.2).mono ?_
              rintro e wt1 ⟨v1, rfl, ht1, hbwt1⟩
              have hM1 := hM0.trans (hbwt1.mono hM0.size)
              refine hK _ _ ⟨hM1, ?_⟩
              clear hK K
              try simp only [List.getElem_toArray, List.getElem_cons_zero, List.getElem_cons_succ, Act.put, List.setIfInBounds_toArray, List.set_cons_zero, List.set_cons_succ]
              refine wpKeepL_step rfl rfl (fun K hK => ?_)
              go_simp
              refine (CT2.out _ _ (hw.below (hbs2.trans (hM1.mono hbs2.size))) ht1 HLE2.out.1 HLE2.out.2).mono ?_
              rintro e wt2 ⟨v2, rfl, ht2, hbwt2⟩
              have hM2 := hM1.trans (hbwt2.mono hM1.size)
              refine hK _ _ ⟨hM2, ?_⟩
              clear hK K
              try simp only [List.getElem_toArray, List.getElem_cons_zero, List.getElem_cons_succ, Act.put, List.setIfInBounds_toArray, List.set_cons_zero, List.set_cons_succ]
              unfold wpKeepL
              simp only [List.drop_succ_cons, List.drop_zero]
              try simp only [List.getElem_toArray, List.getElem_cons_zero, List.getElem_cons_succ, Act.put, List.setIfInBounds_toArray, List.set_cons_zero, List.set_cons_succ]
              refine wpKeep_step rfl (fun K hK => ?_)
              go_simp
              refine hK _ _ ⟨trivial, wpKeep_nil ?_⟩
              clear hK K
              try simp only [List.getElem_toArray, List.getElem_cons_zero, List.getElem_cons_succ, Act.put, List.setIfInBounds_toArray, List.set_cons_zero, List.set_cons_succ]
              refine NormalOnly.mk ?_
              rw [← HSU.out] at ht2
              have HT2 := Lib.hid ht2
              have hbq2 := hL2.trans (hM2.mono hL2.size)
              clear ht1 ht2 hM0 hM1 hM2 hbwt1 hbwt2
              go_wp2
              refine ⟨⟨j + 1, v2, hj, HT2.out, rfl, int_succ j, hbs.trans (hbq2.mono hbs.size)⟩, ?_⟩
              show nu - ((j : Int) + 1).toNat < nu - ((j : Int)).toNat
              omega
            · have hkn : decide ((j : Int) < (nu : Int)) = false := decide_eq_false (by omega)
              have hjU : j = U.length := by omega
              generalize hCC : allCuts Q U lo hi j = C at HND HCD
              have hC : C = allCuts Q U lo hi U.length := by rw [← hCC, hjU]
              obtain ⟨k1, k2, k3, k4⟩ := allCuts_ok HLT.out HQB.out HAO.out.fr HFL.out HFH.out (k := U.length) (Nat.le_refl _)
              have HPC := Lib.hid HAO.out.piece
              rw [← hC] at HPC k2 k3 k4
              have HFC := Lib.hid k2
              have hnd := HND.out
              have hndm : nd2 ≤ 9223372036854775807 := by unfold maxLen at hdm; omega
              have HP14 := Lib.hid (HP13.out.below hbs)
              have HQ14 := Lib.hid (HQ13.out.below hbs)
              have hjn : j = nu := by omega
              subst hjn
              clear hC hCC k1 k2 k3 HTX hjU x0 x1
              unfold PieceOk at HPC
              rw [hnd] at k4
              have HND2 := Lib.hid hnd
              clear hnd
              go_wp2_with fail
              go_loopw [6, 20, 21, 22, 23, 24, 25, 26, 27] (fun _ iv _ _ _ _ _ _ _ wt => ∃ m : Nat, m + 1 ≤ nd2 ∧ iv = .int .i64 ((m : Int) + 1) ∧ Below wr.heap.size wr wt) (fun _ iv _ _ _ _ _ _ _ _ => nd2 - (intOf iv).toNat)
              case atStart => exact ⟨0, by omega, rfl, Below.refl _ _⟩
              case round =>
                obtain ⟨m, hm1, rfl, hbt⟩ := hrel
                have hbt0 := hbs0.trans (hbt.mono hbs0.size)
                obtain ⟨N, hN⟩ : ∃ N : Int, N = (m : Int) + 1 := ⟨_, rfl⟩
                have HNN := Lib.hid hN
                rw [← hN]
                by_cases hm : m + 1 < nd2
                · have hmC : m + 1 < C.length := by rw [HND2.out]; exact hm
                  obtain ⟨M, hM⟩ : ∃ M : Int, M = (m : Int) := ⟨_, rfl⟩
                  have i1 : IntKind.i64.wrap (N - 1) = M := (IntWalk.i64_in _ (by omega)).trans (by omega)
                  have i2 : (0 : Int) ≤ M := by omega
                  have i3 : M.toNat = m := by omega
                  have i4 : M < (nd2 : Int) := by omega
                  have i5 : (0 : Int) ≤ N := by omega
                  have i6 : N.toNat = m + 1 := by omega
                  have i7 : N < (nd2 : Int) := by omega
                  have i8 : decide (N < (nd2 : Int)) = true := decide_eq_true i7
                  have c0 := HCD.out m (by omega)
                  have c1 := HCD.out (m + 1) hmC
                  rw [← hbt.cell (p := ⟨bd, m, none⟩) hbd] at c0
                  rw [← hbt.cell (p := ⟨bd, m + 1, none⟩) hbd] at c1
                  have hbdt : bd < wr.heap.size := Nat.lt_of_lt_of_le hbd hbt.size
                  have hpc := HPC.out m hmC
                  have f1 := HFC.out _ (List.getElem_mem (l := C) (n := m) (by omega))
                  have f2 := HFC.out _ (List.getElem_mem hmC)
                  generalize C[m] = c at *
                  generalize C[m + 1] = d at *
                  have fm := middle_text f1 f2
                  obtain ⟨md, hmd⟩ : ∃ md, md = (c + d) * (1 / 2) := ⟨_, rfl⟩
                  rw [← hmd] at hpc fm
                  have s1 := txSize f1
                  have s2 := txSize f2
                  have CM := Lib.hid (fun w' (hg : Good w') => (rational_Middle (tx c) (tx d) c d (isT c) (isT d) (by omega) (by omega) w' hg).mono (R' := RetW (.string (tx md)) w') (fun e w'' h => by
                    obtain ⟨r, he, hr, hb⟩ := h
                    rw [← hmd] at hr
                    exact ⟨by rw [he, hr.unique (isT md)], hb⟩))
                  have CH := Lib.hid (fun w' u => HHS.out md fm w' u)
                  have hcv := hasV_cov (L := U.map textP) md
                  rw [HUR.out] at hcv
                  obtain ⟨bn, hbn⟩ : ∃ bn, bn = hasV (U.map textP) md := ⟨_, rfl⟩
                  rw [← hbn] at CH hcv
                  obtain ⟨p1, p2⟩ := hpc bn hcv
                  have CA := Lib.hid (HVL.out c f1)
                  have CB := Lib.hid (HVL.out d f2)
                  have sa := HVS.out c f1
                  have sb := HVS.out d f2
                  generalize valueQ Q c = va at *
                  generalize valueQ Q d = vb at *
                  have L1 := Lib.hid (fun w' (hg : Good w') => HLS.out va h sa (by rw [← HST.out]; exact sh) w' hg)
                  have L2 := Lib.hid (fun w' (hg : Good w') => HLS.out vb h sb (by rw [← HST.out]; exact sh) w' hg)
                  have L3 := Lib.hid (fun w' (hg : Good w') => HLS.out h va (by rw [← HST.out]; exact sh) sa w' hg)
                  have L4 := Lib.hid (fun w' (hg : Good w') => HLS.out h vb (by rw [← HST.out]; exact sh) sb w' hg)
                  have q1 := (isT va).beq2 (isT h)
                  have q2 := (isT vb).beq2 (isT h)
                  rw [← HST.out] at L1 L2 L3 L4 q1 q2
                  unfold RetW at CM
                  have P1 := Lib.hid p1
                  have P2 := Lib.hid p2
                  obtain ⟨x1, hx1⟩ : ∃ x1 : Bool, x1 = decide (va = h) := ⟨_, rfl⟩
                  obtain ⟨x2, hx2⟩ : ∃ x2 : Bool, x2 = decide (vb = h) := ⟨_, rfl⟩
                  rw [← hx1] at q1
                  rw [← hx2] at q2
                  have HX1 := Lib.hid hx1
                  have HX2 := Lib.hid hx2
                  clear hpc f1 f2 fm hmd hcv hbn p1 p2 hx1 hx2 hM hN
                  generalize tx c = tc at *
                  generalize tx d = td at *
                  generalize tx md = tm at *
                  generalize tx va = ta at *
                  generalize tx vb = tb at *
                  go_wp2_with fail
                  refine wp_held_list (fun W' => Below wr.heap.size wr W') [0, 1, 2, 3, 4, 5, 6, 7, 8] [9] 10 (by kernel_rfl) (by kernel_rfl) ⟨rfl, rfl, rfl, Nat.le_refl _, fun _ _ => rfl⟩ ?_
                  iterate 9
                    refine wpTakeL_step rfl ?_ rfl ?_ ?_
                    rotate_left
                    · intro W' hS'
                      have s0 := (hS'.cell (p := ⟨bd, m, none⟩) hbdt).trans c0
                      have s1 := (hS'.cell (p := ⟨bd, m + 1, none⟩) hbdt).trans c1
                      go_simp
                      try with_reducible rfl
                    try simp only [List.getElem_toArray, List.getElem_cons_zero, List.getElem_cons_succ, Act.put, List.setIfInBounds_toArray, List.set_cons_zero, List.set_cons_succ]
                  have hR0 : Below wr.heap.size wr wr.drew := ⟨rfl, rfl, rfl, Nat.le_refl _, fun _ _ => rfl⟩
                  refine wpKeepL_step rfl rfl (fun K hK => ?_)
                  go_simp
                  refine (CM.out _ (hw.below (hbt0.trans (hR0.mono hbt0.size)))).mono ?_
                  rintro e wu1 ⟨rfl, hbwu1⟩
                  have hR1 := hR0.trans (hbwu1.mono hR0.size)
                  refine hK _ _ ⟨hR1, ?_⟩
                  clear hK K
                  try simp only [List.getElem_toArray, List.getElem_cons_zero, List.getElem_cons_succ, Act.put, List.setIfInBounds_toArray, List.set_cons_zero, List.set_cons_succ]
                  unfold wpKeepL
                  simp only [List.drop_succ_cons, List.drop_zero]
                  try simp only [List.getElem_toArray, List.getElem_cons_zero, List.getElem_cons_succ, Act.put, List.setIfInBounds_toArray, List.set_cons_zero, List.set_cons_succ]
                  refine wpKeep_step rfl (fun K hK => ?_)
                  go_simp
                  refine hK _ _ ⟨trivial, wpKeep_nil ?_⟩
                  clear hK K
                  try simp only [List.getElem_toArray, List.getElem_cons_zero, List.getElem_cons_succ, Act.put, List.setIfInBounds_toArray, List.set_cons_zero, List.set_cons_succ]
                  refine NormalOnly.mk ?_
                  have hbt1 := hbt0.trans (hR1.mono hbt0.size)
                  have hbq1 := hbt.trans (hR1.mono hbt.size)
                  go_wp2_with fail
                  refine (CH.out wu1 _ (hw.below hbt1) (HP14.out.below hbq1)).mono ?_
                  rintro e wu2 ⟨rfl, hbu2⟩
                  have hbt2 := hbt1.trans (hbu2.mono hbt1.size)
                  have hbq2 := hbq1.trans (hbu2.mono hbq1.size)
                  have hb12 := hR1.trans (hbu2.mono hR1.size)
                  have hbd2 : bd < wu2.heap.size := Nat.lt_of_lt_of_le hbd hbq2.size
                  have d0 := (hb12.cell (p := ⟨bd, m, none⟩) hbdt).trans c0
                  have d1 := (hb12.cell (p := ⟨bd, m + 1, none⟩) hbdt).trans c1
                  have HQ15 := Lib.hid (HQ14.out.below hbq2)
                  clear c0 c1 hR0 hR1 hbwu1 hbu2 hb12
                  go_wp2_with fail
                  go_region_held3 (fun W => W.cell? ⟨bd, m, none⟩ = some (.string tc) ∧ W.cell? ⟨bd, m + 1, none⟩ = some (.string td) ∧ W.cell? ⟨bd, m, none⟩ = some (.string tc) ∧ W.cell? ⟨bd, m + 1, none⟩ = some (.string td) ∧ Below wu2.heap.size wu2 W)
                    (first | exact FourS.drew d0 d1 d0 d1 | (refine FourS.keep hbd2 hbd2 hbd2 hbd2 (by assumption) ?_; first | assumption | (go_split_ands; refine ⟨?_, ?_, ?_, ?_, ?_⟩ <;> assumption)))
                    (first
                      | (go_at_call 28; refine (HKT.out _ _ ?_).mono ?_; exact HQ15.out.below (FourS.low (by assumption)); rintro e wku3 ⟨uku3, rfl, hpku3, hbku3⟩)
                      | (go_at_call 36; refine (CA.out _ uku3 ?_ hpku3).mono ?_; exact hw.below (hbt2.trans ((FourS.low (by assumption)).mono hbt2.size)); rintro e wu4 ⟨rfl, hbru4⟩))
                  have hV2 : Below wu2.heap.size wu2 wu4 := FourS.low (by assumption)
                  have hbt3 := hbt2.trans (hV2.mono hbt2.size)
                  have hbd3 : bd < wu4.heap.size := Nat.lt_of_lt_of_le hbd2 hV2.size
                  have e1v := (hV2.cell (p := ⟨bd, m + 1, none⟩) hbd2).trans d1
                  have HQ16 := Lib.hid (HQ15.out.below hV2)
                  clear d0 d1 hpku3 hbku3 hbru4
                  go_wp2_with fail
                  go_region_held3 (fun W => W.cell? ⟨bd, m + 1, none⟩ = some (.string td) ∧ W.cell? ⟨bd, m + 1, none⟩ = some (.string td) ∧ W.cell? ⟨bd, m + 1, none⟩ = some (.string td) ∧ W.cell? ⟨bd, m + 1, none⟩ = some (.string td) ∧ Below wu4.heap.size wu4 W)
                    (first | exact FourS.drew e1v e1v e1v e1v | (refine FourS.keep hbd3 hbd3 hbd3 hbd3 (by assumption) ?_; first | assumption | (go_split_ands; refine ⟨?_, ?_, ?_, ?_, ?_⟩ <;> assumption)))
                    (first
                      | (go_at_call 28; refine (HKT.out _ _ ?_).mono ?_; exact HQ16.out.below (FourS.low (by assumption)); rintro e wku5 ⟨uku5, rfl, hpku5, hbku5⟩)
                      | (go_at_call 36; refine (CB.out _ uku5 ?_ hpku5).mono ?_; exact hw.below (hbt3.trans ((FourS.low (by assumption)).mono hbt3.size)); rintro e wu6 ⟨rfl, hbru6⟩))
                  have hW2 : Below wu4.heap.size wu4 wu6 := FourS.low (by assumption)
                  have hbt4 := hbt3.trans (hW2.mono hbt3.size)
                  have hbq4 := hbq2.trans ((hV2.trans (hW2.mono hV2.size)).mono hbq2.size)
                  clear e1v hpku5 hV2 hW2 hbku5 hbru6
                  cases bn
                  · obtain ⟨n1, n2, n3⟩ := P2.out rfl
                    rw [decide_eq_false n1] at L3
                    rw [decide_eq_false n2] at L4
                    have HN3 := Lib.hid n3
                    clear n1 n2 n3
                    have fin : x1 = true → x2 = false := fun h1 => by
                      cases x2
                      · rfl
                      · exact (HN3.out ⟨of_decide_eq_true (HX1.out.symm.trans h1), of_decide_eq_true HX2.out.symm⟩).elim
                    go_wp2_with fail
                    refine (L3.out _ (hw.below hbt4)).mono ?_
                    rintro e wv1 ⟨rfl, hbv1⟩
                    have hbt5 := hbt4.trans (hbv1.mono hbt4.size)
                    go_wp2_with fail
                    refine (L4.out _ (hw.below hbt5)).mono ?_
                    rintro e wv2 ⟨rfl, hbv2⟩
                    have hbq5 := hbq4.trans ((hbv1.trans (hbv2.mono hbv1.size)).mono hbq4.size)
                    cases x1
                    · clear fin
                      go_wp2
                      refine ⟨⟨m + 1, hm, by rw [HNN.out]; rfl, hbq5⟩, ?_⟩
                      show nd2 - (N + 1).toNat < nd2 - N.toNat
                      omega
                    · rw [fin rfl] at q2
                      clear fin
                      go_wp2
                      refine ⟨⟨m + 1, hm, by rw [HNN.out]; rfl, hbq5⟩, ?_⟩
                      show nd2 - (N + 1).toNat < nd2 - N.toNat
                      omega
                  · obtain ⟨n1, n2⟩ := P1.out rfl
                    rw [decide_eq_false n1] at L1
                    rw [decide_eq_false n2] at L2
                    clear n1 n2
                    go_wp2_with fail
                    refine (L1.out _ (hw.below hbt4)).mono ?_
                    rintro e wv1 ⟨rfl, hbv1⟩
                    have hbt5 := hbt4.trans (hbv1.mono hbt4.size)
                    go_wp2_with fail
                    refine (L2.out _ (hw.below hbt5)).mono ?_
                    rintro e wv2 ⟨rfl, hbv2⟩
                    have hbq5 := hbq4.trans ((hbv1.trans (hbv2.mono hbv1.size)).mono hbq4.size)
                    go_wp2
                    refine ⟨⟨m + 1, hm, by rw [HNN.out]; rfl, hbq5⟩, ?_⟩
                    show nd2 - (N + 1).toNat < nd2 - N.toNat
                    omega
                · have i8 : decide (N < (nd2 : Int)) = false := decide_eq_false (by omega)
                  go_wp2
                  go_ret
                  exact ⟨rfl, hbt0⟩
end Go.Proofs.YtbogpbjddaoeiaaGreatDoor
