import Derived.Test.YtbogpbjddaoeiaaGreatDoorKnk4Z
namespace Go.Proofs.YtbogpbjddaoeiaaGreatDoor
open Go.RowKit Go.Shelf
open Go.Lib (decDigits itoa nDigits)
attribute [local go_sem] Oper.semAt_some
/-- how much the length of a domain changes for a unit of height -/
def gK (D : List (Rat × Rat)) (k : Nat) : Rat := dotQ (dirQ (tK D k)) (minusQ (axK D (k + 1)) (axK D k))
def gL (D : List (Rat × Rat)) : List Rat := (List.range D.length).map (gK D)
def rCs (f : Nat → Rat) (k : Nat) : List Value := (List.range k).map fun i => Value.string (tx (f i))
theorem rCs_succ (f : Nat → Rat) (k : Nat) : rCs f (k + 1) = rCs f k ++ [.string (tx (f k))] := by unfold rCs; rw [List.range_succ, List.map_append]; rfl
theorem axes_below {w w' : World} {v : Value} {s : QP} {D : List (Rat × Rat)} (h : Axes w v s D) (hb : Below w.heap.size w w') : Axes w' v s D := by
  obtain ⟨b, c, h1, h2, h3, h4, h5⟩ := h
  exact ⟨b, c, h1, h2, h3, Nat.lt_of_lt_of_le h4 hb.size, fun i hi j u hu => (hb.cell (p := ⟨b, _, none⟩) h4).trans (h5 i hi j u hu)⟩
theorem txs_of_row {W : World} {f : Nat → Rat} {g cap base n : Nat} (h : W.ownsRow base 31 1 (.slice (some ⟨g, 0, none⟩) n cap) n (rCs f n)) : Txs W (.slice (some ⟨g, 0, none⟩) n cap) ((List.range n).map f) := by
  rcases h.2 with ⟨h2, _⟩ | ⟨g', cap', cur, e1, _, e3, e4, e5, e6, e7⟩
  · cases h2
  · cases e1
    refine ⟨g, cap, by simp, by simpa using e4, e5, lt_of_some e3, fun i hi => ?_⟩
    have hi' : i < n := by simpa using hi
    have h1 : (rCs f n)[i]? = some (.string (tx (f i))) := by unfold rCs; simp [hi']
    rw [← e7, List.getElem?_take, if_pos (by omega)] at h1
    simp only [World.cell?, e3, List.getElem_map, List.getElem_range]
    simpa using h1
theorem putObj_txs {W : World} {v : Value} {C : List Rat} (h : Txs W v C) (h0 : 0 < C.length) {Dk : Nat} (hd : W.heap[Dk]? = some (.deferred (some []))) (o : Obj) : Txs (W.putObj Dk o) v C := by
  obtain ⟨b, c, h1, h2, h3, h4, h5⟩ := h
  have hne : Dk ≠ b := by
    intro e
    subst e
    have := h5 0 h0
    simp [World.cell?, hd] at this
  refine ⟨b, c, h1, h2, h3, by simpa [World.putObj] using h4, fun i hi => ?_⟩
  rw [World.cell?_of_block (a := ⟨b, i, none⟩) (by
    simp only [World.putObj]
    rw [Array.getElem?_setIfInBounds, if_neg hne])]
  exact h5 i hi
theorem slTx : SliceOf 63 31 (.string ⟨#[]⟩) 1 16 := ⟨Tryz.underlying63, by kernel_rfl, rfl, by decide⟩
theorem cell_one_new (w : World) (a : Value) (t : TypeId) : ∀ (j : Nat) (u : Value), [a][j]? = some u → (w.alloc (.cells #[a] t)).cell? ((⟨w.heap.size, 0, none⟩ : Addr).add j) = some u := by
  intro j u hj
  rw [adr_add, World.cell?_alloc_new]
  simpa using hj
/-- what is known between two rounds -/
structure GrowInv (w4 : World) (B4 Bp s1 : Nat) (D : List (Rat × Rat)) (k : Nat) (W : World) : Prop where
  low : Below B4 w4 W
  prof : W.heap[Bp]? = w4.heap[Bp]?
  out : ∃ v : Value, Boxed W B4 63 v ∧ W.ownsRow s1 31 1 v k (rCs (gK D) k)
  sz : s1 ≤ W.heap.size
theorem growInv_own {w4 : World} {B4 Bp s1 B : Nat} {D : List (Rat × Rat)} (hB : Bp < B) (h34 : B4 < Bp) (hs : Bp < w4.heap.size) : OwnT 104 B (GrowInv w4 B4 Bp s1 D) := fun k X Y row h hg hr =>
  ⟨below_keptT h.low (by omega) (by omega) hg hr, (by
    refine (hg.block Bp (by have := h.low.size; omega) fun e => ?_).trans h.prof
    have := (hr _ e.symm).1
    omega), (by
    obtain ⟨v, h1, h2⟩ := h.out
    exact ⟨v, cells_keptT hg hr h1 (by decide), ownsRow_keptT hg hr h2 (by decide)⟩), Nat.le_trans h.sz hg.size⟩
theorem growInv_below {w4 : World} {B4 Bp s1 : Nat} {D : List (Rat × Rat)} {k : Nat} {W W' : World} (h : GrowInv w4 B4 Bp s1 D k W) (hb : Below W.heap.size W W') (h3 : B4 ≤ w4.heap.size) (hp : Bp < w4.heap.size) : GrowInv w4 B4 Bp s1 D k W' :=
  ⟨h.low.trans (hb.mono (Nat.le_trans h3 h.low.size)), (hb.block Bp (Nat.lt_of_lt_of_le hp h.low.size)).trans h.prof, (by
    obtain ⟨v, h1, h2⟩ := h.out
    exact ⟨v, (hb.block _ h1.lt).trans h1, owns_below h2 hb⟩), Nat.le_trans h.sz hb.size⟩
theorem PrOk.axz {s : QP} {D : List (Rat × Rat)} (h : PrOk s D) (k : Nat) : Sz2 197152 (axK D k) := by
  have hn0 : ∀ j, Sz2 4925 (nK D j) := fun j => ⟨(h.dir j).2.neg, (h.dir j).1.mono (by decide)⟩
  have hone : Sz 1 1 := by unfold Sz; rw [tx1]; decide
  have hzer : Sz2 1 ((0 : Rat), (0 : Rat)) := by unfold Sz2 Sz; rw [tx0]; decide
  unfold axK
  split
  · exact (hn0 0).mono (by decide)
  · split
    · exact (sz_plus hzer (sz_plus (hn0 (k - 1)) (hn0 k) hone) (hone.div (hone.add (sz_dot (hn0 (k - 1)) (hn0 k))))).mono (by decide)
    · exact (hn0 (k - 1)).mono (by decide)
theorem sz_minus {a b : Nat} {p q : QP} (hp : Sz2 a p) (hq : Sz2 b q) : Sz2 (2 * (a + (2 + b + 4)) + 4) (minusQ p q) := sz_plus hp hq (by unfold Sz; rw [txm1]; decide)
theorem PrOk.gz {s : QP} {D : List (Rat × Rat)} (h : PrOk s D) (k : Nat) : Sz 6309316 (gK D k) := by
  have := sz_minus (h.axz (k + 1)) (h.axz k)
  exact (sz_dot ((h.dir k).mono (by decide)) this).mono (by decide)
set_option maxRecDepth 100000 in
set_option maxHeartbeats 8000000 in
theorem kink_growths (s : QP) (D : List (Rat × Rat)) (hP : PrOk s D) (hnd : ∀ k, 0 < k → k < D.length → 1 + dotQ (nK D (k - 1)) (nK D k) ≠ 0) (vd vl : Value) (w : World) (hw : Good w) (hvd : Txs w vd (D.map (·.1))) (hvl : Txs w vl (D.map (·.2))) :
    CallsIn Fence.wide 9 Tryz.prog 160 #[profV s vd vl] w fun e w' => ∃ v, e = .returned v ∧ Txs w' v (gL D) ∧ Below w.heap.size w w' := by
  have HVD := Lib.hid hvd
  have HVL := Lib.hid hvl
  have HEN := Lib.hid (fun (W : World) (hg : Good W) (h1 : Txs W vd (D.map (·.1))) (h2 : Txs W vl (D.map (·.2))) => kink_ends s D hP hnd vd vl W hg h1 h2)
  obtain ⟨bd, cd, rfl, -, -, -, -⟩ := hvd
  obtain ⟨bl, cl, rfl, -, -, -, -⟩ := hvl
  have HDM := Lib.hid (fun W => kink_domains 8 s (some ⟨bd, 0, none⟩) (some ⟨bl, 0, none⟩) D.length cd D.length cl W)
  have HL1 := Lib.hid (show (D.map (·.1)).length = D.length from List.length_map _)
  have HL2 := Lib.hid (show (D.map (·.2)).length = D.length from List.length_map _)
  rw [HL1.out] at HVD
  rw [HL2.out] at HVL
  rw [HL1.out, HL2.out]
  obtain ⟨wA, hwA⟩ : ∃ wA, wA = w.alloc (profO s (.slice (some ⟨bd, 0, none⟩) D.length cd) (.slice (some ⟨bl, 0, none⟩) D.length cl)) := ⟨_, rfl⟩
  have HWA := Lib.hid hwA
  have hbA : Below w.heap.size w wA := by rw [hwA]; exact alloc_below _ _
  rw [HL1.out, HL2.out] at HEN
  have HENA := Lib.hid (HEN.out wA (hw.below hbA) (HVD.out.below hbA) (HVL.out.below hbA))
  unfold profV profO at *
  refine callsIn_of_wp_marks Tryz.func160 rfl trivial ?_ rfl
  simp only [Tryz.ntmps160, List.size_toArray, List.length_cons, List.length_nil, Nat.reduceAdd, Nat.reduceSub, Array.replicate_succ, Array.replicate_zero, List.push_toArray, List.append_toArray, List.nil_append, List.cons_append]
  have HP := Lib.hid hP
  clear hwA hP hnd HEN
  gi_wp2
  rw [← HWA.out]
  refine ⟨trivial, ?_⟩
  refine (callsIn_wide.2 (callsIn_wide.1 HENA.out)).mono ?_
  rintro e w1 ⟨va, rfl, hax, hb1⟩
  have HAXS := Lib.hid hax
  obtain ⟨ba, ca, rfl, hac, hacm, hba, hacell⟩ := hax
  have HAC := Lib.hid hacell
  have hbw1 := hbA.trans (hb1.mono hbA.size)
  have hsA : wA.heap.size = w.heap.size + 1 := by rw [HWA.out]; simp
  have hs1 := hb1.size
  have hpA : wA.heap[w.heap.size]? = some (profO s (.slice (some ⟨bd, 0, none⟩) D.length cd) (.slice (some ⟨bl, 0, none⟩) D.length cl)) := by rw [HWA.out]; exact World.alloc_heap_new _ _
  obtain ⟨wX, hwX⟩ : ∃ wX, wX = (w1.alloc (Obj.cells #[.slice (some ⟨ba, 0, none⟩) (D.length + 1) ca] 199)).alloc (Obj.cells #[.slice none 0 0] 63) := ⟨_, rfl⟩
  have HWX := Lib.hid hwX
  have hbX : Below w1.heap.size w1 wX := by rw [hwX]; exact (alloc_below _ _).trans ((alloc_below _ _).mono (by simp))
  have hy3 : Boxed wX w1.heap.size 199 (.slice (some ⟨ba, 0, none⟩) (D.length + 1) ca) := by
    rw [hwX]
    refine ((alloc_below _ _).block _ (by simp)).trans ?_
    exact World.alloc_heap_new _ _
  have hy4 : Boxed wX (w1.heap.size + 1) 63 (.slice none 0 0) := by
    rw [hwX]
    have := World.alloc_heap_new (w1.alloc (Obj.cells #[.slice (some ⟨ba, 0, none⟩) (D.length + 1) ca] 199)) (Obj.cells #[.slice none 0 0] 63)
    rwa [World.size_alloc] at this
  have hsX : wX.heap.size = w1.heap.size + 2 := by rw [hwX]; simp
  have HY3 := Lib.hid hy3
  have HY4 := Lib.hid hy4
  have HSX := Lib.hid hsX
  obtain ⟨e0, e1, e2, e3⟩ := prof_cells ((hbX.block _ (by omega)).trans ((hb1.block _ (by omega)).trans hpA))
  rw [hwX] at e0 e1 e2 e3
  clear hwX hy3 hy4 hsX hsA hpA hacell
  gi_wp2
  rw [← HWX.out]
  refine ⟨trivial, ?_⟩
  refine (HDM.out wX).mono ?_
  rintro e w4 ⟨rfl, hw4⟩
  have hsX := HSX.out
  have hb4 : Below wX.heap.size wX w4 := by rw [hw4]; exact alloc_below _ _
  have hs4 : w4.heap.size = wX.heap.size + 1 := by rw [hw4]; simp
  have hx4 : w4.heap[w1.heap.size + 2]? = some (profO s (.slice (some ⟨bd, 0, none⟩) D.length cd) (.slice (some ⟨bl, 0, none⟩) D.length cl)) := by rw [hw4, ← hsX]; exact World.alloc_heap_new _ _
  have hby3 : Boxed w4 w1.heap.size 199 (.slice (some ⟨ba, 0, none⟩) (D.length + 1) ca) := (hb4.block _ HY3.out.lt).trans HY3.out
  have hby4 : Boxed w4 (w1.heap.size + 1) 63 (.slice none 0 0) := (hb4.block _ HY4.out.lt).trans HY4.out
  have hb14 : Below w1.heap.size w1 w4 := hbX.trans (hb4.mono (by omega))
  have hbw4 : Below w.heap.size w w4 := hbw1.trans (hb14.mono hbw1.size)
  have hg4 : Good w4 := hw.below hbw4
  have hws := hbw1.size
  have hls : w4.heap.size = w1.heap.size + 3 := by omega
  have HX4 := Lib.hid hx4
  have HY3 := Lib.hid hby3
  have HY4 := Lib.hid hby4
  have HBW4 := Lib.hid hbw4
  clear hw4 hx4 hby3 hby4 e0 e1 e2 e3
  gi_wp2
  clear HDM HWA HENA
  refine wpIn_rangeFunc_at (n := 9) rfl (by decide) (gf := 161) (lb := #[.pointer (some ⟨w1.heap.size + 2, 0, none⟩)]) rfl trivial (enters_of Tryz.func161 (by kernel_rfl) rfl)
    (domains_at 8 (by decide) (w1.heap.size + 2) w hw s D HP.out _ _ HVD.out HVL.out w4 hbw4 HX4.out)
    KeepP.trans (KeepP.put (by omega) (by omega)) (Below.refl _ _) (fun _ => rfl)
    (GrowInv w4 (w1.heap.size + 1) (w1.heap.size + 2) w4.heap.size D) (fun _ _ _ => False) (growInv_own (by omega) (by omega) (by omega)) (fun _ _ _ _ _ hs _ _ => hs)
    ⟨Below.refl _ _, rfl, ⟨_, HY4.out, World.ownsRow_nil _ _ _ _⟩, Nat.le_refl _⟩
    (fun k a' W => ∃ Bx, w4.heap.size ≤ Bx ∧ W.heap[Bx]? = some (.cells (domC s D k) 161 (0, 0)) ∧ a' = { tmps := #[.agg #[(.string (tx s.1)), (.string (tx s.2)), .slice (some ⟨bd, 0, none⟩) D.length cd, .slice (some ⟨bl, 0, none⟩) D.length cl], .pointer (some ⟨w.heap.size, 0, none⟩), .slice none 0 0, .pointer (some ⟨w1.heap.size, 0, none⟩), .pointer (some ⟨w1.heap.size + 1, 0, none⟩), .int .i64 (k : Int), .pointer (some ⟨Bx, 0, none⟩), .agg #[(.string (tx s.1)), (.string (tx s.2)), .slice (some ⟨bd, 0, none⟩) D.length cd, .slice (some ⟨bl, 0, none⟩) D.length cl], .slice (some ⟨ba, 0, none⟩) (D.length + 1) ca, .agg #[(.string (tx s.1)), (.string (tx s.2)), .slice (some ⟨bd, 0, none⟩) D.length cd, .slice (some ⟨bl, 0, none⟩) D.length cl], .func (.func 161) #[] #[.pointer (some ⟨w1.heap.size + 2, 0, none⟩)], .int .i64 (k : Int), .agg (domC s D k), undef, undef, undef, undef, undef, undef, undef, undef, undef, undef, undef, undef, undef, undef, undef, undef, undef, undef, undef], defers := [] })
    (fun k a' _ X Y row hs hg hr => by obtain ⟨Bx, h1, h2, h3⟩ := hs; exact ⟨Bx, h1, cells_kept hg hr h2, h3⟩) ?assign ?body ?done ?stop
  case assign =>
    intro l k hk W K hI hK
    have hsz1 := hI.sz
    simp only [List.length_range] at hk
    simp only [List.getElem_range, domE, domV]
    gi_wp2
    exact hK _ _ (keepsFrom_below (alloc_below _ _)) (KeepP.of_below (alloc_below _ _) (by omega) (by omega)) (growInv_below hI (alloc_below _ _) (by omega) (by omega)) ⟨W.heap.size, hsz1, World.alloc_heap_new _ _, rfl⟩
  case body =>
    rintro l k hk a' W hl hr ⟨hlow, hpro, ⟨ov, hov, hrow⟩, hsz⟩ ⟨Bx, hBx, hdx, rfl⟩
    simp only [List.length_range] at hk
    have hbx := lt_of_some hdx
    have hlw := hlow.size
    have HPRO := Lib.hid hpro
    have hgW : Good W := hw.below (HBW4.out.trans (hlow.mono (by omega)))
    obtain ⟨x0, x1, x2, x3, x4, x5, x6⟩ := seven_cells (show W.heap[Bx]? = some (.cells #[.string (tx (dirQ (tK D k)).1), .string (tx (dirQ (tK D k)).2), .string (tx (nK D k).1), .string (tx (nK D k).2), .string (tx (atK s D k).1), .string (tx (atK s D k).2), .string (tx (lK D k))] 161 (0, 0)) from hdx)
    have q0 := hov.cell
    have r0 := (show Boxed W w1.heap.size 199 _ from (hlow.block _ (by omega)).trans HY3.out).cell
    have hax : ∀ i, i ≤ D.length → ∀ j (u : Value), (axC s D i)[j]? = some u → W.cell? ⟨ba, i * 4 + j, none⟩ = some u := fun i hi j u hu => ((hlow.cell (p := ⟨ba, _, none⟩) (by show ba < _; omega)).trans (hb14.cell (p := ⟨ba, _, none⟩) hba)).trans (HAC.out i hi j u hu)
    have A0 := hax k (by omega) 2 _ rfl
    have A1 := hax k (by omega) 3 _ rfl
    have A2 := hax (k + 1) (by omega) 2 _ rfl
    have A3 := hax (k + 1) (by omega) 3 _ rfl
    have hkl : k ≤ 3 := by have := HP.out.n; omega
    have HMN := Lib.hid (fun w' (hg : Good w') => kink_minus (axK D (k + 1)) (axK D k) ((HP.out.axz (k + 1)).mono (by decide)) ((HP.out.axz k).mono (by decide)) w' hg)
    have HDT := Lib.hid (fun w' (hg : Good w') => show Calls Tryz.prog 119 #[ptV (dirQ (tK D k)), ptV (minusQ (axK D (k + 1)) (axK D k))] w' (RV (.string (tx (gK D k))) w') from
      kink_dot (dirQ (tK D k)) (minusQ (axK D (k + 1)) (axK D k)) ((HP.out.dir k).mono (by decide)) ((sz_minus (HP.out.axz (k + 1)) (HP.out.axz k)).mono (by decide)) w' hg)
    unfold RV ptV at HMN HDT
    generalize minusQ (axK D (k + 1)) (axK D k) = mq at *
    generalize axK D (k + 1) = xq1 at *
    generalize axK D k = xq0 at *
    obtain ⟨M, hM⟩ : ∃ M, IntKind.i64.wrap ((k : Int) + 1) = M := ⟨_, rfl⟩
    have hM0 : M = ((k + 1 : Nat) : Int) := by
      rw [← hM]
      exact (IntWalk.i64_in _ (by omega)).trans (by omega)
    have i1 : (0 : Int) ≤ (k : Int) := by omega
    have i2 : (k : Int) < ((D.length + 1 : Nat) : Int) := by omega
    have i3 : (0 : Int) ≤ M := by omega
    have i4 : M < ((D.length + 1 : Nat) : Int) := by omega
    have i5 : M.toNat = k + 1 := by omega
    have i6 : (k : Int) < (D.length : Int) + 1 := by omega
    have i7 : M < (D.length : Int) + 1 := by omega
    have lq := hov.lt
    have lr : w1.heap.size < W.heap.size := by omega
    have lb : ba < W.heap.size := by omega
    obtain ⟨i0, hi, hz0, hz1, hz2⟩ := info_parts slTx.info
    have HOV := Lib.hid hov
    have HROW := Lib.hid hrow
    have HDX := Lib.hid hdx
    clear hpro hov hrow hdx hax hM0
    gi_wp2
    refine wpIn_held_list lifts_round (fun W' => Below W.heap.size W W') [0, 1, 2, 3, 4, 5, 6, 7, 8, 9, 10, 11, 12, 13] [14, 15, 16] 17 (by kernel_rfl) (by kernel_rfl) (by kernel_rfl) ⟨rfl, rfl, rfl, Nat.le_refl _, fun _ _ => rfl⟩ ?_
    iterate 14
      refine wpTakeL_step rfl ?_ rfl ?_ ?_
      rotate_left
      · intro W' hS'
        have s0 := (hS'.cell (p := ⟨w1.heap.size + 1, 0, none⟩) lq).trans q0
        have s1 := (hS'.cell (p := ⟨w1.heap.size, 0, none⟩) lr).trans r0
        have s2 := (hS'.cell (p := ⟨Bx, 0, none⟩) hbx).trans x0
        have s3 := (hS'.cell (p := ⟨Bx, 1, none⟩) hbx).trans x1
        have s4 := (hS'.cell (p := ⟨ba, k * 4 + 2, none⟩) lb).trans A0
        have s5 := (hS'.cell (p := ⟨ba, k * 4 + 3, none⟩) lb).trans A1
        have s6 := (hS'.cell (p := ⟨ba, (k + 1) * 4 + 2, none⟩) lb).trans A2
        have s7 := (hS'.cell (p := ⟨ba, (k + 1) * 4 + 3, none⟩) lb).trans A3
        go_simp
        try with_reducible rfl
      try simp only [List.getElem_toArray, List.getElem_cons_zero, List.getElem_cons_succ, Act.put, List.setIfInBounds_toArray, List.set_cons_zero, List.set_cons_succ]
    have hH0 : Below W.heap.size W W.drew := ⟨rfl, rfl, rfl, Nat.le_refl _, fun _ _ => rfl⟩
    refine wpKeepL_step rfl rfl (fun K hK => ?_)
    go_simp
    refine (HMN.out _ (hgW.below hH0)).mono ?_
    rintro e v4 ⟨rfl, hv4⟩
    have hH1 := hH0.trans (hv4.mono hH0.size)
    refine hK _ _ ⟨hH1, ?_⟩
    clear hK K
    try simp only [List.getElem_toArray, List.getElem_cons_zero, List.getElem_cons_succ, Act.put, List.setIfInBounds_toArray, List.set_cons_zero, List.set_cons_succ]
    refine wpKeepL_step rfl rfl (fun K hK => ?_)
    go_simp
    refine (HDT.out _ (hgW.below hH1)).mono ?_
    rintro e v5 ⟨rfl, hv5⟩
    have hH2 := hH1.trans (hv5.mono hH1.size)
    refine hK _ _ ⟨hH2, ?_⟩
    clear hK K
    try simp only [List.getElem_toArray, List.getElem_cons_zero, List.getElem_cons_succ, Act.put, List.setIfInBounds_toArray, List.set_cons_zero, List.set_cons_succ]
    refine wpKeepL_step rfl rfl (fun K hK => ?_)
    go_simp
    refine hK _ _ ⟨hH2.trans ((alloc_below _ _).mono hH2.size), ?_⟩
    clear hK K
    try simp only [List.getElem_toArray, List.getElem_cons_zero, List.getElem_cons_succ, Act.put, List.setIfInBounds_toArray, List.set_cons_zero, List.set_cons_succ]
    unfold wpKeepL
    simp only [List.drop_succ_cons, List.drop_zero]
    have hs05 := hH2.size
    have hrow5 := owns_below HROW.out hH2
    have hov5 : Boxed v5 (w1.heap.size + 1) 63 ov := (hH2.block _ HOV.out.lt).trans HOV.out
    clear x0 x1 x2 x3 x4 x5 x6 A0 A1 A2 A3 hv4 hv5 hH0 hH1 q0 r0
    refine wpListIn_append_own _ rfl _ _ 63 rfl w4.heap.size 31 i0 (.string ⟨#[]⟩) 1 16 slTx.ht hi hz0 hz1 hz2 slTx.hzs slTx.hsz _ _ _ rfl (hrow5.alloc _) ⟨v5.heap.size, 0, none⟩ 1 1 [.string (tx (gK D k))] rfl rfl (cell_one_new _ _ _) (by simp [Value.oneCell']) (by unfold maxLen; omega) (by omega) (by simp; omega) ?_
    intro v' w21 hown' hgrow _
    obtain ⟨g', cap', rfl⟩ := ownsRow_succ hown'
    obtain ⟨k1, k2, k3, k4, k5, k6, k7, k8⟩ := append_allT (n₀ := w.heap.size) (Bp := w1.heap.size + 2) (by decide) (by decide) (by decide) hov5 hrow5 (by omega) (by omega) (by omega) (by omega) (by omega) hown' hgrow
    have hc1 := k1.cell
    have hf1 := k1.frozen
    have HK2 := Lib.hid k2
    have HK3 := Lib.hid k3
    have HK4 := Lib.hid k4
    have HK5 := Lib.hid k5
    have HK6 := Lib.hid k6
    clear k1 k2 k3 k4 k5 k6 k7 k8 hown' hgrow hrow5 hov5
    gi_wp2
    refine ⟨(KeepsOthers.trans ⟨hH2.size, fun j o h _ => (hH2.block j (lt_of_some h)).trans h⟩ HK4.out).from _, (KeepP.of_below hH2 (by omega) (by omega)).trans HK5.out, ?_⟩
    have hkk : KeepP w.heap.size (w1.heap.size + 2) W _ := (KeepP.of_below hH2 (by omega) (by omega)).trans HK5.out
    exact ⟨hlow.trans ((hH2.mono (by omega)).trans HK6.out), hkk.2.1.trans HPRO.out, ⟨_, HK2.out, by rw [rCs_succ]; exact HK3.out⟩, by have := HK6.out.size; omega⟩
  case done =>
    rintro Dk W hD ⟨hlow, hpro, ⟨ov, hov, hrow⟩, hsz⟩ hK
    simp only [List.length_range] at hrow
    have hn1 := HP.out.ne
    obtain ⟨m, hm⟩ : ∃ m, D.length = m + 1 := ⟨D.length - 1, by omega⟩
    have HRW := Lib.hid hrow
    obtain ⟨g', cap', rfl⟩ := ownsRow_succ (by rw [hm] at hrow; exact hrow)
    rw [← hm] at HRW
    have HTX := Lib.hid (fun o => putObj_txs (txs_of_row HRW.out) (by simpa using hn1) hK o)
    have q0 := hov.cell
    have HKD := Lib.hid hK
    rw [hm] at HTX
    clear hK hrow HRW hov hpro
    gi_wp2
    refine ⟨by simp, .inl ⟨_, _, rfl, run_takeDeferred HKD.out, ?_⟩⟩
    exact ⟨_, results_tmp rfl _ _ _, _, rfl, by unfold gL; rw [hm]; exact HTX.out _, (HBW4.out.trans (hlow.mono (by omega))).trans (putObj_below _ _ _ (by omega))⟩
  case stop =>
    rintro D c k W _ _ h _
    exact h.elim
end Go.Proofs.YtbogpbjddaoeiaaGreatDoor
namespace Go.Proofs.YtbogpbjddaoeiaaGreatDoor
open Go.RowKit Go.Shelf
open Go.Lib (decDigits itoa nDigits)
/-- a slice of points -/
def PtsV (w : World) (v : Value) (f : Nat → QP) (n : Nat) : Prop :=
  ∃ b c, v = .slice (some ⟨b, 0, none⟩) n c ∧ n ≤ c ∧ c ≤ maxLen ∧ b < w.heap.size ∧ ∀ i, i < n → w.cell? ⟨b, i * 2, none⟩ = some (.string (tx (f i).1)) ∧ w.cell? ⟨b, i * 2 + 1, none⟩ = some (.string (tx (f i).2))
def ptCs (f : Nat → QP) : Nat → List Value
  | 0 => []
  | k + 1 => ptCs f k ++ [.string (tx (f k).1), .string (tx (f k).2)]
theorem ptCs_len (f : Nat → QP) : ∀ k, (ptCs f k).length = k * 2
  | 0 => rfl
  | k + 1 => by rw [ptCs, List.length_append, ptCs_len f k]; show k * 2 + 2 = _; omega
theorem ptCs_get (f : Nat → QP) : ∀ (k i : Nat), i < k → (ptCs f k)[i * 2]? = some (.string (tx (f i).1)) ∧ (ptCs f k)[i * 2 + 1]? = some (.string (tx (f i).2))
  | 0, i, h => by omega
  | k + 1, i, h => by
    rw [ptCs]
    rcases Nat.lt_or_ge i k with h1 | h1
    · rw [List.getElem?_append_left (by rw [ptCs_len]; omega), List.getElem?_append_left (by rw [ptCs_len]; omega)]
      exact ptCs_get f k i h1
    · obtain rfl : i = k := by omega
      rw [List.getElem?_append_right (by rw [ptCs_len]; omega), List.getElem?_append_right (by rw [ptCs_len]; omega), ptCs_len, show i * 2 - i * 2 = 0 by omega, show i * 2 + 1 - i * 2 = 1 by omega]
      exact ⟨rfl, rfl⟩
theorem pts_of_row {W : World} {f : Nat → QP} {g cap base n : Nat} (h : W.ownsRow base 104 2 (.slice (some ⟨g, 0, none⟩) n cap) n (ptCs f n)) : PtsV W (.slice (some ⟨g, 0, none⟩) n cap) f n := by
  rcases h.2 with ⟨h2, _⟩ | ⟨g', cap', cur, e1, _, e3, e4, e5, e6, e7⟩
  · cases h2
  · cases e1
    refine ⟨g, cap, rfl, e4, e5, lt_of_some e3, fun i hi => ?_⟩
    obtain ⟨h1, h2⟩ := ptCs_get f n i hi
    rw [← e7, List.getElem?_take, if_pos (by omega)] at h1 h2
    exact ⟨by simp only [World.cell?, e3]; simpa using h1, by simp only [World.cell?, e3]; simpa using h2⟩
theorem slPt : SliceOf 154 104 (.agg #[.string ⟨#[]⟩, .string ⟨#[]⟩]) 2 32 := ⟨Tryz.underlying154, by kernel_rfl, rfl, by decide⟩
/-- a slice laid since -/
def FreshV (w : World) (v : Value) : Prop := ∀ a n c, v = .slice (some a) n c → w.heap.size ≤ a.block
def NoDiv (D : List (Rat × Rat)) : Prop := ∀ k, 0 < k → k < D.length → 1 + dotQ (nK D (k - 1)) (nK D k) ≠ 0
/-- a point of the bed of a height -/
def bedQ (s : QP) (D : List (Rat × Rat)) (h : Rat) (k : Nat) : QP := plusQ (atK s D k) (axK D k) h
set_option maxRecDepth 100000 in
set_option maxHeartbeats 8000000 in
theorem kink_bed (s : QP) (D : List (Rat × Rat)) (hP : PrOk s D) (hnd : NoDiv D) (h : Rat) (hh : Sz 3000000 h) (vd vl : Value) (w : World) (hw : Good w) (hvd : Txs w vd (D.map (·.1))) (hvl : Txs w vl (D.map (·.2))) :
    Calls Tryz.prog 114 #[profV s vd vl, .string (tx h)] w fun e w' => ∃ v, e = .returned v ∧ PtsV w' v (bedQ s D h) (D.length + 1) ∧ FreshV w v ∧ Below w.heap.size w w' := by
  have HEN := Lib.hid (fun (W : World) (hg : Good W) (h1 : Txs W vd (D.map (·.1))) (h2 : Txs W vl (D.map (·.2))) => callsIn_wide.1 (kink_ends s D hP hnd vd vl W hg h1 h2))
  have HVD := Lib.hid hvd
  have HVL := Lib.hid hvl
  have HPL := Lib.hid (fun k (hk : k ≤ D.length) w' (hg : Good w') => show Calls Tryz.prog 118 #[ptV (atK s D k), ptV (axK D k), .string (tx h)] w' (RV (ptV (bedQ s D h k)) w') from
    kink_plus (atK s D k) (axK D k) h ((hP.at4 (Nat.le_trans hk hP.n)).mono (by decide)) ((hP.axz k).mono (by decide)) (hh.mono (by decide)) w' hg)
  have hn4 := hP.n
  unfold RV ptV at HPL
  obtain ⟨bd, cd, rfl, -, -, -, -⟩ := hvd
  obtain ⟨bl, cl, rfl, -, -, -, -⟩ := hvl
  have HL1 := Lib.hid (show (D.map (·.1)).length = D.length from List.length_map _)
  have HL2 := Lib.hid (show (D.map (·.2)).length = D.length from List.length_map _)
  rw [HL1.out, HL2.out] at HEN
  rw [HL1.out] at HVD
  rw [HL2.out] at HVL
  rw [HL1.out, HL2.out]
  obtain ⟨wA, hwA⟩ : ∃ wA, wA = w.alloc (profO s (.slice (some ⟨bd, 0, none⟩) D.length cd) (.slice (some ⟨bl, 0, none⟩) D.length cl)) := ⟨_, rfl⟩
  have HWA := Lib.hid hwA
  have hbA : Below w.heap.size w wA := by rw [hwA]; exact alloc_below _ _
  have HENA := Lib.hid (HEN.out wA (hw.below hbA) (HVD.out.below hbA) (HVL.out.below hbA))
  unfold profV profO at *
  clear hwA hP hnd HEN
  go_enter Tryz.func114, Tryz.ntmps114
  go_wp2_with fail
  rw [← HWA.out]
  refine HENA.out.mono ?_
  rintro e w1 ⟨va, rfl, hax, hb1⟩
  obtain ⟨ba, ca, rfl, hac, hacm, hba, hacell⟩ := hax
  have HAC := Lib.hid hacell
  have hbw1 := hbA.trans (hb1.mono hbA.size)
  have hg1 := hw.below hbw1
  have hws := hbw1.size
  clear hacell HENA HWA
  have hr0 : w1.ownsRow w1.heap.size 104 2 (.slice none 0 0) 0 (ptCs (bedQ s D h) 0) := World.ownsRow_nil _ _ _ _
  go_wp2_with fail
  go_loopw [5, 7, 11] (fun ov _ iv wr => ∃ k : Nat, k ≤ D.length + 1 ∧ iv = .int .i64 (k : Int) ∧ wr.ownsRow w1.heap.size 104 2 ov k (ptCs (bedQ s D h) k) ∧ Below w1.heap.size w1 wr) (fun _ _ iv _ => D.length + 1 - (intOf iv).toNat)
  case atStart => exact ⟨0, Nat.zero_le _, rfl, hr0, Below.refl _ _⟩
  case round =>
    obtain ⟨k, hk, rfl, hrow, hbr⟩ := hrel
    have hwr := hbr.size
    by_cases hkl : k < D.length + 1
    · have hax : ∀ i, i ≤ D.length → ∀ j (u : Value), (axC s D i)[j]? = some u → wr.cell? ⟨ba, i * 4 + j, none⟩ = some u := fun i hi j u hu => (hbr.cell (p := ⟨ba, _, none⟩) hba).trans (HAC.out i hi j u hu)
      have A0 := hax k (by omega) 0 _ rfl
      have A1 := hax k (by omega) 1 _ rfl
      have A2 := hax k (by omega) 2 _ rfl
      have A3 := hax k (by omega) 3 _ rfl
      rw [Nat.add_zero] at A0
      have i1 : (0 : Int) ≤ (k : Int) := by omega
      have i2 : (k : Int) < ((D.length + 1 : Nat) : Int) := by omega
      have i3 : (k : Int) < (D.length : Int) + 1 := by omega
      have hkn : decide ((k : Int) < (D.length : Int) + 1) = true := decide_eq_true i3
      have hgr := hg1.below hbr
      have H1 := Lib.hid (HPL.out k (by omega))
      clear hax
      go_wp2_with fail
      refine (H1.out _ (hgr.below (alloc_below _ _))).mono ?_
      rintro e w2 ⟨rfl, hb2⟩
      have hbr2 : Below wr.heap.size wr w2 := (alloc_below _ _).trans (hb2.mono (by simp))
      have hrow2 := owns_below hrow hbr2
      have hb12 := hbr.trans (hbr2.mono hwr)
      have hw2 := hb12.size
      have HONE := Lib.hid (show ∀ u ∈ (#[Value.string (tx (bedQ s D h k).1), .string (tx (bedQ s D h k).2)] : Array Value).toList, u.oneCell' = true by simp [Value.oneCell'])
      clear A0 A1 A2 A3
      go_wp2_with (at_builtin; refine app_new slPt rfl _ _ rfl w1.heap.size _ k _ rfl hrow2 1 1 _ rfl rfl HONE.out (by omega) (by decide) hw2 _ rfl ?_; intro v1 w9 hown2 hb9; have HO2 := Lib.hid hown2; clear hown2)
      exact ⟨⟨k + 1, by omega, int_succ k, HO2.out, hb12.trans hb9⟩, by show D.length + 1 - ((k : Int) + 1).toNat < D.length + 1 - ((k : Int)).toNat; omega⟩
    · obtain rfl : k = D.length + 1 := by omega
      have hkn : decide (((D.length + 1 : Nat) : Int) < (D.length : Int) + 1) = false := decide_eq_false (by omega)
      have HRW := Lib.hid hrow
      obtain ⟨g', cap', rfl⟩ := ownsRow_succ hrow
      clear hrow
      go_wp2_with fail
      go_ret
      exact ⟨_, rfl, pts_of_row HRW.out, fun a n c e => by cases e; exact Nat.le_trans hws (HRW.out.lt g' rfl).1, hbw1.trans (hbr.mono hws)⟩
end Go.Proofs.YtbogpbjddaoeiaaGreatDoor
namespace Go.Proofs.YtbogpbjddaoeiaaGreatDoor
open Go.RowKit Go.Shelf
open Go.Lib (decDigits itoa nDigits)
/-- the length of a bed in a domain -/
def lgQ (D : List (Rat × Rat)) (h : Rat) (k : Nat) : Rat := lK D k + gK D k * h
def lgL (D : List (Rat × Rat)) (h : Rat) : List Rat := (List.range D.length).map (lgQ D h)
theorem PrOk.lgz {s : QP} {D : List (Rat × Rat)} (hP : PrOk s D) {h : Rat} (hh : Sz 3000000 h) (k : Nat) : Sz 18619448 (lgQ D h k) := ((hP.l k).add ((hP.gz k).mul hh)).mono (by decide)
set_option maxRecDepth 100000 in
set_option maxHeartbeats 8000000 in
theorem kink_lengths (s : QP) (D : List (Rat × Rat)) (hP : PrOk s D) (hnd : NoDiv D) (h : Rat) (hh : Sz 3000000 h) (vd vl : Value) (w : World) (hw : Good w) (hvd : Txs w vd (D.map (·.1))) (hvl : Txs w vl (D.map (·.2))) :
    Calls Tryz.prog 115 #[profV s vd vl, .string (tx h)] w fun e w' => ∃ v, e = .returned v ∧ Txs w' v (lgL D h) ∧ FreshV w v ∧ Below w.heap.size w w' := by
  have HEN := Lib.hid (fun (W : World) (hg : Good W) (h1 : Txs W vd (D.map (·.1))) (h2 : Txs W vl (D.map (·.2))) => callsIn_wide.1 (kink_growths s D hP hnd vd vl W hg h1 h2))
  have HVD := Lib.hid hvd
  have HVL := Lib.hid hvl
  have HMU := Lib.hid (fun k w' (hg : Good w') => k_mul (gK D k) h ((hP.gz k).mono (by decide)) (hh.mono (by decide)) w' hg)
  have HAD := Lib.hid (fun k w' (hg : Good w') => show Calls Tryz.prog 56 #[.string (tx (lK D k)), .string (tx (gK D k * h))] w' (RV (.string (tx (lgQ D h k))) w') from
    k_add (lK D k) (gK D k * h) ((hP.l k).mono (by decide)) (((hP.gz k).mul hh).mono (by decide)) w' hg)
  have hn4 := hP.n
  have hn1 := hP.ne
  unfold RV at HMU HAD
  obtain ⟨bd, cd, rfl, -, -, -, -⟩ := hvd
  obtain ⟨bl, cl, rfl, -, -, hbl, hlc⟩ := hvl
  have HL1 := Lib.hid (show (D.map (·.1)).length = D.length from List.length_map _)
  have HL2 := Lib.hid (show (D.map (·.2)).length = D.length from List.length_map _)
  have HLC := Lib.hid (fun k (hk : k < D.length) => show w.cell? ⟨bl, k, none⟩ = some (.string (tx (lK D k))) from (hlc k (by rw [HL2.out]; exact hk)).trans (by rw [List.getElem_map, lK_eq hk]))
  rw [HL1.out, HL2.out] at HEN
  rw [HL1.out] at HVD
  rw [HL2.out] at HVL
  rw [HL1.out, HL2.out]
  obtain ⟨wA, hwA⟩ : ∃ wA, wA = w.alloc (profO s (.slice (some ⟨bd, 0, none⟩) D.length cd) (.slice (some ⟨bl, 0, none⟩) D.length cl)) := ⟨_, rfl⟩
  have HWA := Lib.hid hwA
  have hbA : Below w.heap.size w wA := by rw [hwA]; exact alloc_below _ _
  have hpA : wA.heap[w.heap.size]? = some (profO s (.slice (some ⟨bd, 0, none⟩) D.length cd) (.slice (some ⟨bl, 0, none⟩) D.length cl)) := by rw [hwA]; exact World.alloc_heap_new _ _
  have HPA := Lib.hid hpA
  have HENA := Lib.hid (HEN.out wA (hw.below hbA) (HVD.out.below hbA) (HVL.out.below hbA))
  unfold profV profO at *
  clear hwA hP hnd HEN hlc hpA
  go_enter Tryz.func115, Tryz.ntmps115
  go_wp2_with fail
  rw [← HWA.out]
  refine HENA.out.mono ?_
  rintro e w1 ⟨vg, rfl, hvg, hb1⟩
  obtain ⟨bg, cg, hvg', hgc, hgm, hbg, hgcell⟩ := hvg
  have HL3 := Lib.hid (show (gL D).length = D.length by unfold gL; simp)
  rw [HL3.out] at hvg' hgc
  subst hvg'
  have HGC := Lib.hid (fun k (hk : k < D.length) => show w1.cell? ⟨bg, k, none⟩ = some (.string (tx (gK D k))) from (hgcell k (by rw [HL3.out]; exact hk)).trans (by simp [gL]))
  have hbw1 := hbA.trans (hb1.mono hbA.size)
  have hg1 := hw.below hbw1
  have hws := hbw1.size
  have hB0 := lt_of_some HPA.out
  have HP1 := Lib.hid ((hb1.block _ hB0).trans HPA.out)
  have hB1 := lt_of_some HP1.out
  clear hgcell HENA HWA
  have hr0 : w1.ownsRow w1.heap.size 31 1 (.slice none 0 0) 0 (rCs (lgQ D h) 0) := World.ownsRow_nil _ _ _ _
  go_wp2_with fail
  go_loopw [5, 6, 7, 11] (fun ov _ _ iv wr => ∃ k : Nat, k ≤ D.length ∧ iv = .int .i64 (k : Int) ∧ wr.ownsRow w1.heap.size 31 1 ov k (rCs (lgQ D h) k) ∧ Below w1.heap.size w1 wr) (fun _ _ _ iv _ => D.length - (intOf iv).toNat)
  case atStart => exact ⟨0, Nat.zero_le _, rfl, hr0, Below.refl _ _⟩
  case round =>
    obtain ⟨k, hk, rfl, hrow, hbr⟩ := hrel
    have hwr := hbr.size
    by_cases hkl : k < D.length
    · have A0 := (hbr.cell (p := ⟨bg, k, none⟩) hbg).trans (HGC.out k hkl)
      have A1 := (hbr.cell (p := ⟨bl, k, none⟩) (by show bl < _; omega)).trans ((hbw1.cell (p := ⟨bl, k, none⟩) hbl).trans (HLC.out k hkl))
      obtain ⟨_, _, _, e3⟩ := prof_cells ((hbr.block _ hB1).trans HP1.out)
      have i1 : (0 : Int) ≤ (k : Int) := by omega
      have i2 : (k : Int) < (D.length : Int) := by omega
      have hkn : decide ((k : Int) < (D.length : Int)) = true := decide_eq_true i2
      have hgr := hg1.below hbr
      have H1 := Lib.hid (HMU.out k)
      have H2 := Lib.hid (HAD.out k)
      have hbgr : bg < wr.heap.size := by omega
      have hblr : bl < wr.heap.size := by omega
      have hbpr : w.heap.size < wr.heap.size := by omega
      have HROW := Lib.hid hrow
      have HCN := Lib.hid (rCs_succ (lgQ D h) k)
      obtain ⟨i0, hi, hz0, hz1, hz2⟩ := info_parts slTx.info
      clear hrow
      go_upto_region 5 with fail
      refine wp_held_list (fun W' => Below wr.heap.size wr W') [0, 1, 2, 3, 4, 5, 6, 7] [8, 9, 10] 11 (by kernel_rfl) (by kernel_rfl) ⟨rfl, rfl, rfl, Nat.le_refl _, fun _ _ => rfl⟩ ?_
      iterate 8
        refine wpTakeL_step rfl ?_ rfl ?_ ?_
        rotate_left
        · intro W' hS'
          have s1 := (hS'.cell (p := ⟨bl, k, none⟩) hblr).trans A1
          have s2 := (hS'.cell (p := ⟨w.heap.size, 3, none⟩) hbpr).trans e3
          go_simp
          try with_reducible rfl
        try simp only [List.getElem_toArray, List.getElem_cons_zero, List.getElem_cons_succ, Act.put, List.setIfInBounds_toArray, List.set_cons_zero, List.set_cons_succ]
      have hH0 : Below wr.heap.size wr wr.drew := ⟨rfl, rfl, rfl, Nat.le_refl _, fun _ _ => rfl⟩
      refine wpKeepL_step rfl rfl (fun K hK => ?_)
      go_simp
      refine (H1.out _ (hgr.below hH0)).mono ?_
      rintro e v4 ⟨rfl, hv4⟩
      have hH1 := hH0.trans (hv4.mono hH0.size)
      refine hK _ _ ⟨hH1, ?_⟩
      clear hK K
      try simp only [List.getElem_toArray, List.getElem_cons_zero, List.getElem_cons_succ, Act.put, List.setIfInBounds_toArray, List.set_cons_zero, List.set_cons_succ]
      refine wpKeepL_step rfl rfl (fun K hK => ?_)
      go_simp
      refine (H2.out _ (hgr.below hH1)).mono ?_
      rintro e v5 ⟨rfl, hv5⟩
      have hH2 := hH1.trans (hv5.mono hH1.size)
      refine hK _ _ ⟨hH2, ?_⟩
      clear hK K
      try simp only [List.getElem_toArray, List.getElem_cons_zero, List.getElem_cons_succ, Act.put, List.setIfInBounds_toArray, List.set_cons_zero, List.set_cons_succ]
      refine wpKeepL_step rfl rfl (fun K hK => ?_)
      go_simp
      refine hK _ _ ⟨hH2.trans ((alloc_below _ _).mono hH2.size), ?_⟩
      clear hK K
      try simp only [List.getElem_toArray, List.getElem_cons_zero, List.getElem_cons_succ, Act.put, List.setIfInBounds_toArray, List.set_cons_zero, List.set_cons_succ]
      unfold wpKeepL
      simp only [List.drop_succ_cons, List.drop_zero]
      try simp only [List.getElem_toArray, List.getElem_cons_zero, List.getElem_cons_succ, Act.put, List.setIfInBounds_toArray, List.set_cons_zero, List.set_cons_succ]
      have hs05 := hH2.size
      have hrow5 := owns_below HROW.out hH2
      have hb15 := hbr.trans (hH2.mono hwr)
      have hb15s := hb15.size
      clear A0 A1 e3 hv4 hv5 hH0 hH1
      refine wpKeep_step rfl (fun K hK => ?_)
      refine wp_append_own _ (.tmp 16) (.tmp 26) 63 rfl w1.heap.size 31 i0 (.string ⟨#[]⟩) 1 16 slTx.ht hi hz0 hz1 hz2 slTx.hzs slTx.hsz _ _ _ rfl (hrow5.alloc _) ⟨v5.heap.size, 0, none⟩ 1 1 [.string (tx (lgQ D h k))] rfl rfl (cell_one_new _ _ _) (by simp [Value.oneCell']) (by unfold maxLen; omega) (by omega) (by simp; omega) ?_
      intro v' w5 hown5 hgrow _
      have hb5 : Below w1.heap.size w1 w5 := (hb15.trans ((alloc_below v5 _).mono hb15s)).grown hgrow (by simp; omega) (fun g hg => (hrow5.lt g hg).1)
      have HO5 := Lib.hid hown5
      clear hown5 hrow5 hgrow
      refine hK _ _ ⟨trivial, ?_⟩
      clear hK K
      try simp only [Act.put, List.setIfInBounds_toArray, List.set_cons_zero, List.set_cons_succ]
      refine wpKeep_step rfl (fun K hK => ?_)
      go_simp
      refine hK _ _ ⟨trivial, wpKeep_nil ?_⟩
      clear hK K
      try simp only [List.getElem_toArray, List.getElem_cons_zero, List.getElem_cons_succ, Act.put, List.setIfInBounds_toArray, List.set_cons_zero, List.set_cons_succ]
      refine NormalOnly.mk ?_
      go_wp2
      exact ⟨⟨k + 1, by omega, int_succ k, by rw [HCN.out]; exact HO5.out, hb5⟩, by show D.length - ((k : Int) + 1).toNat < D.length - ((k : Int)).toNat; omega⟩
    · obtain rfl : k = D.length := by omega
      have hkn : decide ((D.length : Int) < (D.length : Int)) = false := decide_eq_false (by omega)
      obtain ⟨m, hm⟩ : ∃ m, D.length = m + 1 := ⟨D.length - 1, by omega⟩
      have HRW := Lib.hid hrow
      obtain ⟨g', cap', rfl⟩ := ownsRow_succ (by rw [hm] at hrow; exact hrow)
      rw [← hm] at HRW
      have HTX := Lib.hid (txs_of_row HRW.out)
      have HFR := Lib.hid (HRW.out.lt g' rfl).1
      rw [hm] at HTX
      clear hrow HRW
      go_wp2_with fail
      go_ret
      exact ⟨_, rfl, by unfold lgL; rw [hm]; exact HTX.out, fun a n c e => by cases e; exact Nat.le_trans hws HFR.out, hbw1.trans (hbr.mono hws)⟩
end Go.Proofs.YtbogpbjddaoeiaaGreatDoor
namespace Go.Proofs.YtbogpbjddaoeiaaGreatDoor
open Go.RowKit Go.Shelf
open Go.Lib (decDigits itoa nDigits)
theorem sgnR_le (q : Rat) : decide (sgnR q ≤ 0) = !decide (0 < q) := by
  by_cases h : 0 < q
  · have h1 : 0 < q.num := by
      rcases Int.lt_trichotomy q.num 0 with h1 | h1 | h1
      · exact absurd (num_neg_iff.2 h1) (Rat.not_lt.2 (Rat.le_of_lt h))
      · exact absurd (num_zero_iff.2 h1) (Rat.ne_of_gt h)
      · exact h1
    rw [decide_eq_true h, sgnR, sgn_pos h1]; decide
  · by_cases h0 : q < 0
    · rw [decide_eq_false h, sgnR, sgn_neg (num_neg_iff.1 h0)]; decide
    · have h2 : q = 0 := Rat.le_antisymm (Rat.not_lt.1 h) (Rat.not_lt.1 h0)
      rw [decide_eq_false h, h2]; decide
def withinB (D : List (Rat × Rat)) (h : Rat) : Bool := (List.range D.length).all fun k => decide (0 < lgQ D h k)
theorem within_true {D : List (Rat × Rat)} {h : Rat} : withinB D h = true ↔ ∀ k, k < D.length → 0 < lgQ D h k := by unfold withinB; simp
theorem within_false {D : List (Rat × Rat)} {h : Rat} {k : Nat} (hk : k < D.length) (h0 : ¬ 0 < lgQ D h k) : withinB D h = false := by
  rcases hb : withinB D h with _ | _
  · rfl
  · exact absurd (within_true.1 hb k hk) h0
set_option maxRecDepth 100000 in
set_option maxHeartbeats 8000000 in
theorem kink_within (s : QP) (D : List (Rat × Rat)) (hP : PrOk s D) (hnd : NoDiv D) (h : Rat) (hh : Sz 3000000 h) (vd vl : Value) (w : World) (hw : Good w) (hvd : Txs w vd (D.map (·.1))) (hvl : Txs w vl (D.map (·.2))) :
    Calls Tryz.prog 113 #[profV s vd vl, .string (tx h)] w (RV (.bool (withinB D h)) w) := by
  have HEN := Lib.hid (fun (W : World) (hg : Good W) (h1 : Txs W vd (D.map (·.1))) (h2 : Txs W vl (D.map (·.2))) => kink_lengths s D hP hnd h hh vd vl W hg h1 h2)
  have HVD := Lib.hid hvd
  have HVL := Lib.hid hvl
  have HSG := Lib.hid (fun k w' => rational_Sign (tx (lgQ D h k)) (lgQ D h k) (isR_mk _) (Nat.le_trans (hP.lgz hh k) (by decide)) w')
  have hn4 := hP.n
  obtain ⟨bd, cd, rfl, -, -, -, -⟩ := hvd
  obtain ⟨bl, cl, rfl, -, -, -, -⟩ := hvl
  have HL1 := Lib.hid (show (D.map (·.1)).length = D.length from List.length_map _)
  have HL2 := Lib.hid (show (D.map (·.2)).length = D.length from List.length_map _)
  rw [HL1.out, HL2.out] at HEN
  rw [HL1.out] at HVD
  rw [HL2.out] at HVL
  rw [HL1.out, HL2.out]
  obtain ⟨wA, hwA⟩ : ∃ wA, wA = w.alloc (profO s (.slice (some ⟨bd, 0, none⟩) D.length cd) (.slice (some ⟨bl, 0, none⟩) D.length cl)) := ⟨_, rfl⟩
  have HWA := Lib.hid hwA
  have hbA : Below w.heap.size w wA := by rw [hwA]; exact alloc_below _ _
  have HENA := Lib.hid (HEN.out wA (hw.below hbA) (HVD.out.below hbA) (HVL.out.below hbA))
  obtain ⟨bo, hbo⟩ : ∃ bo, bo = withinB D h := ⟨_, rfl⟩
  rw [← hbo]
  have HBO := Lib.hid hbo
  unfold profV profO at *
  clear hwA hP hnd HEN hbo
  go_enter Tryz.func113, Tryz.ntmps113
  go_wp2_with fail
  rw [← HWA.out]
  refine HENA.out.mono ?_
  rintro e w1 ⟨vg, rfl, hvg, -, hb1⟩
  obtain ⟨bg, cg, hvg', hgc, hgm, hbg, hgcell⟩ := hvg
  have HL3 := Lib.hid (show (lgL D h).length = D.length by unfold lgL; simp)
  rw [HL3.out] at hvg' hgc
  subst hvg'
  have HGC := Lib.hid (fun k (hk : k < D.length) => show w1.cell? ⟨bg, k, none⟩ = some (.string (tx (lgQ D h k))) from (hgcell k (by rw [HL3.out]; exact hk)).trans (by simp [lgL]))
  have hbw1 := hbA.trans (hb1.mono hbA.size)
  clear hgcell HENA HWA
  go_wp2_with fail
  go_loopw [6, 11] (fun _ iv wr => ∃ k : Nat, k ≤ D.length ∧ iv = .int .i64 (k : Int) ∧ (∀ i, i < k → 0 < lgQ D h i) ∧ wr = w1) (fun _ iv _ => D.length - (intOf iv).toNat)
  case atStart => exact ⟨0, Nat.zero_le _, rfl, fun i hi => (by omega), rfl⟩
  case round =>
    obtain ⟨k, hk, rfl, hall, rfl⟩ := hrel
    have HALL := Lib.hid hall
    clear hall
    by_cases hkl : k < D.length
    · have A0 := HGC.out k hkl
      have i1 : (0 : Int) ≤ (k : Int) := by omega
      have i2 : (k : Int) < (D.length : Int) := by omega
      have hkn : decide ((k : Int) < (D.length : Int)) = true := decide_eq_true i2
      have H1 := Lib.hid (HSG.out k)
      have HLE := Lib.hid (sgnR_le (lgQ D h k))
      generalize sgnR (lgQ D h k) = sg at *
      go_wp2_with fail
      refine (H1.out _).mono ?_
      rintro e w2 ⟨rfl, rfl⟩
      by_cases hp : 0 < lgQ D h k
      · have hd : decide (sg ≤ 0) = false := by rw [HLE.out, decide_eq_true hp]; rfl
        have HP1 := Lib.hid hp
        clear hp
        go_wp2_with fail
        refine ⟨⟨k + 1, by omega, int_succ k, fun i hi => ?_, trivial⟩, by show D.length - ((k : Int) + 1).toNat < D.length - ((k : Int)).toNat; omega⟩
        rcases Nat.lt_or_ge i k with h1 | h1
        · exact HALL.out i h1
        · obtain rfl : i = k := by omega
          exact HP1.out
      · have hd : decide (sg ≤ 0) = true := by rw [HLE.out, decide_eq_false hp]; rfl
        have HF := Lib.hid (show bo = false by rw [HBO.out]; exact within_false hkl hp)
        clear hp
        go_wp2_with fail
        go_ret
        exact ⟨by rw [HF.out]; rfl, hbw1⟩
    · obtain rfl : k = D.length := by omega
      have hkn : decide ((D.length : Int) < (D.length : Int)) = false := decide_eq_false (by omega)
      have HF := Lib.hid (show bo = true by rw [HBO.out]; exact within_true.2 HALL.out)
      go_wp2_with fail
      go_ret
      exact ⟨by rw [HF.out]; rfl, hbw1⟩
/-- dips and lengths within their bounds -/
def PrIn (D : List (Rat × Rat)) : Prop := ∀ x ∈ D, absQ x.1 < 1 ∧ 0 < x.2
theorem sz_abs {n : Nat} {q : Rat} (h : Sz n q) : Sz (n + 1) (absQ q) := by
  unfold absQ
  split
  · exact h.neg
  · exact h.mono (by omega)
theorem k_cmp (p q : Rat) (hp : Sz 1000000000 p) (hq : Sz 1000000000 q) (w : World) (hw : Good w) : Calls Tryz.prog 70 #[.string (tx p), .string (tx q)] w (RV (.int .i64 (cmpR p q)) w) :=
  rational_Compare (tx p) (tx q) p q (isR_mk p) (isR_mk q) hp hq w hw
set_option maxRecDepth 100000 in
set_option maxHeartbeats 8000000 in
theorem kink_Check (s : QP) (D : List (Rat × Rat)) (hP : PrOk s D) (hI : PrIn D) (vd vl : Value) (w : World) (hw : Good w) (hvd : Txs w vd (D.map (·.1))) (hvl : Txs w vl (D.map (·.2))) :
    Calls Tryz.prog 111 #[profV s vd vl] w (RV (.int .i64 0) w) := by
  have HCP := Lib.hid (fun w' (hg : Good w') => vec_CheckPoint s hP.s1 hP.s2 w' hg)
  have HC1 := Lib.hid (fun k (hk : k < D.length) w' (hg : Good w') => k_check (tK D k) (by rw [← tK_eq hk]; exact (hP.d _ (List.getElem_mem hk)).1) w' hg)
  have HC2 := Lib.hid (fun k (hk : k < D.length) w' (hg : Good w') => k_check (lK D k) (by rw [← lK_eq hk]; exact (hP.d _ (List.getElem_mem hk)).2) w' hg)
  have HAB := Lib.hid (fun k w' => rat_Abs (tK D k) w')
  have HCM := Lib.hid (fun k w' (hg : Good w') => k_cmp (absQ (tK D k)) 1 ((sz_abs (hP.t k)).mono (by decide)) (by unfold Sz; rw [tx1]; decide) w' hg)
  have HCN := Lib.hid (fun k (hk : k < D.length) => show decide (0 ≤ cmpR (absQ (tK D k)) 1) = false from decide_eq_false (by
    have := cmpR_neg.2 (show absQ (tK D k) < 1 by rw [← tK_eq hk]; exact (hI _ (List.getElem_mem hk)).1)
    omega))
  have HSG := Lib.hid (fun k w' => rational_Sign (tx (lK D k)) (lK D k) (isR_mk _) (Nat.le_trans (hP.l k) (by decide)) w')
  have HSN := Lib.hid (fun k (hk : k < D.length) => show decide (sgnR (lK D k) ≤ 0) = false by
    rw [sgnR_le, decide_eq_true (show 0 < lK D k by rw [← lK_eq hk]; exact (hI _ (List.getElem_mem hk)).2)]; rfl)
  have hn4 := hP.n
  have hn1 := hP.ne
  unfold RV ptV at HCP
  unfold RV at HC1 HC2 HAB HCM
  obtain ⟨bd, cd, rfl, -, -, hbd, hdc⟩ := hvd
  obtain ⟨bl, cl, rfl, -, -, hbl, hlc⟩ := hvl
  have HL1 := Lib.hid (show (D.map (·.1)).length = D.length from List.length_map _)
  have HL2 := Lib.hid (show (D.map (·.2)).length = D.length from List.length_map _)
  have HDC := Lib.hid (fun k (hk : k < D.length) => show w.cell? ⟨bd, k, none⟩ = some (.string (tx (tK D k))) from (hdc k (by rw [HL1.out]; exact hk)).trans (by rw [List.getElem_map, tK_eq hk]))
  have HLC := Lib.hid (fun k (hk : k < D.length) => show w.cell? ⟨bl, k, none⟩ = some (.string (tx (lK D k))) from (hlc k (by rw [HL2.out]; exact hk)).trans (by rw [List.getElem_map, lK_eq hk]))
  rw [HL1.out, HL2.out]
  obtain ⟨wA, hwA⟩ : ∃ wA, wA = w.alloc (profO s (.slice (some ⟨bd, 0, none⟩) D.length cd) (.slice (some ⟨bl, 0, none⟩) D.length cl)) := ⟨_, rfl⟩
  have HWA := Lib.hid hwA
  have hbA : Below w.heap.size w wA := by rw [hwA]; exact alloc_below _ _
  have hpA : wA.heap[w.heap.size]? = some (profO s (.slice (some ⟨bd, 0, none⟩) D.length cd) (.slice (some ⟨bl, 0, none⟩) D.length cl)) := by rw [hwA]; exact World.alloc_heap_new _ _
  have HPA := Lib.hid hpA
  have c1 : ((D.length : Int) == 0) = false := beq_false_of_ne (by omega)
  have c2 : decide ((20 : Int) < (D.length : Int)) = false := decide_eq_false (by omega)
  unfold profV profO at *
  rw [tx1] at HCM
  clear hwA hP hI hdc hlc hpA
  go_enter Tryz.func111, Tryz.ntmps111
  go_wp2_with fail
  rw [← HWA.out]
  refine (HCP.out _ (hw.below hbA)).mono ?_
  rintro e w1 ⟨rfl, hb1⟩
  have hbw1 := hbA.trans (hb1.mono hbA.size)
  have hg1 := hw.below hbw1
  have hB0 := lt_of_some HPA.out
  have HP1 := Lib.hid ((hb1.block _ hB0).trans HPA.out)
  have hB1 := lt_of_some HP1.out
  obtain ⟨e0, e1, e2, e3⟩ := prof_cells HP1.out
  clear HWA hb1
  go_wp2_with fail
  clear e0 e1 e2 e3
  go_loopw [3, 4, 31] (fun _ _ iv wr => ∃ k : Nat, k ≤ D.length ∧ iv = .int .i64 (k : Int) ∧ Below w1.heap.size w1 wr) (fun _ _ iv _ => D.length - (intOf iv).toNat)
  case atStart => exact ⟨0, Nat.zero_le _, rfl, Below.refl _ _⟩
  case round =>
    obtain ⟨k, hk, rfl, hbr⟩ := hrel
    have hwr := hbr.size
    have hgr := hg1.below hbr
    have hws := hbw1.size
    by_cases hkl : k < D.length
    · have HR1 := Lib.hid ((hbr.block _ hB1).trans HP1.out)
      have i1 : (0 : Int) ≤ (k : Int) := by omega
      have i2 : (k : Int) < (D.length : Int) := by omega
      have hkn : decide ((k : Int) < (D.length : Int)) = true := decide_eq_true i2
      have A0 := (hbr.cell (p := ⟨bd, k, none⟩) (by show bd < _; omega)).trans ((hbw1.cell (p := ⟨bd, k, none⟩) hbd).trans (HDC.out k hkl))
      have HA1 := Lib.hid ((hbr.cell (p := ⟨bl, k, none⟩) (by show bl < _; omega)).trans ((hbw1.cell (p := ⟨bl, k, none⟩) hbl).trans (HLC.out k hkl)))
      have H1 := Lib.hid (HC1.out k hkl)
      have H2 := Lib.hid (HC2.out k hkl)
      have H3 := Lib.hid (HAB.out k)
      have H4 := Lib.hid (HCM.out k)
      have H5 := Lib.hid (HSG.out k)
      have n4 := HCN.out k hkl
      have n5 := HSN.out k hkl
      generalize cmpR (absQ (tK D k)) 1 = cm at *
      generalize sgnR (lK D k) = sg at *
      clear HC1 HC2 HAB HCM HCN HSG HSN HCP
      go_wp2_with fail
      refine (H1.out _ hgr).mono ?_
      rintro e w2 ⟨rfl, hb2⟩
      have hs2 := hb2.size
      have hb12 := hbr.trans (hb2.mono hwr)
      have A1 := (hb2.cell (p := ⟨bl, k, none⟩) (by show bl < _; omega)).trans HA1.out
      obtain ⟨_, _, _, e3⟩ := prof_cells ((hb2.block _ (by omega)).trans HR1.out)
      go_wp2_with fail
      refine (H2.out _ (hg1.below hb12)).mono ?_
      rintro e w3 ⟨rfl, hb3⟩
      have hb13 := hb12.trans (hb3.mono hb12.size)
      clear A1 e3
      go_wp2_with fail
      refine (H3.out _).mono ?_
      rintro e w4 ⟨rfl, hb4⟩
      have hb14 := hb13.trans (hb4.mono hb13.size)
      go_wp2_with fail
      refine (H4.out _ (hg1.below hb14)).mono ?_
      rintro e w5 ⟨rfl, hb5⟩
      have hb15 := hb14.trans (hb5.mono hb14.size)
      have hb15s := hb15.size
      have A2 := ((hbw1.trans (hb15.mono hws)).cell (p := ⟨bl, k, none⟩) hbl).trans (HLC.out k hkl)
      obtain ⟨_, _, _, e3⟩ := prof_cells ((hb15.block _ hB1).trans HP1.out)
      go_wp2_with fail
      refine (H5.out _).mono ?_
      rintro e w6 ⟨rfl, rfl⟩
      go_wp2_with fail
      exact ⟨⟨k + 1, by omega, int_succ k, hb15⟩, by show D.length - ((k : Int) + 1).toNat < D.length - ((k : Int)).toNat; omega⟩
    · obtain rfl : k = D.length := by omega
      have hkn : decide ((D.length : Int) < (D.length : Int)) = false := decide_eq_false (by omega)
      go_wp2_with fail
      go_ret
      exact ⟨rfl, hbw1.trans (hbr.mono hws)⟩
end Go.Proofs.YtbogpbjddaoeiaaGreatDoor
