import Derived.Test.YtbogpbjddaoeiaaGreatDoorJoin0Z
namespace Go.Proofs.YtbogpbjddaoeiaaGreatDoor
open Go.RowKit Go.Shelf
open Go.Lib (decDigits itoa nDigits)
attribute [local go_sem] Oper.semAt_some
theorem three_boxes {w wA : World} {v1 v2 : Value} {lo hi : ByteArray} (hwA : wA = ((w.alloc (Obj.cells #[v1] 51)).alloc (Obj.cells #[v2] 31)).alloc (Obj.cells #[.string lo, .string hi] 33)) :
    Below w.heap.size w wA ∧ wA.heap.size = w.heap.size + 3 ∧ wA.cell? ⟨w.heap.size, 0, none⟩ = some v1 ∧ wA.cell? ⟨w.heap.size + 1, 0, none⟩ = some v2 ∧ wA.cell? ⟨w.heap.size + 2, 0, none⟩ = some (.string lo) ∧ wA.cell? ⟨w.heap.size + 2, 1, none⟩ = some (.string hi) := by
  obtain ⟨w1, hw1⟩ : ∃ w1, w1 = w.alloc (Obj.cells #[v1] 51) := ⟨_, rfl⟩
  obtain ⟨w2, hw2⟩ : ∃ w2, w2 = w1.alloc (Obj.cells #[v2] 31) := ⟨_, rfl⟩
  rw [← hw1, ← hw2] at hwA
  have s1 : w1.heap.size = w.heap.size + 1 := by rw [hw1]; simp
  have s2 : w2.heap.size = w.heap.size + 2 := by rw [hw2]; simp; omega
  have b1 : Below w.heap.size w w1 := by rw [hw1]; exact alloc_below _ _
  have b2 : Below w1.heap.size w1 w2 := by rw [hw2]; exact alloc_below _ _
  have b3 : Below w2.heap.size w2 wA := by rw [hwA]; exact alloc_below _ _
  have c1 : w1.cell? ⟨w.heap.size, 0, none⟩ = some v1 := by rw [hw1]; exact alloc_cells w #[v1] _ 0 (by simp)
  have c2 : w2.cell? ⟨w.heap.size + 1, 0, none⟩ = some v2 := by rw [hw2, ← s1]; exact alloc_cells w1 #[v2] _ 0 (by simp)
  refine ⟨b1.trans ((b2.mono (by omega)).trans (b3.mono (by omega))), by rw [hwA]; simp; omega, ?_, ?_, ?_, ?_⟩
  · rw [b3.cell (by simp; omega), b2.cell (by simp; omega)]; exact c1
  · rw [b3.cell (by simp; omega)]; exact c2
  · rw [hwA, ← s2]; exact alloc_cells w2 #[.string lo, .string hi] _ 0 (by simp)
  · rw [hwA, ← s2]; exact alloc_cells w2 #[.string lo, .string hi] _ 1 (by simp)
theorem aboveP_le {L : List Pair} {h : Rat} (x : AP L h) : (aboveP x).length ≤ 1 := by unfold aboveP; split <;> simp
theorem flat_le {L : List Pair} {h : Rat} (l : List (AP L h)) : (l.flatMap aboveP).length ≤ l.length := by
  induction l with
  | nil => simp
  | cons x l ih =>
    rw [List.flatMap_cons, List.length_append, List.length_cons]
    have := aboveP_le x
    omega
theorem mergeR_ne (A : List RP) (p : RP) : mergeR A p ≠ [] := by
  cases A with
  | nil => simp [mergeR]
  | cons q r => rw [mergeR]; split <;> simp
theorem mergeP_pos {M : List RP} (h : M ≠ []) : 0 < (mergeP M).length := by
  unfold mergeP
  rw [List.length_reverse]
  obtain ⟨l, x, rfl⟩ : ∃ l x, M = l ++ [x] := ⟨M.dropLast, M.getLast h, (List.dropLast_concat_getLast h).symm⟩
  rw [List.foldl_append]
  exact List.length_pos_iff.2 (mergeR_ne _ _)
theorem mergeP_le (M : List RP) : (mergeP M).length ≤ M.length := by
  have := accP_len M M.length
  unfold accP at this
  rw [List.take_length] at this
  unfold mergeP
  rw [List.length_reverse]
  exact this
theorem rat_sub_zero {p q : Rat} (h : p - q = 0) : p = q := by
  have := congrArg (· + q) h
  simp only [Rat.sub_add_cancel, Rat.zero_add] at this
  exact this
theorem owns_len_le {w : World} {base : Nat} {e : TypeId} {v : Value} {n : Nat} {xs : List Value} (h : w.ownsRow base e 2 v n xs) : xs.length = n * 2 := h.1
def AbovePost (L : List Pair) (h : Rat) (lo hi : ByteArray) (w : World) (e : Ending) (w' : World) : Prop :=
  ∃ (v : Value) (S : List (AP L h)) (M : List RP), e = .returned (.tuple #[v, .int .i64 0]) ∧ S.map (·.1) = stepsP hi lo L ∧ M.Perm (S.flatMap aboveP) ∧ M.Pairwise (fun x y => ¬ ratV y.1.1 < ratV x.1.1) ∧ w'.ownsRow w.heap.size 33 2 v (mergeP M).length (cellsP (mergeP M)) ∧ Below w.heap.size w w'
set_option maxRecDepth 100000 in
set_option maxHeartbeats 4000000 in
theorem ranges_Above_ok (v : Value) (L : List Pair) (x : ByteArray) (h : Rat) (hx : IsR x h) (lo hi : ByteArray) (w : World) (hw : Good w) (hv : Pairs w v L) (hsz : SzOk L) (h1 : lo.size ≤ 4000000000) (h2 : hi.size ≤ 4000000000) (hxs : x.size ≤ 402)
    (hk : atErr L x = 0) (hp : partErr lo hi = 0) (hok : AllOk L) (hasc : Asc L) (hl : L.length ≤ 100) (hl0 : 0 < L.length) (hlo : ratB lo.data.toList = true) (hhi : ratB hi.data.toList = true) (hall : ∀ p ∈ stepsP hi lo L, OkA L h p) :
    CallsIn Fence.wide 9 Tryz.prog 33 #[v, .string x, .agg #[.string lo, .string hi]] w (AbovePost L h lo hi w) := by
  have hv0 := hv
  obtain ⟨p, c, rfl, hc, hm, hxx⟩ := hv
  obtain ⟨b, off, rfl, hbl, hcell⟩ := hxx (by omega)
  obtain ⟨wA, hwA⟩ : ∃ wA, wA = ((w.alloc (Obj.cells #[.slice (some ⟨b, off, none⟩) L.length c] 51)).alloc (Obj.cells #[.string x] 31)).alloc (Obj.cells #[.string lo, .string hi] 33) := ⟨_, rfl⟩
  obtain ⟨hA0, hsA, a0, ax, a1, a2⟩ := three_boxes hwA
  have hgA : Good wA := hw.below hA0
  refine callsIn_of_wp_marks Tryz.func33 rfl trivial ?_ rfl
  simp only [Tryz.ntmps33, List.size_toArray, List.length_cons, List.length_nil, Nat.reduceAdd, Nat.reduceSub, Array.replicate_succ, Array.replicate_zero, List.push_toArray, List.append_toArray, List.nil_append, List.cons_append]
  gi_wp2
  rw [← hwA]
  refine ⟨trivial, ?_⟩
  refine (callsIn_wide.2 (ranges_checkAt _ L x wA hgA (hv0.below hA0) hsz (by omega))).mono ?_
  rintro e w1 ⟨rfl, hb1⟩
  rw [hk]
  have b0 := (hb1.cell (p := ⟨w.heap.size, 0, none⟩) (by simp; omega)).trans a0
  have bx := (hb1.cell (p := ⟨w.heap.size + 1, 0, none⟩) (by simp; omega)).trans ax
  have b1 := (hb1.cell (p := ⟨w.heap.size + 2, 0, none⟩) (by simp; omega)).trans a1
  have b2 := (hb1.cell (p := ⟨w.heap.size + 2, 1, none⟩) (by simp; omega)).trans a2
  gi_wp2
  refine ⟨trivial, ?_⟩
  refine (callsIn_wide.2 (part_check lo hi h1 h2 w1 (hgA.below hb1))).mono ?_
  rintro e w2 ⟨rfl, hb2⟩
  rw [hp]
  have hs1 := hb1.size
  have hs2 := hb2.size
  have c0 := (hb2.cell (p := ⟨w.heap.size, 0, none⟩) (by simp; omega)).trans b0
  have cx := (hb2.cell (p := ⟨w.heap.size + 1, 0, none⟩) (by simp; omega)).trans bx
  have c1 := (hb2.cell (p := ⟨w.heap.size + 2, 0, none⟩) (by simp; omega)).trans b1
  have c2 := (hb2.cell (p := ⟨w.heap.size + 2, 1, none⟩) (by simp; omega)).trans b2
  obtain ⟨w3, hw3⟩ : ∃ w3, w3 = w2.alloc (Obj.cells #[.slice none 0 0] 22) := ⟨_, rfl⟩
  have hb3 : Below w2.heap.size w2 w3 := by rw [hw3]; exact alloc_below _ _
  have hs3 : w3.heap.size = w2.heap.size + 1 := by rw [hw3]; simp
  have d0 := (hb3.cell (p := ⟨w.heap.size, 0, none⟩) (by simp; omega)).trans c0
  have d1 := (hb3.cell (p := ⟨w.heap.size + 2, 0, none⟩) (by simp; omega)).trans c1
  have d2 := (hb3.cell (p := ⟨w.heap.size + 2, 1, none⟩) (by simp; omega)).trans c2
  have hbx3 : Boxed w3 w2.heap.size 22 (.slice none 0 0) := by rw [hw3]; exact Boxed.new _ _ _
  rw [hw3] at d0 d1 d2
  gi_wp2
  rw [← hw3]
  refine ⟨trivial, ?_⟩
  refine (steps_in _ _ _ _ _ _ _).mono ?_
  rintro e w4 ⟨rfl, hw4⟩
  have HW4 := Lib.hid hw4
  have HW3 := Lib.hid hw3
  have HS3 := Lib.hid hs3
  clear hw4 hw3 hs3
  gi_wp2
  have hs3 := HS3.out
  have hb4 : Below w3.heap.size w3 w4 := by rw [HW4.out]; exact (alloc_below _ _).trans ((alloc_below _ _).mono (by simp))
  have hs4 : w4.heap.size = w3.heap.size + 2 := by rw [HW4.out]; simp
  have f1 : w4.cell? ⟨w3.heap.size + 1, 0, none⟩ = some (.string lo) := by
    rw [HW4.out, show w3.heap.size + 1 = (w3.alloc (Obj.cells #[.slice (some ⟨b, off, none⟩) L.length c] 51)).heap.size by simp]; exact alloc_cells _ #[_, _] _ 0 (by simp)
  have f2 : w4.cell? ⟨w3.heap.size + 1, 1, none⟩ = some (.string hi) := by
    rw [HW4.out, show w3.heap.size + 1 = (w3.alloc (Obj.cells #[.slice (some ⟨b, off, none⟩) L.length c] 51)).heap.size by simp]; exact alloc_cells _ #[_, _] _ 1 (by simp)
  have f0 : w4.cell? ⟨w3.heap.size, 0, none⟩ = some (.slice (some ⟨b, off, none⟩) L.length c) := by
    rw [HW4.out, (alloc_below _ _).cell (by simp)]; exact alloc_cells w3 #[_] _ 0 (by simp)
  have hbA2 : Below w.heap.size w w2 := hA0.trans ((hb1.trans (hb2.mono hb1.size)).mono (by omega))
  have hb24 : Below w2.heap.size w2 w4 := hb3.trans (hb4.mono hb3.size)
  have hg4 : Good w4 := (hw.below hbA2).below hb24
  have hv4 := (hv0.below hbA2).below hb24
  have hbx4 : Boxed w4 w2.heap.size 22 (.slice none 0 0) := (hb4.block _ hbx3.lt).trans hbx3
  have HBA2 := Lib.hid hbA2
  have hbb2 : b < w2.heap.size := by omega
  have hbig := hw.big
  have HOK := Lib.hid hok
  have hs3a : w3.heap.size ≤ w2.heap.size + 1 := by omega
  have hs3b : w2.heap.size + 1 ≤ w3.heap.size := by omega
  have hs4a : w4.heap.size ≤ w3.heap.size + 2 := by omega
  have hs4b : w3.heap.size + 2 ≤ w4.heap.size := by omega
  have hsAa : w.heap.size + 3 ≤ wA.heap.size := by omega
  clear HW4 HW3 HS3 hwA a0 ax a1 a2 b0 bx b1 b2 c1 c2 d1 d2 d0 hcell hxx hs3 hs4 hsA
  refine wpIn_rangeFunc_ownH (n := 9) rfl (by decide) (gf := 130) (lb := #[.pointer (some ⟨w3.heap.size + 1, 0, none⟩), .pointer (some ⟨w3.heap.size, 0, none⟩)]) rfl trivial (enters_of Tryz.func130 (by kernel_rfl) rfl)
    (steps_stops2 (OkA L h) 8 (by decide) (w3.heap.size + 1) w3.heap.size w2.heap.size _ lo hi L hlo hhi hok hall (by omega) w4 hg4 (by omega) (by omega) (by omega) (by omega) f1 f2 f0 (fun a k c' he => by cases he; exact hbb2) hv4)
    KeepC.trans (KeepC.put (by omega) (by omega) (by omega)) (Below.refl _ _) (fun _ => rfl)
    (AbvInv w2 w2.heap.size w4.heap.size L h) (fun _ _ _ => False) (abvInv_own (by omega) (Nat.le_refl _)) (fun _ _ _ _ _ hs _ _ => hs)
    ⟨hb24, ⟨_, hbx4, World.ownsRow_nil _ _ _ _, by simp⟩, Nat.le_refl _⟩
    (fun y a' W => ∃ Bx, w4.heap.size ≤ Bx ∧ W.heap[Bx]? = some (.cells #[.string y.1.1, .string y.1.2] 33 (0, 0)) ∧ (∃ v, Boxed W w2.heap.size 22 v ∧ v.ownBlock ≠ some Bx) ∧ a' = { tmps := #[.slice (some ⟨b, off, none⟩) L.length c, .string x, .agg #[.string lo, .string hi], .pointer (some ⟨w.heap.size, 0, none⟩), .pointer (some ⟨w.heap.size + 1, 0, none⟩), .pointer (some ⟨w.heap.size + 1 + 1, 0, none⟩), .slice none 0 0, .int .i64 0, .int .i64 0, .int .i64 0, .pointer (some ⟨w2.heap.size, 0, none⟩), .pointer (some ⟨Bx, 0, none⟩), undef, undef, undef, undef, undef, undef, undef, .slice (some ⟨b, off, none⟩) L.length c, .string x, .int .i64 0, .int .i64 0, .bool false, undef, .agg #[.string lo, .string hi], .int .i64 0, .int .i64 0, .bool false, undef, .slice (some ⟨b, off, none⟩) L.length c, .agg #[.string lo, .string hi], .func (.func 130) #[] #[.pointer (some ⟨w3.heap.size + 1, 0, none⟩), .pointer (some ⟨w3.heap.size, 0, none⟩)], .agg #[.string y.1.1, .string y.1.2], undef, undef, undef, undef, undef, undef, undef, undef, undef, undef, undef, undef, undef, undef, undef, undef, undef, undef, undef, undef, undef, undef, undef, undef, undef, undef, undef, undef, undef, undef, undef, undef, undef, undef, undef, undef, undef, undef, undef, undef, undef, undef, undef, undef, undef, undef, undef, undef, undef, undef, undef, undef, undef, undef, undef, undef, undef, undef, undef, undef, undef, undef, undef, undef], defers := [] })
    (fun y a' s X Y row hs hg hr => by obtain ⟨Bx, h1, h2, ⟨v, h4, h5⟩, h3⟩ := hs; exact ⟨Bx, h1, cells_kept hg hr h2, ⟨v, cells_kept hg hr h4, h5⟩, h3⟩) ?assign ?body ?done ?stop
  case assign =>
    intro l pre y W K hI hK
    have hsz1 := hI.sz
    gi_wp2
    exact hK _ _ ((KeepsOthers.alloc _ _).from _) (KeepC.of_below (alloc_below _ _) (by omega) (by omega) (by omega))
      ⟨hI.low.trans ((alloc_below _ _).mono (by omega)), by obtain ⟨v, h1, h2, h3⟩ := hI.out; exact ⟨v, h1.alloc _, owns_below h2 (alloc_below _ _), h3⟩, by simp; omega⟩ ⟨W.heap.size, by omega, World.alloc_heap_new _ _, by obtain ⟨v, h1, h2, h3⟩ := hI.out; exact ⟨v, h1.alloc _, fun h => Nat.lt_irrefl _ (h2.lt _ h).2⟩, rfl⟩
  case body =>
    rintro l pre y a' W hl hr hinv ⟨Bx, hBx, hpb, ⟨ov', hbx', hnr⟩, rfl⟩ hlt
    obtain ⟨hlow, ⟨ov, hbx, hrow, hnil⟩, hszW⟩ := hinv
    obtain rfl : ov = ov' := by
      have := (show W.heap[w2.heap.size]? = _ from hbx').symm.trans hbx
      cases this
      rfl
    have e0 : W.cell? ⟨w.heap.size, 0, none⟩ = some (.slice (some ⟨b, off, none⟩) L.length c) := (hlow.cell (by simp; omega)).trans c0
    have ex : W.cell? ⟨w.heap.size + 1, 0, none⟩ = some (.string x) := (hlow.cell (by simp; omega)).trans cx
    have hgW : Good W := (hw.below HBA2.out).mono hlow (by omega)
    have hvW := ((hv0.below HBA2.out).below (hlow.mono (Nat.le_refl _)))
    have x1 := ratV_isR y.2.1
    have x2 := ratV_isR y.2.2.1
    have xs1 := ratB_size y.2.1
    have xs2 := ratB_size y.2.2.1
    have X1 := Lib.hid x1
    have X2 := Lib.hid x2
    have XX := Lib.hid hx
    have hpl : Bx < W.heap.size := lt_of_some hpb
    have p0 : W.cell? ⟨Bx, 0, none⟩ = some (.string y.1.1) := by simp [World.cell?, hpb]
    have p1 : W.cell? ⟨Bx, 1, none⟩ = some (.string y.1.2) := by simp [World.cell?, hpb]
    have hlw : w.heap.size + 1 < W.heap.size := by omega
    clear x1 x2
    gi_wp2
    refine wpIn_region_held_wide (fun W' => W'.cell? ⟨w.heap.size, 0, none⟩ = some (.slice (some ⟨b, off, none⟩) L.length c) ∧ W'.cell? ⟨w.heap.size + 1, 0, none⟩ = some (.string x) ∧ W'.cell? ⟨Bx, 0, none⟩ = some (.string y.1.1) ∧ W'.cell? ⟨Bx, 1, none⟩ = some (.string y.1.2) ∧ Below W.heap.size W W') (by kernel_rfl) (by kernel_rfl) (FourS.drew e0 ex p0 p1) (fun hHeld => ?_)
    refine wpAnyH_take (i := 0) (v := ?_) rfl (by kernel_rfl) (by kernel_rfl) (by kernel_rfl) (fun _ _ _ h => h) (Or.inl ⟨by rfl, ?_⟩) (by assumption) ?_
    rotate_left
    · intro W' hS'
      obtain ⟨s0, s1, s2, s3, _⟩ := hS'
      go_simp
      try with_reducible rfl
    try simp only [List.getElem_toArray, List.getElem_cons_zero, Act.put, List.setIfInBounds_toArray, List.set_cons_zero, List.set_cons_succ]
    refine wpAnyH_take (i := 1) (v := ?_) rfl (by kernel_rfl) (by kernel_rfl) (by kernel_rfl) (fun _ _ _ h => h) (Or.inl ⟨by rfl, ?_⟩) (by assumption) ?_
    rotate_left
    · intro W' hS'
      obtain ⟨s0, s1, s2, s3, _⟩ := hS'
      go_simp
      try with_reducible rfl
    try simp only [List.getElem_toArray, List.getElem_cons_zero, List.getElem_cons_succ, Act.put, List.setIfInBounds_toArray, List.set_cons_zero, List.set_cons_succ]
    refine wpAnyH_take (i := 2) (v := ?_) rfl (by kernel_rfl) (by kernel_rfl) (by kernel_rfl) (fun _ _ _ h => h) (Or.inl ⟨by rfl, ?_⟩) (by assumption) ?_
    rotate_left
    · intro W' hS'
      obtain ⟨s0, s1, s2, s3, _⟩ := hS'
      go_simp
      try with_reducible rfl
    try simp only [List.getElem_toArray, List.getElem_cons_zero, List.getElem_cons_succ, Act.put, List.setIfInBounds_toArray, List.set_cons_zero, List.set_cons_succ]
    refine wpAnyH_take (i := 4) (v := ?_) rfl (by kernel_rfl) (by kernel_rfl) (by kernel_rfl) (fun _ _ _ h => h) (Or.inl ⟨by rfl, ?_⟩) (by assumption) ?_
    rotate_left
    · intro W' hS'
      obtain ⟨s0, s1, s2, s3, _⟩ := hS'
      go_simp
      try with_reducible rfl
    try simp only [List.getElem_toArray, List.getElem_cons_zero, List.getElem_cons_succ, Act.put, List.setIfInBounds_toArray, List.set_cons_zero, List.set_cons_succ]
    refine wpAnyH_take (i := 6) (v := ?_) rfl (by kernel_rfl) (by kernel_rfl) (by kernel_rfl) (fun _ _ _ h => h) (Or.inl ⟨by rfl, ?_⟩) (by assumption) ?_
    rotate_left
    · intro W' hS'
      obtain ⟨s0, s1, s2, s3, _⟩ := hS'
      go_simp
      try with_reducible rfl
    try simp only [List.getElem_toArray, List.getElem_cons_zero, List.getElem_cons_succ, Act.put, List.setIfInBounds_toArray, List.set_cons_zero, List.set_cons_succ]
    refine wpAnyH_take (i := 7) (v := ?_) rfl (by kernel_rfl) (by kernel_rfl) (by kernel_rfl) (fun _ _ _ h => h) (Or.inl ⟨by rfl, ?_⟩) (by assumption) ?_
    rotate_left
    · intro W' hS'
      obtain ⟨s0, s1, s2, s3, _⟩ := hS'
      go_simp
      try with_reducible rfl
    try simp only [List.getElem_toArray, List.getElem_cons_zero, List.getElem_cons_succ, Act.put, List.setIfInBounds_toArray, List.set_cons_zero, List.set_cons_succ]
    refine wpAnyH_take (i := 8) (v := ?_) rfl (by kernel_rfl) (by kernel_rfl) (by kernel_rfl) (fun _ _ _ h => h) (Or.inl ⟨by rfl, ?_⟩) (by assumption) ?_
    rotate_left
    · intro W' hS'
      obtain ⟨s0, s1, s2, s3, _⟩ := hS'
      go_simp
      try with_reducible rfl
    try simp only [List.getElem_toArray, List.getElem_cons_zero, List.getElem_cons_succ, Act.put, List.setIfInBounds_toArray, List.set_cons_zero, List.set_cons_succ]
    refine wpAnyH_take (i := 10) (v := ?_) rfl (by kernel_rfl) (by kernel_rfl) (by kernel_rfl) (fun _ _ _ h => h) (Or.inl ⟨by rfl, ?_⟩) (by assumption) ?_
    rotate_left
    · intro W' hS'
      obtain ⟨s0, s1, s2, s3, _⟩ := hS'
      go_simp
      try with_reducible rfl
    try simp only [List.getElem_toArray, List.getElem_cons_zero, List.getElem_cons_succ, Act.put, List.setIfInBounds_toArray, List.set_cons_zero, List.set_cons_succ]
    refine wpAnyH_ready (rs := [3]) (by kernel_rfl) (by simp) ?_
    refine AllReadyH.cons rfl (fun K hK => ?_) AllReadyH.nil
    go_simp
    refine (ranges_value _ L y.1.1 _ X1.out (by omega) _ (hgW.below hHeld.2.2.2.2) (hvW.below hHeld.2.2.2.2) HOK.out hasc (by omega) hl0).mono ?_
    rintro e w5 ⟨r1, rfl, hr1, hr1s, hb5⟩
    have hHeld5 := FourS.keep (p1 := ⟨w.heap.size, 0, none⟩) (p2 := ⟨w.heap.size + 1, 0, none⟩) (p3 := ⟨Bx, 0, none⟩) (p4 := ⟨Bx, 1, none⟩) (by simp; omega) hlw hpl hpl hb5 hHeld
    refine hK.out _ _ ?_ (fun hHeld => ?_)
    · exact hHeld5
    clear hK K
    try simp only [List.getElem_toArray, List.getElem_cons_zero, List.getElem_cons_succ, Act.put, List.setIfInBounds_toArray, List.set_cons_zero, List.set_cons_succ]
    refine wpAnyH_ready (rs := [5]) (by kernel_rfl) (by simp) ?_
    refine AllReadyH.cons rfl (fun K hK => ?_) AllReadyH.nil
    go_simp
    refine (rational_Sub r1 x _ _ hr1 XX.out (by omega) (by omega) _ (hgW.below hHeld5.2.2.2.2)).mono ?_
    rintro e w6 ⟨r2, rfl, hr2, hb6⟩
    have hHeld6 := FourS.keep (p1 := ⟨w.heap.size, 0, none⟩) (p2 := ⟨w.heap.size + 1, 0, none⟩) (p3 := ⟨Bx, 0, none⟩) (p4 := ⟨Bx, 1, none⟩) (by simp; omega) hlw hpl hpl hb6 hHeld5
    refine hK.out _ _ ?_ (fun hHeld => ?_)
    · exact hHeld6
    clear hK K
    try simp only [List.getElem_toArray, List.getElem_cons_zero, List.getElem_cons_succ, Act.put, List.setIfInBounds_toArray, List.set_cons_zero, List.set_cons_succ]
    refine wpAnyH_ready (rs := [9]) (by kernel_rfl) (by simp) ?_
    refine AllReadyH.cons rfl (fun K hK => ?_) AllReadyH.nil
    go_simp
    refine (ranges_value _ L y.1.2 _ X2.out (by omega) _ (hgW.below hHeld6.2.2.2.2) (hvW.below hHeld6.2.2.2.2) HOK.out hasc (by omega) hl0).mono ?_
    rintro e w7 ⟨r3, rfl, hr3, hr3s, hb7⟩
    have hHeld7 := FourS.keep (p1 := ⟨w.heap.size, 0, none⟩) (p2 := ⟨w.heap.size + 1, 0, none⟩) (p3 := ⟨Bx, 0, none⟩) (p4 := ⟨Bx, 1, none⟩) (by simp; omega) hlw hpl hpl hb7 hHeld6
    refine hK.out _ _ ?_ (fun hHeld => ?_)
    · exact hHeld7
    clear hK K
    try simp only [List.getElem_toArray, List.getElem_cons_zero, List.getElem_cons_succ, Act.put, List.setIfInBounds_toArray, List.set_cons_zero, List.set_cons_succ]
    refine wpAnyH_ready (rs := [11]) (by kernel_rfl) (by simp) ?_
    refine AllReadyH.cons rfl (fun K hK => ?_) AllReadyH.nil
    go_simp
    refine (rational_Sub r3 x _ _ hr3 XX.out (by omega) (by omega) _ (hgW.below hHeld7.2.2.2.2)).mono ?_
    rintro e w8 ⟨r4, rfl, hr4, hb8⟩
    have hHeld8 := FourS.keep (p1 := ⟨w.heap.size, 0, none⟩) (p2 := ⟨w.heap.size + 1, 0, none⟩) (p3 := ⟨Bx, 0, none⟩) (p4 := ⟨Bx, 1, none⟩) (by simp; omega) hlw hpl hpl hb8 hHeld7
    refine hK.out _ _ ?_ (fun hHeld => ?_)
    · exact hHeld8
    clear hK K
    try simp only [List.getElem_toArray, List.getElem_cons_zero, List.getElem_cons_succ, Act.put, List.setIfInBounds_toArray, List.set_cons_zero, List.set_cons_succ]
    refine wpAnyH_take (i := 12) (v := ?_) rfl (by kernel_rfl) (by kernel_rfl) (by kernel_rfl) (fun _ _ _ h => h) (Or.inl ⟨by rfl, ?_⟩) (by assumption) ?_
    rotate_left
    · intro W' hS'
      obtain ⟨s0, s1, s2, s3, _⟩ := hS'
      go_simp
      try with_reducible rfl
    try simp only [List.getElem_toArray, List.getElem_cons_zero, List.getElem_cons_succ, Act.put, List.setIfInBounds_toArray, List.set_cons_zero, List.set_cons_succ]
    refine wpAnyH_take (i := 13) (v := ?_) rfl (by kernel_rfl) (by kernel_rfl) (by kernel_rfl) (fun _ _ _ h => h) (Or.inl ⟨by rfl, ?_⟩) (by assumption) ?_
    rotate_left
    · intro W' hS'
      obtain ⟨s0, s1, s2, s3, _⟩ := hS'
      go_simp
      try with_reducible rfl
    try simp only [List.getElem_toArray, List.getElem_cons_zero, List.getElem_cons_succ, Act.put, List.setIfInBounds_toArray, List.set_cons_zero, List.set_cons_succ]
    refine wpAnyH_done (by kernel_rfl) ?_ _
    refine NormalOnly.mk ?_
    have hW8 := hHeld8.2.2.2.2
    have v2 := isR_sub_size hr1 XX.out hr2
    have v4 := isR_sub_size hr3 XX.out hr4
    have HR2 := Lib.hid (show IsR r2 (overV L h y.1.1) from hr2)
    have HR4 := Lib.hid (show IsR r4 (overV L h y.1.2) from hr4)
    clear hr1 hr2 hr3 hr4 hHeld hHeld5 hHeld6 hHeld7 hHeld8 e0 ex
    obtain ⟨la, hla⟩ : ∃ la : Bool, la = decide (0 ≤ overV L h y.1.1) := ⟨_, rfl⟩
    obtain ⟨lb, hlb⟩ : ∃ lb : Bool, lb = decide (0 ≤ overV L h y.1.2) := ⟨_, rfl⟩
    have ga : decide (0 ≤ sgnR (overV L h y.1.1)) = la := (sgnR_nonneg _).trans hla.symm
    have gb : decide (0 ≤ sgnR (overV L h y.1.2)) = lb := (sgnR_nonneg _).trans hlb.symm
    have HLA := Lib.hid hla
    have HLB := Lib.hid hlb
    clear hla hlb
    gi_wp2
    refine ⟨trivial, ?_⟩
    refine (CallsIn.inRound l (callsIn_wide.2 (rational_Sign r2 _ HR2.out (by omega) _))).mono ?_
    rintro e w9 ⟨rfl, rfl⟩
    generalize sgnR (overV L h y.1.1) = sa at ga ⊢
    gi_wp2
    refine ⟨trivial, ?_⟩
    refine (CallsIn.inRound l (callsIn_wide.2 (rational_Sign r4 _ HR4.out (by omega) _))).mono ?_
    rintro e w9 ⟨rfl, rfl⟩
    generalize sgnR (overV L h y.1.2) = sb at gb ⊢
    have hsum8 : Boxed w8 w2.heap.size 22 ov := (hW8.block _ hbx.lt).trans hbx
    have hrow8 := owns_below hrow hW8
    have hpb8 := (hW8.block _ hpl).trans hpb
    have hsW8 := hW8.size
    have hg8 := hgW.below hW8
    have hpre : (pre.flatMap aboveP).length ≤ 101 := by have := flat_le pre; omega
    cases la
    · cases lb
      · have HNO := Lib.hid (show aboveP y = [] by
          unfold aboveP
          rw [if_neg]
          rintro ⟨h1 | h1, _⟩
          · exact of_decide_eq_false HLA.out.symm h1
          · exact of_decide_eq_false HLB.out.symm h1)
        have HBX := Lib.hid hsum8
        have HROW := Lib.hid hrow8
        have HNIL := Lib.hid hnil
        clear hsum8 hrow8 hnil hrow
        gi_wp2
        refine ⟨trivial, ?_⟩
        gi_wp2
        have hfl : (pre ++ [y]).flatMap aboveP = pre.flatMap aboveP := by rw [List.flatMap_append, List.flatMap_singleton, HNO.out, List.append_nil]
        refine ⟨keepsFrom_below hW8, KeepC.of_below hW8 (by omega) (by omega) (by omega), hlow.trans (hW8.mono (by omega)), ⟨ov, HBX.out, ?_, ?_⟩, by omega⟩
        · rw [hfl]; exact HROW.out
        · rw [hfl]; exact HNIL.out
      · have q1 : ¬ 0 ≤ overV L h y.1.1 := of_decide_eq_false HLA.out.symm
        have q2 : 0 ≤ overV L h y.1.2 := of_decide_eq_true HLB.out.symm
        have HNE := Lib.hid (show overV L h y.1.1 - overV L h y.1.2 ≠ 0 by
          intro h0
          have h1 := rat_sub_zero h0
          rw [h1] at q1
          exact q1 q2)
        have HOR := Lib.hid (show 0 ≤ overV L h y.1.1 ∨ 0 ≤ overV L h y.1.2 from .inr q2)
        have HXC := Lib.hid (show crossP y = ⟨(⟨(rtext (aboveX L h y.1)).toArray⟩, y.1.2), by simpa using y.2.2.2, y.2.2.1⟩ by
          unfold crossP
          rw [if_neg (by rw [eq_iff_iff]; exact fun h => q1 (h.2 q2)), if_neg q1])
        clear q1 q2
        have HBX := Lib.hid hsum8
        have HROW := Lib.hid hrow8
        clear hsum8 hrow8 hrow
        gi_wp2
        refine ⟨trivial, ?_⟩
        refine (CallsIn.inRound l (callsIn_wide.2 (rational_Sub r2 r4 _ _ HR2.out HR4.out (by omega) (by omega) w8 hg8))).mono ?_
        rintro e w9 ⟨r5, rfl, hr5, hb9⟩
        have v5 := isR_sub_size HR2.out HR4.out hr5
        have HR5 := Lib.hid hr5
        clear hr5
        gi_wp2
        refine ⟨trivial, ?_⟩
        refine (CallsIn.inRound l (callsIn_wide.2 (rational_Div r2 r5 _ _ HR2.out HR5.out HNE.out (by omega) (by omega) _ (hg8.below hb9)))).mono ?_
        rintro e w10 ⟨r6, rfl, hr6, hb10⟩
        have v6 := isR_div_size HR2.out HR5.out hr6
        have HR6 := Lib.hid hr6
        clear hr6
        have hs9 := hb9.size
        have hs10 := hb10.size
        have hb810 := hb9.trans (hb10.mono hs9)
        have hp10 := (hb810.block _ (lt_of_some hpb8)).trans hpb8
        obtain ⟨q1, q2, _, _⟩ := two_cells hp10
        have hpl10 : Bx < w10.heap.size := by omega
        have hg10 := hg8.below hb810
        gi_wp2
        refine wpIn_held_tail_wide (fun W' => W'.cell? ⟨Bx, 0, none⟩ = some (.string y.1.1) ∧ W'.cell? ⟨Bx, 1, none⟩ = some (.string y.1.2) ∧ Below w10.heap.size w10 W') 7 10 (by kernel_rfl) (by decide) (by kernel_rfl) (by kernel_rfl) (ord_drew q1 q2) ?_
        simp only [List.take_succ_cons, List.take_zero, List.drop_succ_cons, List.drop_zero]
        iterate 7
          refine wpTake_step ?_ rfl ?_ ?_
          rotate_left
          · intro W' hS'
            obtain ⟨s0, s1, s2⟩ := hS'
            go_simp
            try with_reducible rfl
          try simp only [Act.put, List.setIfInBounds_toArray, List.set_cons_zero, List.set_cons_succ]
        refine wpTake_nil ?_
        have hH0 := ord_drew q1 q2
        refine wpKeep_step rfl (fun K hK => ?_)
        go_simp
        refine (rational_Sub y.1.2 y.1.1 _ _ X2.out X1.out (by omega) (by omega) _ (hg10.below hH0.2.2)).mono ?_
        rintro e w11 ⟨r7, rfl, hr7, hb11⟩
        have hH1 := ord_keep hpl10 hpl10 hb11 hH0
        have v7 := isR_sub_size X2.out X1.out hr7
        refine hK _ _ ⟨hH1, ?_⟩
        clear hK K
        try simp only [List.getElem_toArray, List.getElem_cons_zero, List.getElem_cons_succ, Act.put, List.setIfInBounds_toArray, List.set_cons_zero, List.set_cons_succ]
        refine wpKeep_step rfl (fun K hK => ?_)
        go_simp
        refine (rational_Mul r6 r7 _ _ HR6.out hr7 (by omega) (by omega) _ (hg10.below hH1.2.2)).mono ?_
        rintro e w12 ⟨r8, rfl, hr8, hb12⟩
        have hH2 := ord_keep hpl10 hpl10 hb12 hH1
        have v8 := isR_mul_size HR6.out hr7 hr8
        refine hK _ _ ⟨hH2, ?_⟩
        clear hK K
        try simp only [List.getElem_toArray, List.getElem_cons_zero, List.getElem_cons_succ, Act.put, List.setIfInBounds_toArray, List.set_cons_zero, List.set_cons_succ]
        refine wpKeep_step rfl (fun K hK => ?_)
        go_simp
        refine (rational_Add y.1.1 r8 _ _ X1.out hr8 (by omega) (by omega) _ (hg10.below hH2.2.2)).mono ?_
        rintro e w13 ⟨r9, rfl, hr9, hb13⟩
        have hH3 := ord_keep hpl10 hpl10 hb13 hH2
        refine hK _ _ ⟨hH3, wpKeep_nil ?_⟩
        clear hK K
        try simp only [List.getElem_toArray, List.getElem_cons_zero, List.getElem_cons_succ, Act.put, List.setIfInBounds_toArray, List.set_cons_zero, List.set_cons_succ]
        have hb1013 := hH3.2.2
        have hW13 := hW8.trans ((hb810.trans (hb1013.mono (by omega))).mono hsW8)
        have hb813 := hb810.trans (hb1013.mono (by omega))
        have hR9 : IsR r9 (aboveX L h y.1) := hr9
        have hrb9 : ratB r9.data.toList = true := by rw [show r9.data.toList = rtext (aboveX L h y.1) from hr9]; exact y.2.2.2
        have xs9 := ratB_size hrb9
        have HRB9 := Lib.hid hrb9
        have HU9 := Lib.hid (ratV_isR hrb9)
        have HQ9 := Lib.hid (hR9.unique (isR_mk _))
        clear hr7 hr8 hr9 hH0 hH1 hH2 hH3 hrb9 hR9
        refine wpKeep_step rfl (fun K hK => ?_)
        go_simp
        refine hK _ _ ⟨trivial, wpKeep_nil ?_⟩
        clear hK K
        try simp only [Act.put, List.setIfInBounds_toArray, List.set_cons_zero, List.set_cons_succ]
        refine NormalOnly.mk ?_
        have hp13 := (hb813.block _ (lt_of_some hpb8)).trans hpb8
        obtain ⟨t1, t2, t3, t4⟩ := two_cells hp13
        have hbx13 : Boxed w13 w2.heap.size 22 ov := (hb813.block _ HBX.out.lt).trans HBX.out
        have hrow13 := owns_below HROW.out hb813
        have hs13 := hW13.size
        obtain ⟨wz, hwz⟩ : ∃ wz, wz = w13.setCell ⟨Bx, 0, none⟩ (.string r9) := ⟨_, rfl⟩
        have hpz : wz.heap[Bx]? = some (.cells #[.string r9, .string y.1.2] 33 (0, 0)) := by rw [hwz]; exact two_set0 _ hp13
        have hq0 : (w13.setCell ⟨Bx, 0, none⟩ (.string r9)).cell? ⟨Bx, 0, none⟩ = some (.string r9) := by rw [← hwz]; exact (two_cells hpz).1
        have hq1 : (w13.setCell ⟨Bx, 0, none⟩ (.string r9)).cell? ⟨Bx, 1, none⟩ = some (.string y.1.2) := by rw [← hwz]; exact (two_cells hpz).2.1
        have hsz' : wz.heap.size = w13.heap.size := by rw [hwz]; simp
        have hszz : w4.heap.size ≤ wz.heap.size := by omega
        have hbxz : Boxed wz w2.heap.size 22 ov := by rw [hwz]; exact (Below.heap_setCell _ _ _ _ (by simp; omega)).trans hbx13
        have hrowz : wz.ownsRow w4.heap.size 33 2 ov (pre.flatMap aboveP).length (cellsP (pre.flatMap aboveP)) := by rw [hwz]; exact ownsRow_setCell_other hrow13 hnr _
        have hlowz : Below w2.heap.size w2 wz := by rw [hwz]; exact (hlow.trans (hW13.mono (by omega))).trans ((Below.refl _ _).setCell (p := ⟨Bx, 0, none⟩) (by simp; omega) _)
        have hkfz : KeepsFrom w4.heap.size W wz := by rw [hwz]; exact (keepsFrom_below hW13).trans ((KeepsOthers.setCell _ _ _).from _)
        have hkcz : KeepC w2.heap.size (w3.heap.size + 1) w3.heap.size W wz := by rw [hwz]; exact (KeepC.of_below hW13 (by omega) (by omega) (by omega)).trans (KeepC.setT _ hp13 (by decide) (by omega) (by omega) (by omega))
        have hgz : Good wz := (hw.below HBA2.out).mono hlowz (by omega)
        have HCR := Lib.hid (show (crossP y).1 = (r9, y.1.2) by rw [HXC.out, HQ9.out])
        obtain ⟨lt, hlt⟩ : ∃ lt : Bool, lt = decide (ratV r9 < ratV y.1.2) := ⟨_, rfl⟩
        have HLT := Lib.hid hlt
        have HWZ := Lib.hid hwz
        have HGZ := Lib.hid hgz
        have HBXZ := Lib.hid (show Boxed wz w2.heap.size 22 ov from hbxz)
        have HROWZ := Lib.hid hrowz
        have HPZ := Lib.hid hpz
        have HLOWZ := Lib.hid hlowz
        have HKFZ := Lib.hid hkfz
        have HKCZ := Lib.hid hkcz
        clear hbxz hrowz hpz hlowz hkfz hkcz hgz hwz hlt hsz' hp13 hbx13 hrow13 hpb8
        gi_wp2
        rw [← HWZ.out]
        refine ⟨trivial, ?_⟩
        refine (CallsIn.inRound l (callsIn_wide.2 (ranges_less r9 y.1.2 _ _ HU9.out X2.out (by omega) (by omega) wz HGZ.out))).mono ?_
        rintro e w20 ⟨rfl, hb20⟩
        rw [← HLT.out]
        have hs20 := hb20.size
        have hbx20 : Boxed w20 w2.heap.size 22 ov := (hb20.block _ HBXZ.out.lt).trans HBXZ.out
        have hrow20 := owns_below HROWZ.out hb20
        have hp20 := (hb20.block _ (lt_of_some HPZ.out)).trans HPZ.out
        have hlow20 := HLOWZ.out.trans (hb20.mono (by omega))
        have hkf20 := HKFZ.out.trans (keepsFrom_below hb20)
        have hkc20 := HKCZ.out.trans (KeepC.of_below hb20 (n₀ := w2.heap.size) (B1 := w3.heap.size + 1) (B2 := w3.heap.size) (by omega) (by omega) (by omega))
        cases lt
        · have HNO := Lib.hid (show aboveP y = [] by
            unfold aboveP
            rw [if_neg]
            rintro ⟨_, h2⟩
            rw [HCR.out] at h2
            exact of_decide_eq_false HLT.out.symm h2)
          have HBX20 := Lib.hid hbx20
          have HROW20 := Lib.hid hrow20
          have HNIL := Lib.hid hnil
          have HP20 := Lib.hid hp20
          clear hbx20 hrow20 hnil hp20
          gi_wp2
          have hfl : (pre ++ [y]).flatMap aboveP = pre.flatMap aboveP := by rw [List.flatMap_append, List.flatMap_singleton, HNO.out, List.append_nil]
          refine ⟨hkf20, hkc20, hlow20, ⟨ov, HBX20.out, ?_, ?_⟩, by omega⟩
          · rw [hfl]; exact HROW20.out
          · rw [hfl]; exact HNIL.out
        · have HYES := Lib.hid (show aboveP y = [crossP y] by
            unfold aboveP
            rw [if_pos]
            refine ⟨HOR.out, ?_⟩
            rw [HCR.out]
            exact of_decide_eq_true HLT.out.symm)
          have HNIL := Lib.hid hnil
          have q0 := hbx20.cell
          obtain ⟨q1, q2, _, _⟩ := two_cells hp20
          obtain ⟨i0, hi, hz0, hz1, hz2⟩ := info_parts slPart.info
          obtain ⟨outs, ho⟩ : ∃ outs, outs = pre.flatMap aboveP := ⟨_, rfl⟩
          rw [← ho] at hrow20
          have hol : outs.length ≤ 101 := by rw [ho]; exact hpre
          have HO := Lib.hid ho
          clear ho hpre
          have HENC := Lib.hid (show encP (crossP y) = [.string r9, .string y.1.2] by unfold encP; rw [HCR.out])
          have HP20 := Lib.hid hp20
          clear hnil hp20
          gi_wp2_with (gi_at_builtin; refine wpListIn_append_own _ rfl _ _ 22 rfl w4.heap.size 33 i0 (.agg #[.string ⟨#[]⟩, .string ⟨#[]⟩]) 2 32 slPart.ht hi hz0 hz1 hz2 rfl (by decide) _ _ _ rfl (hrow20.alloc _) ⟨w20.heap.size, 0, none⟩ 1 1 [.string r9, .string y.1.2] rfl rfl (cell_two_new _ _ _ _) (by simp [Value.oneCell']) (by unfold maxLen; omega) (by omega) (by simp; omega) ?_; intro v' w21 hown' hgrow _; obtain ⟨g', cap', rfl⟩ := ownsRow_succ hown'; obtain ⟨k1, k2, k3, k4, k5, k6⟩ := append_all (B1 := w3.heap.size + 1) (B2 := w3.heap.size) hbx20 hrow20 (by omega) (by omega) (by omega) (by omega) (by omega) (by omega) hown' hgrow; have hc1 := k1.cell; have hf1 := k1.frozen)
          have hfl : (pre ++ [y]).flatMap aboveP = outs ++ [crossP y] := by rw [List.flatMap_append, List.flatMap_singleton, HYES.out, HO.out]
          refine ⟨hkf20.trans (k4.from _), hkc20.trans k5, hlow20.trans k5.1, ⟨_, k2, ?_, ?_⟩, by omega⟩
          · rw [hfl, List.length_append, List.length_singleton, cellsP_snoc, HENC.out]; exact k3
          · rw [hfl]; simp
    · cases lb
      · have q1 : 0 ≤ overV L h y.1.1 := of_decide_eq_true HLA.out.symm
        have q2 : ¬ 0 ≤ overV L h y.1.2 := of_decide_eq_false HLB.out.symm
        have HNE := Lib.hid (show overV L h y.1.1 - overV L h y.1.2 ≠ 0 by
          intro h0
          have h1 := rat_sub_zero h0
          rw [h1] at q1
          exact q2 q1)
        have HOR := Lib.hid (show 0 ≤ overV L h y.1.1 ∨ 0 ≤ overV L h y.1.2 from .inl q1)
        have HXC := Lib.hid (show crossP y = ⟨(y.1.1, ⟨(rtext (aboveX L h y.1)).toArray⟩), y.2.1, by simpa using y.2.2.2⟩ by
          unfold crossP
          rw [if_neg (by rw [eq_iff_iff]; exact fun h => q2 (h.1 q1)), if_pos q1])
        clear q1 q2
        have HBX := Lib.hid hsum8
        have HROW := Lib.hid hrow8
        clear hsum8 hrow8 hrow
        gi_wp2
        refine ⟨trivial, ?_⟩
        refine (CallsIn.inRound l (callsIn_wide.2 (rational_Sub r2 r4 _ _ HR2.out HR4.out (by omega) (by omega) w8 hg8))).mono ?_
        rintro e w9 ⟨r5, rfl, hr5, hb9⟩
        have v5 := isR_sub_size HR2.out HR4.out hr5
        have HR5 := Lib.hid hr5
        clear hr5
        gi_wp2
        refine ⟨trivial, ?_⟩
        refine (CallsIn.inRound l (callsIn_wide.2 (rational_Div r2 r5 _ _ HR2.out HR5.out HNE.out (by omega) (by omega) _ (hg8.below hb9)))).mono ?_
        rintro e w10 ⟨r6, rfl, hr6, hb10⟩
        have v6 := isR_div_size HR2.out HR5.out hr6
        have HR6 := Lib.hid hr6
        clear hr6
        have hs9 := hb9.size
        have hs10 := hb10.size
        have hb810 := hb9.trans (hb10.mono hs9)
        have hp10 := (hb810.block _ (lt_of_some hpb8)).trans hpb8
        obtain ⟨q1, q2, _, _⟩ := two_cells hp10
        have hpl10 : Bx < w10.heap.size := by omega
        have hg10 := hg8.below hb810
        gi_wp2
        refine wpIn_held_tail_wide (fun W' => W'.cell? ⟨Bx, 0, none⟩ = some (.string y.1.1) ∧ W'.cell? ⟨Bx, 1, none⟩ = some (.string y.1.2) ∧ Below w10.heap.size w10 W') 7 10 (by kernel_rfl) (by decide) (by kernel_rfl) (by kernel_rfl) (ord_drew q1 q2) ?_
        simp only [List.take_succ_cons, List.take_zero, List.drop_succ_cons, List.drop_zero]
        iterate 7
          refine wpTake_step ?_ rfl ?_ ?_
          rotate_left
          · intro W' hS'
            obtain ⟨s0, s1, s2⟩ := hS'
            go_simp
            try with_reducible rfl
          try simp only [Act.put, List.setIfInBounds_toArray, List.set_cons_zero, List.set_cons_succ]
        refine wpTake_nil ?_
        have hH0 := ord_drew q1 q2
        refine wpKeep_step rfl (fun K hK => ?_)
        go_simp
        refine (rational_Sub y.1.2 y.1.1 _ _ X2.out X1.out (by omega) (by omega) _ (hg10.below hH0.2.2)).mono ?_
        rintro e w11 ⟨r7, rfl, hr7, hb11⟩
        have hH1 := ord_keep hpl10 hpl10 hb11 hH0
        have v7 := isR_sub_size X2.out X1.out hr7
        refine hK _ _ ⟨hH1, ?_⟩
        clear hK K
        try simp only [List.getElem_toArray, List.getElem_cons_zero, List.getElem_cons_succ, Act.put, List.setIfInBounds_toArray, List.set_cons_zero, List.set_cons_succ]
        refine wpKeep_step rfl (fun K hK => ?_)
        go_simp
        refine (rational_Mul r6 r7 _ _ HR6.out hr7 (by omega) (by omega) _ (hg10.below hH1.2.2)).mono ?_
        rintro e w12 ⟨r8, rfl, hr8, hb12⟩
        have hH2 := ord_keep hpl10 hpl10 hb12 hH1
        have v8 := isR_mul_size HR6.out hr7 hr8
        refine hK _ _ ⟨hH2, ?_⟩
        clear hK K
        try simp only [List.getElem_toArray, List.getElem_cons_zero, List.getElem_cons_succ, Act.put, List.setIfInBounds_toArray, List.set_cons_zero, List.set_cons_succ]
        refine wpKeep_step rfl (fun K hK => ?_)
        go_simp
        refine (rational_Add y.1.1 r8 _ _ X1.out hr8 (by omega) (by omega) _ (hg10.below hH2.2.2)).mono ?_
        rintro e w13 ⟨r9, rfl, hr9, hb13⟩
        have hH3 := ord_keep hpl10 hpl10 hb13 hH2
        refine hK _ _ ⟨hH3, wpKeep_nil ?_⟩
        clear hK K
        try simp only [List.getElem_toArray, List.getElem_cons_zero, List.getElem_cons_succ, Act.put, List.setIfInBounds_toArray, List.set_cons_zero, List.set_cons_succ]
        have hb1013 := hH3.2.2
        have hW13 := hW8.trans ((hb810.trans (hb1013.mono (by omega))).mono hsW8)
        have hb813 := hb810.trans (hb1013.mono (by omega))
        have hR9 : IsR r9 (aboveX L h y.1) := hr9
        have hrb9 : ratB r9.data.toList = true := by rw [show r9.data.toList = rtext (aboveX L h y.1) from hr9]; exact y.2.2.2
        have xs9 := ratB_size hrb9
        have HRB9 := Lib.hid hrb9
        have HU9 := Lib.hid (ratV_isR hrb9)
        have HQ9 := Lib.hid (hR9.unique (isR_mk _))
        clear hr7 hr8 hr9 hH0 hH1 hH2 hH3 hrb9 hR9
        refine wpKeep_step rfl (fun K hK => ?_)
        go_simp
        refine hK _ _ ⟨trivial, wpKeep_nil ?_⟩
        clear hK K
        try simp only [Act.put, List.setIfInBounds_toArray, List.set_cons_zero, List.set_cons_succ]
        refine NormalOnly.mk ?_
        have hp13 := (hb813.block _ (lt_of_some hpb8)).trans hpb8
        obtain ⟨t1, t2, t3, t4⟩ := two_cells hp13
        have hbx13 : Boxed w13 w2.heap.size 22 ov := (hb813.block _ HBX.out.lt).trans HBX.out
        have hrow13 := owns_below HROW.out hb813
        have hs13 := hW13.size
        obtain ⟨wz, hwz⟩ : ∃ wz, wz = w13.setCell ⟨Bx, 1, none⟩ (.string r9) := ⟨_, rfl⟩
        have hpz : wz.heap[Bx]? = some (.cells #[.string y.1.1, .string r9] 33 (0, 0)) := by rw [hwz]; exact two_set1 _ hp13
        have hq0 : (w13.setCell ⟨Bx, 1, none⟩ (.string r9)).cell? ⟨Bx, 0, none⟩ = some (.string y.1.1) := by rw [← hwz]; exact (two_cells hpz).1
        have hq1 : (w13.setCell ⟨Bx, 1, none⟩ (.string r9)).cell? ⟨Bx, 1, none⟩ = some (.string r9) := by rw [← hwz]; exact (two_cells hpz).2.1
        have hsz' : wz.heap.size = w13.heap.size := by rw [hwz]; simp
        have hszz : w4.heap.size ≤ wz.heap.size := by omega
        have hbxz : Boxed wz w2.heap.size 22 ov := by rw [hwz]; exact (Below.heap_setCell _ _ _ _ (by simp; omega)).trans hbx13
        have hrowz : wz.ownsRow w4.heap.size 33 2 ov (pre.flatMap aboveP).length (cellsP (pre.flatMap aboveP)) := by rw [hwz]; exact ownsRow_setCell_other hrow13 hnr _
        have hlowz : Below w2.heap.size w2 wz := by rw [hwz]; exact (hlow.trans (hW13.mono (by omega))).trans ((Below.refl _ _).setCell (p := ⟨Bx, 1, none⟩) (by simp; omega) _)
        have hkfz : KeepsFrom w4.heap.size W wz := by rw [hwz]; exact (keepsFrom_below hW13).trans ((KeepsOthers.setCell _ _ _).from _)
        have hkcz : KeepC w2.heap.size (w3.heap.size + 1) w3.heap.size W wz := by rw [hwz]; exact (KeepC.of_below hW13 (by omega) (by omega) (by omega)).trans (KeepC.setT _ hp13 (by decide) (by omega) (by omega) (by omega))
        have hgz : Good wz := (hw.below HBA2.out).mono hlowz (by omega)
        have HCR := Lib.hid (show (crossP y).1 = (y.1.1, r9) by rw [HXC.out, HQ9.out])
        obtain ⟨lt, hlt⟩ : ∃ lt : Bool, lt = decide (ratV y.1.1 < ratV r9) := ⟨_, rfl⟩
        have HLT := Lib.hid hlt
        have HWZ := Lib.hid hwz
        have HGZ := Lib.hid hgz
        have HBXZ := Lib.hid (show Boxed wz w2.heap.size 22 ov from hbxz)
        have HROWZ := Lib.hid hrowz
        have HPZ := Lib.hid hpz
        have HLOWZ := Lib.hid hlowz
        have HKFZ := Lib.hid hkfz
        have HKCZ := Lib.hid hkcz
        clear hbxz hrowz hpz hlowz hkfz hkcz hgz hwz hlt hsz' hp13 hbx13 hrow13 hpb8
        gi_wp2
        rw [← HWZ.out]
        refine ⟨trivial, ?_⟩
        refine (CallsIn.inRound l (callsIn_wide.2 (ranges_less y.1.1 r9 _ _ X1.out HU9.out (by omega) (by omega) wz HGZ.out))).mono ?_
        rintro e w20 ⟨rfl, hb20⟩
        rw [← HLT.out]
        have hs20 := hb20.size
        have hbx20 : Boxed w20 w2.heap.size 22 ov := (hb20.block _ HBXZ.out.lt).trans HBXZ.out
        have hrow20 := owns_below HROWZ.out hb20
        have hp20 := (hb20.block _ (lt_of_some HPZ.out)).trans HPZ.out
        have hlow20 := HLOWZ.out.trans (hb20.mono (by omega))
        have hkf20 := HKFZ.out.trans (keepsFrom_below hb20)
        have hkc20 := HKCZ.out.trans (KeepC.of_below hb20 (n₀ := w2.heap.size) (B1 := w3.heap.size + 1) (B2 := w3.heap.size) (by omega) (by omega) (by omega))
        cases lt
        · have HNO := Lib.hid (show aboveP y = [] by
            unfold aboveP
            rw [if_neg]
            rintro ⟨_, h2⟩
            rw [HCR.out] at h2
            exact of_decide_eq_false HLT.out.symm h2)
          have HBX20 := Lib.hid hbx20
          have HROW20 := Lib.hid hrow20
          have HNIL := Lib.hid hnil
          have HP20 := Lib.hid hp20
          clear hbx20 hrow20 hnil hp20
          gi_wp2
          have hfl : (pre ++ [y]).flatMap aboveP = pre.flatMap aboveP := by rw [List.flatMap_append, List.flatMap_singleton, HNO.out, List.append_nil]
          refine ⟨hkf20, hkc20, hlow20, ⟨ov, HBX20.out, ?_, ?_⟩, by omega⟩
          · rw [hfl]; exact HROW20.out
          · rw [hfl]; exact HNIL.out
        · have HYES := Lib.hid (show aboveP y = [crossP y] by
            unfold aboveP
            rw [if_pos]
            refine ⟨HOR.out, ?_⟩
            rw [HCR.out]
            exact of_decide_eq_true HLT.out.symm)
          have HNIL := Lib.hid hnil
          have q0 := hbx20.cell
          obtain ⟨q1, q2, _, _⟩ := two_cells hp20
          obtain ⟨i0, hi, hz0, hz1, hz2⟩ := info_parts slPart.info
          obtain ⟨outs, ho⟩ : ∃ outs, outs = pre.flatMap aboveP := ⟨_, rfl⟩
          rw [← ho] at hrow20
          have hol : outs.length ≤ 101 := by rw [ho]; exact hpre
          have HO := Lib.hid ho
          clear ho hpre
          have HENC := Lib.hid (show encP (crossP y) = [.string y.1.1, .string r9] by unfold encP; rw [HCR.out])
          have HP20 := Lib.hid hp20
          clear hnil hp20
          gi_wp2_with (gi_at_builtin; refine wpListIn_append_own _ rfl _ _ 22 rfl w4.heap.size 33 i0 (.agg #[.string ⟨#[]⟩, .string ⟨#[]⟩]) 2 32 slPart.ht hi hz0 hz1 hz2 rfl (by decide) _ _ _ rfl (hrow20.alloc _) ⟨w20.heap.size, 0, none⟩ 1 1 [.string y.1.1, .string r9] rfl rfl (cell_two_new _ _ _ _) (by simp [Value.oneCell']) (by unfold maxLen; omega) (by omega) (by simp; omega) ?_; intro v' w21 hown' hgrow _; obtain ⟨g', cap', rfl⟩ := ownsRow_succ hown'; obtain ⟨k1, k2, k3, k4, k5, k6⟩ := append_all (B1 := w3.heap.size + 1) (B2 := w3.heap.size) hbx20 hrow20 (by omega) (by omega) (by omega) (by omega) (by omega) (by omega) hown' hgrow; have hc1 := k1.cell; have hf1 := k1.frozen)
          have hfl : (pre ++ [y]).flatMap aboveP = outs ++ [crossP y] := by rw [List.flatMap_append, List.flatMap_singleton, HYES.out, HO.out]
          refine ⟨hkf20.trans (k4.from _), hkc20.trans k5, hlow20.trans k5.1, ⟨_, k2, ?_, ?_⟩, by omega⟩
          · rw [hfl, List.length_append, List.length_singleton, cellsP_snoc, HENC.out]; exact k3
          · rw [hfl]; simp
      · have HCR := Lib.hid (show (crossP y).1 = (y.1.1, y.1.2) by
          unfold crossP
          rw [if_pos]
          have q1 : 0 ≤ overV L h y.1.1 := of_decide_eq_true HLA.out.symm
          have q2 : 0 ≤ overV L h y.1.2 := of_decide_eq_true HLB.out.symm
          simp [q1, q2])
        have HOR := Lib.hid (show 0 ≤ overV L h y.1.1 ∨ 0 ≤ overV L h y.1.2 from .inl (of_decide_eq_true HLA.out.symm))
        obtain ⟨lt, hlt⟩ : ∃ lt : Bool, lt = decide (ratV y.1.1 < ratV y.1.2) := ⟨_, rfl⟩
        have HLT := Lib.hid hlt
        obtain ⟨p08, p18, _, _⟩ := two_cells hpb8
        have HGZ := Lib.hid hg8
        have HBXZ := Lib.hid (show Boxed w8 w2.heap.size 22 ov from hsum8)
        have HROWZ := Lib.hid hrow8
        have HPZ := Lib.hid hpb8
        have HLOWZ := Lib.hid (hlow.trans (hW8.mono (by omega)))
        have HKFZ := Lib.hid (show KeepsFrom w4.heap.size W w8 from keepsFrom_below hW8)
        have HKCZ := Lib.hid (KeepC.of_below hW8 (n₀ := w2.heap.size) (B1 := w3.heap.size + 1) (B2 := w3.heap.size) (by omega) (by omega) (by omega))
        clear hsum8 hrow8 hrow hlt hpb8
        gi_wp2
        refine ⟨trivial, ?_⟩
        refine (CallsIn.inRound l (callsIn_wide.2 (ranges_less y.1.1 y.1.2 _ _ X1.out X2.out (by omega) (by omega) w8 HGZ.out))).mono ?_
        rintro e w20 ⟨rfl, hb20⟩
        rw [← HLT.out]
        have hs20 := hb20.size
        have hbx20 : Boxed w20 w2.heap.size 22 ov := (hb20.block _ HBXZ.out.lt).trans HBXZ.out
        have hrow20 := owns_below HROWZ.out hb20
        have hp20 := (hb20.block _ (lt_of_some HPZ.out)).trans HPZ.out
        have hlow20 := HLOWZ.out.trans (hb20.mono (by omega))
        have hkf20 := HKFZ.out.trans (keepsFrom_below hb20)
        have hkc20 := HKCZ.out.trans (KeepC.of_below hb20 (n₀ := w2.heap.size) (B1 := w3.heap.size + 1) (B2 := w3.heap.size) (by omega) (by omega) (by omega))
        cases lt
        · have HNO := Lib.hid (show aboveP y = [] by
            unfold aboveP
            rw [if_neg]
            rintro ⟨_, h2⟩
            rw [HCR.out] at h2
            exact of_decide_eq_false HLT.out.symm h2)
          have HBX20 := Lib.hid hbx20
          have HROW20 := Lib.hid hrow20
          have HNIL := Lib.hid hnil
          have HP20 := Lib.hid hp20
          clear hbx20 hrow20 hnil hp20
          gi_wp2
          have hfl : (pre ++ [y]).flatMap aboveP = pre.flatMap aboveP := by rw [List.flatMap_append, List.flatMap_singleton, HNO.out, List.append_nil]
          refine ⟨hkf20, hkc20, hlow20, ⟨ov, HBX20.out, ?_, ?_⟩, by omega⟩
          · rw [hfl]; exact HROW20.out
          · rw [hfl]; exact HNIL.out
        · have HYES := Lib.hid (show aboveP y = [crossP y] by
            unfold aboveP
            rw [if_pos]
            refine ⟨HOR.out, ?_⟩
            rw [HCR.out]
            exact of_decide_eq_true HLT.out.symm)
          have HNIL := Lib.hid hnil
          have q0 := hbx20.cell
          obtain ⟨q1, q2, _, _⟩ := two_cells hp20
          obtain ⟨i0, hi, hz0, hz1, hz2⟩ := info_parts slPart.info
          obtain ⟨outs, ho⟩ : ∃ outs, outs = pre.flatMap aboveP := ⟨_, rfl⟩
          rw [← ho] at hrow20
          have hol : outs.length ≤ 101 := by rw [ho]; exact hpre
          have HO := Lib.hid ho
          clear ho hpre
          have HENC := Lib.hid (show encP (crossP y) = [.string y.1.1, .string y.1.2] by unfold encP; rw [HCR.out])
          have HP20 := Lib.hid hp20
          clear hnil hp20
          gi_wp2_with (gi_at_builtin; refine wpListIn_append_own _ rfl _ _ 22 rfl w4.heap.size 33 i0 (.agg #[.string ⟨#[]⟩, .string ⟨#[]⟩]) 2 32 slPart.ht hi hz0 hz1 hz2 rfl (by decide) _ _ _ rfl (hrow20.alloc _) ⟨w20.heap.size, 0, none⟩ 1 1 [.string y.1.1, .string y.1.2] rfl rfl (cell_two_new _ _ _ _) (by simp [Value.oneCell']) (by unfold maxLen; omega) (by omega) (by simp; omega) ?_; intro v' w21 hown' hgrow _; obtain ⟨g', cap', rfl⟩ := ownsRow_succ hown'; obtain ⟨k1, k2, k3, k4, k5, k6⟩ := append_all (B1 := w3.heap.size + 1) (B2 := w3.heap.size) hbx20 hrow20 (by omega) (by omega) (by omega) (by omega) (by omega) (by omega) hown' hgrow; have hc1 := k1.cell; have hf1 := k1.frozen)
          have hfl : (pre ++ [y]).flatMap aboveP = outs ++ [crossP y] := by rw [List.flatMap_append, List.flatMap_singleton, HYES.out, HO.out]
          refine ⟨hkf20.trans (k4.from _), hkc20.trans k5, hlow20.trans k5.1, ⟨_, k2, ?_, ?_⟩, by omega⟩
          · rw [hfl, List.length_append, List.length_singleton, cellsP_snoc, HENC.out]; exact k3
          · rw [hfl]; simp
  case done =>
    rintro D ys W hD hS ⟨hlow, ⟨v, hbx, hrow, hnil⟩, hszW⟩ hK
    have hlen : ys.length ≤ 101 := by
      have := stepsP_length hi L lo
      rw [← hS, List.length_map] at this
      omega
    have hlo2 : (ys.flatMap aboveP).length ≤ ys.length := flat_le ys
    obtain ⟨outs, ho⟩ : ∃ outs, outs = ys.flatMap aboveP := ⟨_, rfl⟩
    rw [← ho] at hrow hnil hlo2
    have hgW : Good W := (hw.below HBA2.out).mono hlow (by omega)
    have HS := Lib.hid hS
    have HO := Lib.hid ho
    have hDB : D ≠ w2.heap.size := by omega
    clear hS ho
    by_cases hne : outs = []
    · have hv := hnil.2 hne
      have HNE := Lib.hid hne
      subst hv
      have q1 := hbx.cell
      gi_wp2
      refine ⟨trivial, ?_⟩
      refine (callsIn_wide.2 (joined_nil W)).mono ?_
      rintro e W1 ⟨rfl, hbW1⟩
      have hbx1 : Boxed W1 w2.heap.size 22 (.slice none 0 0) := (hbW1.block _ hbx.lt).trans hbx
      have hK1 : W1.heap[D]? = some (.deferred (some [])) := (hbW1.block _ (lt_of_some hK)).trans hK
      have t1 := hbx1.cell
      have t2 := hbx1.frozen
      have hbs := hbx1.set (.slice none 0 0)
      have hKs : (W1.setCell ⟨w2.heap.size, 0, none⟩ (.slice none 0 0)).heap[D]? = some (.deferred (some [])) := (Below.heap_setCell _ _ _ D hDB).trans hK1
      have hlow1 : Below w2.heap.size w2 (W1.setCell ⟨w2.heap.size, 0, none⟩ (.slice none 0 0)) := (hlow.trans (hbW1.mono (by omega))).trans ((Below.refl _ _).setCell (p := ⟨w2.heap.size, 0, none⟩) (Nat.le_refl _) _)
      have u1 := hbs.cell
      have HKS := Lib.hid hKs
      have HLOW := Lib.hid hlow1
      clear hbs hKs hlow1 hnil hne hrow hbx1 hbW1 hK1 hK hlow hbx
      gi_wp2
      generalize W1.setCell ⟨w2.heap.size, 0, none⟩ (.slice none 0 0) = W2 at HKS HLOW u1 ⊢
      have hKs := HKS.out
      have hlow1 := HLOW.out
      refine ⟨trivial, ?_⟩
      refine (callsIn_wide.2 (has_nil _ W2)).mono ?_
      rintro e W3 ⟨rfl, rfl⟩
      gi_wp2
      refine ⟨by simp, .inl ⟨_, _, rfl, run_takeDeferred hKs, ?_⟩⟩
      refine ⟨_, results_tmp2 rfl _ _ _, .slice none 0 0, ys, [], rfl, HS.out, by rw [← HO.out, HNE.out], List.Pairwise.nil, World.ownsRow_nil _ _ _ _, ?_⟩
      exact (HBA2.out.trans (hlow1.mono HBA2.out.size)).trans (putObj_below _ _ _ (by omega))
    · have hlen0 : 0 < outs.length := List.length_pos_iff.2 hne
      obtain ⟨g, cap, rfl⟩ : ∃ g cap, v = .slice (some ⟨g, 0, none⟩) outs.length cap := by
        rcases hrow.2 with ⟨h, h2⟩ | ⟨g, cap, _, h, _⟩
        · omega
        · exact ⟨g, cap, h⟩
      have hj := joined_body g 0 cap outs W hgW (by omega) hlen0 (pairs_of_owns hrow).1
      have HJ := Lib.hid hj
      have q1 := hbx.cell
      clear hj
      gi_wp2
      refine ⟨trivial, ?_⟩
      refine (callsIn_wide.2 HJ.out).mono ?_
      rintro e W1 ⟨v1, M, rfl, hpm, hpw, hown, hbW1⟩
      have hMne : M ≠ [] := fun h0 => hne (by rw [h0] at hpm; exact List.Perm.nil_eq hpm |>.symm)
      have hmg := mergeP_pos hMne
      have hMl : (mergeP M).length ≤ 1000000 := by have := mergeP_le M; have := hpm.length_eq; omega
      obtain ⟨g1, cap1, rfl⟩ : ∃ g cap, v1 = .slice (some ⟨g, 0, none⟩) (mergeP M).length cap := by
        rcases hown.2 with ⟨h, h2⟩ | ⟨g, cap, _, h, _⟩
        · omega
        · exact ⟨g, cap, h⟩
      have hbxs := hbx.lt
      have hg1b := (hown.lt g1 rfl)
      have hsW1 := hbW1.size
      obtain ⟨w5, hw5⟩ : ∃ w5, w5 = W1.setCell ⟨w2.heap.size, 0, none⟩ (.slice (some ⟨g1, 0, none⟩) (mergeP M).length cap1) := ⟨_, rfl⟩
      have hbx1 : Boxed W1 w2.heap.size 22 (.slice (some ⟨g, 0, none⟩) outs.length cap) := (hbW1.block _ hbx.lt).trans hbx
      have hK1 : W1.heap[D]? = some (.deferred (some [])) := (hbW1.block _ (lt_of_some hK)).trans hK
      have t1 := hbx1.cell
      have t2 := hbx1.frozen
      have hbs := hbx1.set (.slice (some ⟨g1, 0, none⟩) (mergeP M).length cap1)
      have hKs : w5.heap[D]? = some (.deferred (some [])) := by rw [hw5]; exact (Below.heap_setCell _ _ _ D hDB).trans hK1
      have hlow1 : Below w2.heap.size w2 w5 := by rw [hw5]; exact (hlow.trans (hbW1.mono (by omega))).trans ((Below.refl _ _).setCell (p := ⟨w2.heap.size, 0, none⟩) (Nat.le_refl _) _)
      have hown5 : w5.ownsRow W.heap.size 33 2 (.slice (some ⟨g1, 0, none⟩) (mergeP M).length cap1) (mergeP M).length (cellsP (mergeP M)) := by rw [hw5]; exact ownsRow_setCell_other hown (by simp [Value.ownBlock]; omega) _
      have hs5 : w5.heap.size = W1.heap.size := by rw [hw5]; simp
      have hg5 : Good w5 := (hw.below HBA2.out).mono hlow1 (by omega)
      have u1 : w5.cell? ⟨w2.heap.size, 0, none⟩ = some (.slice (some ⟨g1, 0, none⟩) (mergeP M).length cap1) := by rw [hw5]; exact hbs.cell
      have hhas := above_has g1 0 (mergeP M).length cap1 (mergeP M) w5 hg5 rfl hMl (by omega) (fun j u hj => by rw [Nat.zero_add]; exact (owns_row_cells hown5 rfl hj).1)
      have HHAS := Lib.hid hhas
      have U1 := Lib.hid u1
      have HKS := Lib.hid hKs
      have HLOW := Lib.hid hlow1
      have HOWN := Lib.hid hown5
      have HW5 := Lib.hid hw5
      have HPM := Lib.hid hpm
      have HPW := Lib.hid hpw
      have hu : (W1.setCell ⟨w2.heap.size, 0, none⟩ (.slice (some ⟨g1, 0, none⟩) (mergeP M).length cap1)).cell? ⟨w2.heap.size, 0, none⟩ = some (.slice (some ⟨g1, 0, none⟩) (mergeP M).length cap1) := hbs.cell
      have HSW := Lib.hid (show w2.heap.size ≤ W.heap.size by omega)
      clear hbs hKs hlow1 hnil hne hrow hbx1 hbW1 hK1 hK hlow hbx hhas u1 hown5 hw5 hpm hpw hown hMne q1 hs5
      gi_wp2
      rw [← HW5.out]
      refine ⟨trivial, ?_⟩
      refine (callsIn_wide.2 HHAS.out).mono ?_
      rintro e W3 ⟨rfl, hb3'⟩
      have hKF := (hb3'.block _ (lt_of_some HKS.out)).trans HKS.out
      have u3 := (hb3'.cell (p := ⟨w2.heap.size, 0, none⟩) (by have := HLOW.out.size; have := hg5.big; exact World.block_lt_of_cell? w5 _ U1.out)).trans U1.out
      gi_wp2
      refine ⟨by simp, .inl ⟨_, _, rfl, run_takeDeferred hKF, ?_⟩⟩
      refine ⟨_, results_tmp2 rfl _ _ _, _, ys, M, rfl, HS.out, by rw [← HO.out]; exact HPM.out, HPW.out, ?_, ?_⟩
      · exact owns_base (ownsRow_putObj (owns_below HOWN.out hb3') _ hKF rfl) (Nat.le_trans HBA2.out.size HSW.out)
      · exact (HBA2.out.trans ((HLOW.out.trans (hb3'.mono HLOW.out.size)).mono HBA2.out.size)).trans (putObj_below _ _ _ (by omega))
  case stop =>
    rintro D c pre W _ _ h _
    exact h.elim
end Go.Proofs.YtbogpbjddaoeiaaGreatDoor
