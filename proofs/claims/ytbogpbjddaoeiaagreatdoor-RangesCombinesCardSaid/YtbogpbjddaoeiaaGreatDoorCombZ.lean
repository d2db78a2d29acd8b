import Derived.Test.YtbogpbjddaoeiaaGreatDoorBetwZ
import Derived.Test.YtbogpbjddaoeiaaGreatDoorAbove2Z
import Derived.Test.YtbogpbjddaoeiaaGreatDoorJoinZ
namespace Go.Proofs.YtbogpbjddaoeiaaGreatDoor
open Go.RowKit Go.Shelf
open Go.Lib (decDigits itoa nDigits)
attribute [local go_sem] Oper.semAt_some
theorem three_boxesC {w wA : World} {v1 v2 v3 : Value} (hwA : wA = ((w.alloc (Obj.cells #[v1] 22)).alloc (Obj.cells #[v2] 22)).alloc (Obj.cells #[v3] 135)) :
    Below w.heap.size w wA ∧ wA.heap.size = w.heap.size + 3 ∧ wA.cell? ⟨w.heap.size, 0, none⟩ = some v1 ∧ wA.cell? ⟨w.heap.size + 1, 0, none⟩ = some v2 ∧ wA.cell? ⟨w.heap.size + 2, 0, none⟩ = some v3 := by
  obtain ⟨w1, hw1⟩ : ∃ w1, w1 = w.alloc (Obj.cells #[v1] 22) := ⟨_, rfl⟩
  obtain ⟨w2, hw2⟩ : ∃ w2, w2 = w1.alloc (Obj.cells #[v2] 22) := ⟨_, rfl⟩
  rw [← hw1, ← hw2] at hwA
  have s1 : w1.heap.size = w.heap.size + 1 := by rw [hw1]; simp
  have s2 : w2.heap.size = w.heap.size + 2 := by rw [hw2]; simp; omega
  have b1 : Below w.heap.size w w1 := by rw [hw1]; exact alloc_below _ _
  have b2 : Below w1.heap.size w1 w2 := by rw [hw2]; exact alloc_below _ _
  have b3 : Below w2.heap.size w2 wA := by rw [hwA]; exact alloc_below _ _
  have c1 : w1.cell? ⟨w.heap.size, 0, none⟩ = some v1 := by rw [hw1]; exact alloc_cells w #[v1] _ 0 (by simp)
  have c2 : w2.cell? ⟨w.heap.size + 1, 0, none⟩ = some v2 := by rw [hw2, ← s1]; exact alloc_cells w1 #[v2] _ 0 (by simp)
  refine ⟨b1.trans ((b2.mono (by omega)).trans (b3.mono (by omega))), by rw [hwA]; simp; omega, ?_, ?_, ?_⟩
  · rw [b3.cell (by simp; omega), b2.cell (by simp; omega)]; exact c1
  · rw [b3.cell (by simp; omega)]; exact c2
  · rw [hwA, ← s2]; exact alloc_cells w2 #[v3] _ 0 (by simp)
/-- joined's word on any list -/
def JoinAny (L : List RP) (w : World) (e : Ending) (w' : World) : Prop := ∃ (v : Value) (M : List RP), e = .returned v ∧ M.Perm L ∧ M.Pairwise (fun x y => ¬ ratV y.1.1 < ratV x.1.1) ∧ Pairs w' v ((mergeP M).map (·.1)) ∧ Below w.heap.size w w'
theorem joined_any (v : Value) (base : Nat) (L : List RP) (w : World) (hw : Good w) (hlen : L.length ≤ 1000000) (hv : w.ownsRow base 33 2 v L.length (cellsP L)) :
    Calls Tryz.prog 68 #[v] w (JoinAny L w) := by
  by_cases h0 : 0 < L.length
  · obtain ⟨g, cap, rfl⟩ : ∃ g cap, v = .slice (some ⟨g, 0, none⟩) L.length cap := by
      rcases hv.2 with ⟨h, h2⟩ | ⟨g, cap, _, h, _⟩
      · omega
      · exact ⟨g, cap, h⟩
    refine (joined_body g 0 cap L w hw hlen h0 (pairs_of_owns hv).1).mono ?_
    rintro e w' ⟨v', M, h1, h2, h3, h4, h5⟩
    exact ⟨v', M, h1, h2, h3, pairs_of_cells (by rw [List.length_map, ← cellsP_S]; exact h4), h5⟩
  · have hL : L = [] := List.eq_nil_of_length_eq_zero (by omega)
    subst hL
    obtain ⟨a, c, rfl⟩ : ∃ a c, v = .slice a 0 c := by
      rcases hv.2 with ⟨h, _⟩ | ⟨g, cap, _, h, _⟩
      · exact ⟨none, 0, h⟩
      · exact ⟨_, _, h⟩
    refine (joined_empty a c w).mono ?_
    rintro e w' ⟨h1, h2⟩
    exact ⟨.slice none 0 0, [], h1, .refl _, List.Pairwise.nil, ⟨none, 0, rfl, Nat.le_refl _, by decide, fun h => (by simp [mergeP] at h)⟩, h2⟩
/-- what is known between two rounds -/
structure CmbInv (w2 : World) (s0 s1 : Nat) (kp : RP → Bool) (pre : List RP) (W : World) : Prop where
  low : Below s0 w2 W
  out : ∃ v : Value, Boxed W s0 22 v ∧ W.ownsRow s1 33 2 v (pre.filter kp).length (cellsP (pre.filter kp))
  sz : s1 ≤ W.heap.size
theorem cmbInv_own {w2 : World} {s0 s1 B : Nat} {kp : RP → Bool} (hB : s0 ≤ B) (hs : s0 ≤ w2.heap.size) : OwnFrom B (CmbInv w2 s0 s1 kp) := fun s X Y row hs' hg hr => by
  obtain ⟨h1, ⟨v, h2, h3⟩, h5⟩ := hs'
  exact ⟨ownFrom_below (β := Unit) hs hB () _ _ _ h1 hg hr, ⟨v, cells_kept hg hr h2, ownsRow_kept hg hr h3⟩, Nat.le_trans h5 hg.size⟩
/-- behind 'out = append(out, p)' -/
theorem append_allR {W w1 : World} {s0 s1 B1 B2 k m : Nat} {v v' : Value} {xs ys : List Value} {tmp : Obj} (hv : Boxed W s0 22 v) (hrow : W.ownsRow s1 33 2 v k xs) (h01 : s0 < s1) (hs : s1 ≤ W.heap.size)
    (hb1 : B1 < s1) (hb2 : B2 < s1) (hn1 : B1 ≠ s0) (hn2 : B2 ≠ s0) (hown' : w1.ownsRow s1 33 2 v' m ys) (hgrow : (W.alloc tmp).grownBy w1 v.ownBlock) :
    Boxed w1 s0 22 v ∧ Boxed (w1.setCell ⟨s0, 0, none⟩ v') s0 22 v' ∧ (w1.setCell ⟨s0, 0, none⟩ v').ownsRow s1 33 2 v' m ys ∧ KeepsOthers W (w1.setCell ⟨s0, 0, none⟩ v') ∧ KeepR s0 B1 B2 W (w1.setCell ⟨s0, 0, none⟩ v') ∧ W.heap.size ≤ (w1.setCell ⟨s0, 0, none⟩ v').heap.size := by
  obtain ⟨c1, c2, _, c4, c5⟩ := hv.appended (n₀ := s0) (by decide) (owns_base hrow (Nat.le_of_lt h01)) (by omega) (Nat.le_refl _) (owns_base hown' (Nat.le_of_lt h01)) hgrow
  have hg1 : ∀ g, v.ownBlock = some g → s1 ≤ g := fun g hg => by
    rcases hrow.2 with ⟨rfl, _⟩ | ⟨g', cap, cur, rfl, hb, _, _⟩
    · simp [Value.ownBlock] at hg
    · obtain rfl : g' = g := by simpa [Value.ownBlock] using hg
      exact hb
  have hg2 : ∀ g, v'.ownBlock = some g → s1 ≤ g := fun g hg => by
    rcases hown'.2 with ⟨rfl, _⟩ | ⟨g', cap, cur, rfl, hb, _, _⟩
    · simp [Value.ownBlock] at hg
    · obtain rfl : g' = g := by simpa [Value.ownBlock] using hg
      exact hb
  have one : ∀ k, k ≠ s0 → k < W.heap.size → some k ≠ v.ownBlock → (w1.setCell ⟨s0, 0, none⟩ v').heap[k]? = W.heap[k]? := fun k hk hkl hkr => by
    rw [Below.heap_setCell _ _ _ k hk, hgrow.block k (by simp; omega) hkr]
    exact (alloc_below W tmp).block k hkl
  refine ⟨c1, c2, ownsRow_setCell_other hown' (fun h => ?_) _, c4, ⟨c5, fun k hk => ?_, fun k c fz hk => ?_⟩, c5.size⟩
  · have := hg2 _ h
    dsimp only at this
    omega
  · refine one k (by omega) (by omega) (fun h => ?_)
    have := hg1 _ h.symm
    omega
  · rw [one k ?_ (lt_of_some hk) ?_]
    · exact hk
    · intro e
      subst e
      rw [show W.heap[k]? = _ from hv] at hk
      cases hk
    · intro h
      rcases hrow.2 with ⟨rfl, _⟩ | ⟨g', cap, cur, rfl, hb, hgb, _⟩
      · simp [Value.ownBlock] at h
      · obtain rfl : k = g' := by simpa [Value.ownBlock] using h
        rw [hgb] at hk
        cases hk
theorem pairs_putObj {W : World} {v : Value} {L : List Pair} {D : Nat} {o : Obj} {x : Option (List Deferred)} (hp : Pairs W v L) (hD : W.heap[D]? = some (.deferred x)) : Pairs (W.putObj D o) v L := by
  obtain ⟨p, c, hv, hc, hm, hx⟩ := hp
  refine ⟨p, c, hv, hc, hm, fun h0 => ?_⟩
  obtain ⟨b, off, hp, hbl, hcell⟩ := hx h0
  have hne : b ≠ D := by
    intro e
    subst e
    have := (hcell 0 h0).1
    simp [World.cell?, hD] at this
  refine ⟨b, off, hp, by simpa [World.putObj] using hbl, fun i hi => ?_⟩
  have hblk : ∀ a : Addr, a.block = b → (W.putObj D o).cell? a = W.cell? a := fun a ha => World.cell?_of_block (by
    simp only [World.putObj]
    rw [Array.getElem?_setIfInBounds, if_neg (by omega)])
  rw [hblk _ rfl, hblk _ rfl]
  exact hcell i hi
theorem pairs_setBox {W : World} {v u a : Value} {L : List Pair} {s0 : Nat} {t : TypeId} (hp : Pairs W v L) (hb : Boxed W s0 t a) (ha : ∀ s, a ≠ .string s) : Pairs (W.setCell ⟨s0, 0, none⟩ u) v L := by
  obtain ⟨p, c, hv, hc, hm, hx⟩ := hp
  refine ⟨p, c, hv, hc, hm, fun h0 => ?_⟩
  obtain ⟨b, off, hp, hbl, hcell⟩ := hx h0
  have hne : b ≠ s0 := by
    intro e
    subst e
    have h1 := (hcell 0 h0).1
    have h2 : W.heap[b]? = some (.cells #[a] t (0, 0)) := hb
    simp only [World.cell?, h2, Nat.zero_mul, Nat.add_zero] at h1
    rcases Nat.eq_zero_or_pos off with h3 | h3
    · subst h3
      exact ha _ (by simpa using h1)
    · rw [Array.getElem?_eq_none (by simp; omega)] at h1
      cases h1
  refine ⟨b, off, hp, by simpa using hbl, fun i hi => ?_⟩
  have hblk : ∀ x : Addr, x.block = b → (W.setCell ⟨s0, 0, none⟩ u).cell? x = W.cell? x := fun x hx => World.cell?_of_block (Below.heap_setCell _ _ _ _ (by rw [hx]; exact hne))
  rw [hblk _ rfl, hblk _ rfl]
  exact hcell i hi
theorem isR_mid_size {s t r : ByteArray} {p q : Rat} (h : IsR s p) (k : IsR t q) (hr : IsR r ((p + q) * (1 / 2))) : r.size ≤ 2 * (s.size + t.size) + 11 := by
  have h1 := isR_add_size h k (isR_mk (p + q))
  have h2 := isR_mul_size (isR_mk (p + q)) isR_half hr
  have h3 : (⟨#[49, 47, 50]⟩ : ByteArray).size = 3 := rfl
  omega
/-- combine's word on right unions -/
def CombPost (keep : Bool → Bool → Bool) (LA LB : List RP) (w : World) (e : Ending) (w' : World) : Prop :=
  ∃ (v : Value) (E : List TP) (M : List RP), EndsOf LA LB E ∧ M.Perm ((piecesT E).filter (fun x => keepP keep (LA.map (·.1)) (LB.map (·.1)) x.1)) ∧ M.Pairwise (fun x y => ¬ ratV y.1.1 < ratV x.1.1) ∧ ((mergeP M).length ≤ 200 → e = .returned (.tuple #[v, .int .i64 0])) ∧ Pairs w' v ((mergeP M).map (·.1)) ∧ Below w.heap.size w w'
set_option maxRecDepth 100000 in
set_option maxHeartbeats 8000000 in
theorem ranges_combine (va vb : Value) (kf : FuncId) (keep : Bool → Bool → Bool) (LA LB : List RP) (w : World) (hw : Good w) (hA : Pairs w va (LA.map (·.1))) (hB : Pairs w vb (LB.map (·.1))) (kA : checkErr (LA.map (·.1)) = 0) (kB : checkErr (LB.map (·.1)) = 0)
    (eg : ∀ args w, (callFunc kf args).run Tryz.prog w = .ok (.enter kf args) w) (hkf : ∀ x y w, Calls Tryz.prog kf #[.bool x, .bool y] w fun e w' => e = .returned (.bool (keep x y)) ∧ w' = w) :
    CallsIn Fence.wide 9 Tryz.prog 90 #[va, vb, .func (.func kf) #[] #[]] w (CombPost keep LA LB w) := by
  have la : LA.length ≤ 200 := by have := (checkErr_ok kA).2; rwa [List.length_map] at this
  have lb : LB.length ≤ 200 := by have := (checkErr_ok kB).2; rwa [List.length_map] at this
  have hsA' := szOk_of (checkErr_ok kA).1
  have hsB' := szOk_of (checkErr_ok kB).1
  have HA := Lib.hid hA
  have HB := Lib.hid hB
  obtain ⟨wA, hwA⟩ : ∃ wA, wA = ((w.alloc (Obj.cells #[va] 22)).alloc (Obj.cells #[vb] 22)).alloc (Obj.cells #[.func (.func kf) #[] #[]] 135) := ⟨_, rfl⟩
  obtain ⟨hA0, hsA, a0, a1, a2⟩ := three_boxesC hwA
  have hgA : Good wA := hw.below hA0
  have HCK := Lib.hid (ranges_checkBoth va vb _ _ wA hgA (HA.out.below hA0) (HB.out.below hA0) hsA' hsB')
  have hbo : bothErr (LA.map (·.1)) (LB.map (·.1)) = 0 := by unfold bothErr; rw [if_pos kA]; exact kB
  rw [hbo] at HCK
  obtain ⟨pa, ca, rfl, hza⟩ := hA
  obtain ⟨pb, cb, rfl, hzb⟩ := hB
  clear hza hzb
  obtain ⟨na, hna⟩ : ∃ na, (LA.map (·.1)).length = na := ⟨_, rfl⟩
  obtain ⟨nb, hnb⟩ : ∃ nb, (LB.map (·.1)).length = nb := ⟨_, rfl⟩
  rw [hna] at hwA HCK a0 HA ⊢
  rw [hnb] at hwA HCK a1 HB ⊢
  clear hna hnb hbo kA kB hsA' hsB'
  refine callsIn_of_wp_marks Tryz.func90 rfl trivial ?_ rfl
  simp only [Tryz.ntmps90, List.size_toArray, List.length_cons, List.length_nil, Nat.reduceAdd, Nat.reduceSub, Array.replicate_succ, Array.replicate_zero, List.push_toArray, List.append_toArray, List.nil_append, List.cons_append]
  gi_wp2
  rw [← hwA]
  refine ⟨trivial, ?_⟩
  refine (callsIn_wide.2 HCK.out).mono ?_
  rintro e w2 ⟨rfl, hb2⟩
  have hs2 := hb2.size
  have c0 := (hb2.cell (p := ⟨w.heap.size, 0, none⟩) (by simp; omega)).trans a0
  have c1 := (hb2.cell (p := ⟨w.heap.size + 1, 0, none⟩) (by simp; omega)).trans a1
  have c2 := (hb2.cell (p := ⟨w.heap.size + 2, 0, none⟩) (by simp; omega)).trans a2
  obtain ⟨w3, hw3⟩ : ∃ w3, w3 = w2.alloc (Obj.cells #[.slice none 0 0] 22) := ⟨_, rfl⟩
  have hb3 : Below w2.heap.size w2 w3 := by rw [hw3]; exact alloc_below _ _
  have hs3 : w3.heap.size = w2.heap.size + 1 := by rw [hw3]; simp
  have d0 := (hb3.cell (p := ⟨w.heap.size, 0, none⟩) (by simp; omega)).trans c0
  have d1 := (hb3.cell (p := ⟨w.heap.size + 1, 0, none⟩) (by simp; omega)).trans c1
  have hbx3 : Boxed w3 w2.heap.size 22 (.slice none 0 0) := by rw [hw3]; exact Boxed.new _ _ _
  rw [hw3] at d0 d1
  gi_wp2
  rw [← hw3]
  refine ⟨trivial, ?_⟩
  refine (between_in _ _ _ _ _ _ _ _).mono ?_
  rintro e w4 ⟨rfl, hw4⟩
  have HW4 := Lib.hid hw4
  have HW3 := Lib.hid hw3
  have HS3 := Lib.hid hs3
  clear hw4 hw3 hs3
  gi_wp2
  have hs3 := HS3.out
  have hb4 : Below w3.heap.size w3 w4 := by rw [HW4.out]; exact (alloc_below _ _).trans ((alloc_below _ _).mono (by simp))
  have hs4 : w4.heap.size = w3.heap.size + 2 := by rw [HW4.out]; simp
  have f0 : w4.cell? ⟨w3.heap.size, 0, none⟩ = some (.slice pa na ca) := by
    rw [HW4.out, (alloc_below _ _).cell (by simp)]; exact alloc_cells w3 #[_] _ 0 (by simp)
  have f1 : w4.cell? ⟨w3.heap.size + 1, 0, none⟩ = some (.slice pb nb cb) := by
    rw [HW4.out, show w3.heap.size + 1 = (w3.alloc (Obj.cells #[.slice pa na ca] 22)).heap.size by simp]; exact alloc_cells _ #[_] _ 0 (by simp)
  have hbA2 : Below w.heap.size w w2 := hA0.trans (hb2.mono (by omega))
  have hb24 : Below w2.heap.size w2 w4 := hb3.trans (hb4.mono hb3.size)
  have hg4 : Good w4 := (hw.below hbA2).below hb24
  have hA2 := HA.out.below hbA2
  have hB2 := HB.out.below hbA2
  have hA4 := hA2.below hb24
  have hB4 := hB2.below hb24
  have hbx4 : Boxed w4 w2.heap.size 22 (.slice none 0 0) := (hb4.block _ hbx3.lt).trans hbx3
  have HBA2 := Lib.hid hbA2
  have hbig := hw.big
  have hs3a : w3.heap.size ≤ w2.heap.size + 1 := by omega
  have hs3b : w2.heap.size + 1 ≤ w3.heap.size := by omega
  have hs4a : w4.heap.size ≤ w3.heap.size + 2 := by omega
  have hs4b : w3.heap.size + 2 ≤ w4.heap.size := by omega
  have hsAa : w.heap.size + 3 ≤ wA.heap.size := by omega
  obtain ⟨kp, hkp⟩ : ∃ kp : RP → Bool, kp = fun x : RP => keepP keep (LA.map (·.1)) (LB.map (·.1)) x.1 := ⟨_, rfl⟩
  have HKP := Lib.hid hkp
  clear HW4 HW3 HS3 hwA a0 a1 a2 d0 d1 hs3 hs4 hsA hkp
  refine wpIn_rangeFunc_ownH (n := 9) rfl (by decide) (gf := 170) (lb := #[.pointer (some ⟨w3.heap.size, 0, none⟩), .pointer (some ⟨w3.heap.size + 1, 0, none⟩)]) rfl trivial (enters_of Tryz.func170 (by kernel_rfl) rfl)
    (between_stops 8 (by decide) w3.heap.size (w3.heap.size + 1) w2.heap.size _ _ LA LB (by omega) (by omega) w4 hg4 (by omega) (by omega) (by omega) (by omega) f0 f1 hA4 hB4)
    KeepR.trans (KeepR.put (by omega) (by omega) (by omega)) (Below.refl _ _) (fun _ => rfl)
    (CmbInv w2 w2.heap.size w4.heap.size kp) (fun _ _ _ => False) (cmbInv_own (by omega) (Nat.le_refl _)) (fun _ _ _ _ _ hs _ _ => hs)
    ⟨hb24, ⟨_, hbx4, World.ownsRow_nil _ _ _ _⟩, Nat.le_refl _⟩
    (fun y a' W => ∃ Bx, w4.heap.size ≤ Bx ∧ W.heap[Bx]? = some (.cells #[.string y.1.1, .string y.1.2] 33 (0, 0)) ∧ (∃ v, Boxed W w2.heap.size 22 v ∧ v.ownBlock ≠ some Bx) ∧ a' = { tmps := #[.slice pa na ca, .slice pb nb cb, .func (.func kf) #[] #[], .pointer (some ⟨w.heap.size, 0, none⟩), .pointer (some ⟨w.heap.size + 1, 0, none⟩), .pointer (some ⟨w.heap.size + 1 + 1, 0, none⟩), .slice none 0 0, .int .i64 0, .int .i64 0, .pointer (some ⟨w2.heap.size, 0, none⟩), .pointer (some ⟨Bx, 0, none⟩), undef, .slice pa na ca, .slice pb nb cb, .int .i64 0, .int .i64 0, .bool false, undef, .slice pa na ca, .slice pb nb cb, .func (.func 170) #[] #[.pointer (some ⟨w3.heap.size, 0, none⟩), .pointer (some ⟨w3.heap.size + 1, 0, none⟩)], .agg #[.string y.1.1, .string y.1.2], undef, undef, undef, undef, undef, undef, undef, undef, undef, undef, undef, undef, undef, undef, undef, undef, undef, undef, undef, undef, undef, undef, undef], defers := [] })
    (fun y a' s X Y row hs hg hr => by obtain ⟨Bx, h1, h2, ⟨v, h4, h5⟩, h3⟩ := hs; exact ⟨Bx, h1, cells_kept hg hr h2, ⟨v, cells_kept hg hr h4, h5⟩, h3⟩) ?assign ?body ?done ?stop
  case assign =>
    intro l pre y W K hI hK
    have hsz1 := hI.sz
    gi_wp2
    exact hK _ _ ((KeepsOthers.alloc _ _).from _) (KeepR.of_below (alloc_below _ _) (by omega) (by omega) (by omega))
      ⟨hI.low.trans ((alloc_below _ _).mono (by omega)), by obtain ⟨v, h1, h2⟩ := hI.out; exact ⟨v, h1.alloc _, owns_below h2 (alloc_below _ _)⟩, by simp; omega⟩ ⟨W.heap.size, by omega, World.alloc_heap_new _ _, by obtain ⟨v, h1, h2⟩ := hI.out; exact ⟨v, h1.alloc _, fun h => Nat.lt_irrefl _ (h2.lt _ h).2⟩, rfl⟩
  case body =>
    rintro l pre y a' W hl hr hinv ⟨Bx, hBx, hpb, ⟨ov', hbx', hnr⟩, rfl⟩ hlt
    obtain ⟨hlow, ⟨ov, hbx, hrow⟩, hszW⟩ := hinv
    obtain rfl : ov = ov' := by
      have := (show W.heap[w2.heap.size]? = _ from hbx').symm.trans hbx
      cases this
      rfl
    have e0 : W.cell? ⟨w.heap.size, 0, none⟩ = some (.slice pa na ca) := (hlow.cell (by simp; omega)).trans c0
    have e1 : W.cell? ⟨w.heap.size + 1, 0, none⟩ = some (.slice pb nb cb) := (hlow.cell (by simp; omega)).trans c1
    have e2 : W.cell? ⟨w.heap.size + 2, 0, none⟩ = some (.func (.func kf) #[] #[]) := (hlow.cell (by simp; omega)).trans c2
    have hgW : Good W := (hw.below HBA2.out).mono hlow (by omega)
    have hAW := hA2.below hlow
    have hBW := hB2.below hlow
    have x1 := ratV_isR y.2.1
    have x2 := ratV_isR y.2.2
    have xs1 := ratB_size y.2.1
    have xs2 := ratB_size y.2.2
    have X1 := Lib.hid x1
    have X2 := Lib.hid x2
    have hpl : Bx < W.heap.size := lt_of_some hpb
    have p0 : W.cell? ⟨Bx, 0, none⟩ = some (.string y.1.1) := by simp [World.cell?, hpb]
    have p1 : W.cell? ⟨Bx, 1, none⟩ = some (.string y.1.2) := by simp [World.cell?, hpb]
    clear x1 x2
    gi_wp2
    refine ⟨trivial, ?_⟩
    refine (CallsIn.inRound l (callsIn_wide.2 (rational_Middle y.1.1 y.1.2 _ _ X1.out X2.out (by omega) (by omega) W hgW))).mono ?_
    rintro e w5 ⟨r1, rfl, hr1, hb5⟩
    have v1 := isR_mid_size X1.out X2.out hr1
    have HR1 := Lib.hid (show IsR r1 (midP y.1) from hr1)
    have hs5 := hb5.size
    have g0 := (hb5.cell (p := ⟨w.heap.size, 0, none⟩) (by simp; omega)).trans e0
    have g1 := (hb5.cell (p := ⟨w.heap.size + 1, 0, none⟩) (by simp; omega)).trans e1
    have g2 := (hb5.cell (p := ⟨w.heap.size + 2, 0, none⟩) (by simp; omega)).trans e2
    have hg5 := hgW.below hb5
    have hA5 := hAW.below hb5
    have hB5 := hBW.below hb5
    clear hr1 e0 e1 e2
    gi_wp2
    refine wpIn_region_held_wide (fun W' => W'.cell? ⟨w.heap.size + 2, 0, none⟩ = some (.func (.func kf) #[] #[]) ∧ W'.cell? ⟨w.heap.size, 0, none⟩ = some (.slice pa na ca) ∧ W'.cell? ⟨w.heap.size + 1, 0, none⟩ = some (.slice pb nb cb) ∧ Below w5.heap.size w5 W') (by kernel_rfl) (by kernel_rfl) ⟨g2, g0, g1, rfl, rfl, rfl, Nat.le_refl _, fun _ _ => rfl⟩ (fun hHeld => ?_)
    refine wpAnyH_take (i := 0) (v := ?_) rfl (by kernel_rfl) (by kernel_rfl) (by kernel_rfl) (fun _ _ _ h => h) (Or.inl ⟨by rfl, ?_⟩) (by assumption) ?_
    rotate_left
    · intro W' hS'
      obtain ⟨s0, s1, s2, _⟩ := hS'
      go_simp
      try with_reducible rfl
    try simp only [List.getElem_toArray, List.getElem_cons_zero, Act.put, List.setIfInBounds_toArray, List.set_cons_zero, List.set_cons_succ]
    refine wpAnyH_take (i := 1) (v := ?_) rfl (by kernel_rfl) (by kernel_rfl) (by kernel_rfl) (fun _ _ _ h => h) (Or.inl ⟨by rfl, ?_⟩) (by assumption) ?_
    rotate_left
    · intro W' hS'
      obtain ⟨s0, s1, s2, _⟩ := hS'
      go_simp
      try with_reducible rfl
    try simp only [List.getElem_toArray, List.getElem_cons_zero, List.getElem_cons_succ, Act.put, List.setIfInBounds_toArray, List.set_cons_zero, List.set_cons_succ]
    refine wpAnyH_take (i := 2) (v := ?_) rfl (by kernel_rfl) (by kernel_rfl) (by kernel_rfl) (fun _ _ _ h => h) (Or.inl ⟨by rfl, ?_⟩) (by assumption) ?_
    rotate_left
    · intro W' hS'
      obtain ⟨s0, s1, s2, _⟩ := hS'
      go_simp
      try with_reducible rfl
    try simp only [List.getElem_toArray, List.getElem_cons_zero, List.getElem_cons_succ, Act.put, List.setIfInBounds_toArray, List.set_cons_zero, List.set_cons_succ]
    refine wpAnyH_take (i := 4) (v := ?_) rfl (by kernel_rfl) (by kernel_rfl) (by kernel_rfl) (fun _ _ _ h => h) (Or.inl ⟨by rfl, ?_⟩) (by assumption) ?_
    rotate_left
    · intro W' hS'
      obtain ⟨s0, s1, s2, _⟩ := hS'
      go_simp
      try with_reducible rfl
    try simp only [List.getElem_toArray, List.getElem_cons_zero, List.getElem_cons_succ, Act.put, List.setIfInBounds_toArray, List.set_cons_zero, List.set_cons_succ]
    refine wpAnyH_take (i := 5) (v := ?_) rfl (by kernel_rfl) (by kernel_rfl) (by kernel_rfl) (fun _ _ _ h => h) (Or.inl ⟨by rfl, ?_⟩) (by assumption) ?_
    rotate_left
    · intro W' hS'
      obtain ⟨s0, s1, s2, _⟩ := hS'
      go_simp
      try with_reducible rfl
    try simp only [List.getElem_toArray, List.getElem_cons_zero, List.getElem_cons_succ, Act.put, List.setIfInBounds_toArray, List.set_cons_zero, List.set_cons_succ]
    refine wpAnyH_ready (rs := [3]) (by kernel_rfl) (by simp) ?_
    refine AllReadyH.cons rfl (fun K hK => ?_) AllReadyH.nil
    go_simp
    refine (ranges_has r1 _ HR1.out (by omega) _ LA _ (hg5.below hHeld.2.2.2) (hA5.below hHeld.2.2.2) (by omega)).mono ?_
    rintro e w6 ⟨rfl, hb6⟩
    have hHeld6 := three_keep (p1 := ⟨w.heap.size + 2, 0, none⟩) (p2 := ⟨w.heap.size, 0, none⟩) (p3 := ⟨w.heap.size + 1, 0, none⟩) (by simp; omega) (by simp; omega) (by simp; omega) hb6 hHeld
    refine hK.out _ _ ?_ (fun hHeld => ?_)
    · exact hHeld6
    clear hK K
    try simp only [List.getElem_toArray, List.getElem_cons_zero, List.getElem_cons_succ, Act.put, List.setIfInBounds_toArray, List.set_cons_zero, List.set_cons_succ]
    refine wpAnyH_ready (rs := [6]) (by kernel_rfl) (by simp) ?_
    refine AllReadyH.cons rfl (fun K hK => ?_) AllReadyH.nil
    go_simp
    refine (ranges_has r1 _ HR1.out (by omega) _ LB _ (hg5.below hHeld6.2.2.2) (hB5.below hHeld6.2.2.2) (by omega)).mono ?_
    rintro e w7 ⟨rfl, hb7⟩
    have hHeld7 := three_keep (p1 := ⟨w.heap.size + 2, 0, none⟩) (p2 := ⟨w.heap.size, 0, none⟩) (p3 := ⟨w.heap.size + 1, 0, none⟩) (by simp; omega) (by simp; omega) (by simp; omega) hb7 hHeld6
    refine hK.out _ _ ?_ (fun hHeld => ?_)
    · exact hHeld7
    clear hK K
    try simp only [List.getElem_toArray, List.getElem_cons_zero, List.getElem_cons_succ, Act.put, List.setIfInBounds_toArray, List.set_cons_zero, List.set_cons_succ]
    have HK := Lib.hid (show keep (hasV (LA.map (·.1)) (midP y.1)) (hasV (LB.map (·.1)) (midP y.1)) = kp y by rw [HKP.out]; rfl)
    generalize hasV (LA.map (·.1)) (midP y.1) = ha at *
    generalize hasV (LB.map (·.1)) (midP y.1) = hb at *
    refine wpAnyH_ready (rs := [7]) (by kernel_rfl) (by simp) ?_
    refine AllReadyH.cons rfl (fun K hK => ?_) AllReadyH.nil
    go_simp
    refine (hkf _ _ _).mono ?_
    rintro e w8 ⟨rfl, rfl⟩
    rw [HK.out]
    refine hK.out _ _ ?_ (fun hHeld => ?_)
    · exact hHeld7
    clear hK K
    try simp only [List.getElem_toArray, List.getElem_cons_zero, List.getElem_cons_succ, Act.put, List.setIfInBounds_toArray, List.set_cons_zero, List.set_cons_succ]
    refine wpAnyH_done (by kernel_rfl) ?_ _
    refine NormalOnly.mk ?_
    have hW8 := hb5.trans (hHeld7.2.2.2.mono hs5)
    clear hHeld hHeld6 hHeld7 g0 g1 g2 HR1 hb6 hb7
    have hbx8 : Boxed w8 w2.heap.size 22 ov := (hW8.block _ hbx.lt).trans hbx
    have hrow8 := owns_below hrow hW8
    have hpb8 := (hW8.block _ hpl).trans hpb
    have hsW8 := hW8.size
    have hpre : (pre.filter kp).length ≤ pre.length := List.length_filter_le _ _
    cases hy : kp y
    · have HNO := Lib.hid (show (pre ++ [y]).filter kp = pre.filter kp by rw [List.filter_append, List.filter_cons, hy]; simp)
      have HBX := Lib.hid hbx8
      have HROW := Lib.hid hrow8
      clear hbx8 hrow8 hrow hbx hy
      gi_wp2
      refine ⟨keepsFrom_below hW8, KeepR.of_below hW8 (by omega) (by omega) (by omega), hlow.trans (hW8.mono (by omega)), ⟨ov, HBX.out, ?_⟩, by omega⟩
      rw [HNO.out]; exact HROW.out
    · have HYES := Lib.hid (show (pre ++ [y]).filter kp = pre.filter kp ++ [y] by rw [List.filter_append, List.filter_cons, hy]; simp)
      have q0 := hbx8.cell
      obtain ⟨q1, q2, _, _⟩ := two_cells hpb8
      obtain ⟨i0, hi, hz0, hz1, hz2⟩ := info_parts slPart.info
      obtain ⟨outs, ho⟩ : ∃ outs, outs = pre.filter kp := ⟨_, rfl⟩
      rw [← ho] at hrow8 hpre
      have hol : outs.length ≤ 1000 := by omega
      have HO := Lib.hid ho
      clear ho hpre hy
      have HP8 := Lib.hid hpb8
      clear hpb8 hbx hrow
      gi_wp2_with (gi_at_builtin; refine wpListIn_append_own _ rfl _ _ 22 rfl w4.heap.size 33 i0 (.agg #[.string ⟨#[]⟩, .string ⟨#[]⟩]) 2 32 slPart.ht hi hz0 hz1 hz2 rfl (by decide) _ _ _ rfl (hrow8.alloc _) ⟨w8.heap.size, 0, none⟩ 1 1 [.string y.1.1, .string y.1.2] rfl rfl (cell_two_new _ _ _ _) (by simp [Value.oneCell']) (by unfold maxLen; omega) (by omega) (by simp; omega) ?_; intro v' w21 hown' hgrow _; obtain ⟨g', cap', rfl⟩ := ownsRow_succ hown'; obtain ⟨k1, k2, k3, k4, k5, k6⟩ := append_allR (B1 := w3.heap.size) (B2 := w3.heap.size + 1) hbx8 hrow8 (by omega) (by omega) (by omega) (by omega) (by omega) (by omega) hown' hgrow; have hc1 := k1.cell; have hf1 := k1.frozen)
      refine ⟨(keepsFrom_below hW8).trans (k4.from _), (KeepR.of_below hW8 (by omega) (by omega) (by omega)).trans k5, (hlow.trans (hW8.mono (by omega))).trans k5.1, ⟨_, k2, ?_⟩, by omega⟩
      rw [HYES.out, ← HO.out, List.length_append, List.length_singleton, cellsP_snoc]; exact k3
  case done =>
    rintro D ys W hD ⟨E, hEO, hye⟩ ⟨hlow, ⟨v, hbx, hrow⟩, hszW⟩ hK
    have hlen : ys.length ≤ 1000 := by
      have := hEO.2.2
      rw [hye, piecesT_len]
      omega
    have hlo2 : (ys.filter kp).length ≤ ys.length := List.length_filter_le _ _
    obtain ⟨outs, ho⟩ : ∃ outs, outs = ys.filter kp := ⟨_, rfl⟩
    rw [← ho] at hrow hlo2
    have hgW : Good W := (hw.below HBA2.out).mono hlow (by omega)
    have HEO := Lib.hid hEO
    have HYE := Lib.hid hye
    have HO := Lib.hid ho
    have hDB : D ≠ w2.heap.size := by omega
    have HJ := Lib.hid (joined_any v w4.heap.size outs W hgW (by omega) hrow)
    obtain ⟨g, cap, rfl⟩ : ∃ g cap, v = .slice g outs.length cap := by
      rcases hrow.2 with ⟨h, h2⟩ | ⟨g, cap, _, h, _⟩
      · exact ⟨none, 0, by rw [h, h2]⟩
      · exact ⟨_, cap, h⟩
    have q1 := hbx.cell
    have hbxs := hbx.lt
    unfold JoinAny at HJ
    clear hEO hye ho hrow
    gi_wp2
    refine ⟨trivial, ?_⟩
    refine (callsIn_wide.2 HJ.out).mono ?_
    rintro e W1 ⟨v1, M, rfl, hpm, hpw, hp1, hbW1⟩
    obtain ⟨p1, c1', rfl, hc1', hm1', _⟩ := id hp1
    obtain ⟨nm, hnm⟩ : ∃ nm, ((mergeP M).map (·.1)).length = nm := ⟨_, rfl⟩
    have hnm2 : (mergeP M).length = nm := by rw [← hnm, List.length_map]
    rw [hnm] at hc1'
    have hsW1 := hbW1.size
    have hbx1 : Boxed W1 w2.heap.size 22 (.slice g outs.length cap) := (hbW1.block _ hbx.lt).trans hbx
    have hK1 : W1.heap[D]? = some (.deferred (some [])) := (hbW1.block _ (lt_of_some hK)).trans hK
    have t1 := hbx1.cell
    have t2 := hbx1.frozen
    have HSET := Lib.hid (pairs_setBox (u := .slice p1 ((mergeP M).map (·.1)).length c1') hp1 hbx1 (fun s h => by cases h))
    have hbs := hbx1.set (.slice p1 ((mergeP M).map (·.1)).length c1')
    rw [hnm] at hbs HSET ⊢
    obtain ⟨w5, hw5⟩ : ∃ w5, w5 = W1.setCell ⟨w2.heap.size, 0, none⟩ (.slice p1 nm c1') := ⟨_, rfl⟩
    rw [← hw5] at HSET
    have hKs : w5.heap[D]? = some (.deferred (some [])) := by rw [hw5]; exact (Below.heap_setCell _ _ _ D hDB).trans hK1
    have hlow1 : Below w2.heap.size w2 w5 := by rw [hw5]; exact (hlow.trans (hbW1.mono (by omega))).trans ((Below.refl _ _).setCell (p := ⟨w2.heap.size, 0, none⟩) (Nat.le_refl _) _)
    have u1 : w5.cell? ⟨w2.heap.size, 0, none⟩ = some (.slice p1 nm c1') := by rw [hw5]; exact hbs.cell
    have hu : (W1.setCell ⟨w2.heap.size, 0, none⟩ (.slice p1 nm c1')).cell? ⟨w2.heap.size, 0, none⟩ = some (.slice p1 nm c1') := hbs.cell
    have HKS := Lib.hid hKs
    have HLOW := Lib.hid hlow1
    have HW5 := Lib.hid hw5
    have HPM := Lib.hid hpm
    have HPW := Lib.hid hpw
    have HU1 := Lib.hid u1
    clear hbs hKs hlow1 hbx1 hbW1 hK1 hK hlow hbx hw5 hpm hpw q1 u1 hp1
    have HRET := Lib.hid (fun (o : Obj) (e : Ending) (h : (mergeP M).length ≤ 200 → e = .returned (.tuple #[.slice p1 nm c1', .int .i64 0])) => show CombPost keep LA LB w e (w5.putObj D o) from ⟨.slice p1 nm c1', E, M, HEO.out, HPM.out.trans (by rw [HO.out, HYE.out, HKP.out]), HPW.out, h, pairs_putObj HSET.out HKS.out, (HBA2.out.trans (HLOW.out.mono HBA2.out.size)).trans (putObj_below _ _ _ (by omega))⟩)
    by_cases h200 : nm ≤ 200
    · have h2 : decide ((200 : Int) < (nm : Int)) = false := decide_eq_false (by omega)
      clear h200 hnm2 hnm
      gi_wp2
      rw [← HW5.out]
      refine ⟨by simp, .inl ⟨_, _, rfl, run_takeDeferred HKS.out, ?_⟩⟩
      exact ⟨_, results_tmp2 rfl _ _ _, HRET.out _ _ (fun _ => rfl)⟩
    · have h2 : decide ((200 : Int) < (nm : Int)) = true := decide_eq_true (by omega)
      have HN2 := Lib.hid (show ¬ (mergeP M).length ≤ 200 by omega)
      clear h200 hnm2 hnm
      gi_wp2
      rw [← HW5.out]
      refine ⟨by simp, .inl ⟨_, _, rfl, run_takeDeferred HKS.out, ?_⟩⟩
      exact ⟨_, results_tmp2 rfl _ _ _, HRET.out _ _ (fun h => (HN2.out h).elim)⟩
  case stop =>
    rintro D c pre W _ _ h _
    exact h.elim
end Go.Proofs.YtbogpbjddaoeiaaGreatDoor
