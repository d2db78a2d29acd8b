import Derived.Test.YtbogpbjddaoeiaaGreatDoorRefVZ
import Derived.Test.YtbogpbjddaoeiaaGreatDoorRefAZ
import Derived.Test.YtbogpbjddaoeiaaGreatDoorPlainQZ
namespace Go.Proofs.YtbogpbjddaoeiaaGreatDoor
open Go.RowKit
open Go.Lib (decDigits itoa nDigits)
abbrev Duo := Int × Int
def okDuo (d : Duo) : Prop := -128 ≤ d.1 ∧ d.1 ≤ 127 ∧ -128 ≤ d.2 ∧ d.2 ≤ 127
/-- The slice v holds these pairs of small integers. -/
def Duos (w : World) (v : Value) (D : List Duo) : Prop :=
  ∃ p c, v = .slice p D.length c ∧ D.length ≤ c ∧ c ≤ maxLen ∧ (0 < D.length → ∃ b off, p = some ⟨b, off, none⟩ ∧ b < w.heap.size ∧ ∀ i (h : i < D.length), okDuo D[i] ∧ w.cell? ⟨b, off + i * 2, none⟩ = some (.int .i8 D[i].1) ∧ w.cell? ⟨b, off + i * 2 + 1, none⟩ = some (.int .i8 D[i].2))
theorem Duos.below {w w' : World} {v : Value} {D : List Duo} (h : Duos w v D) (hb : Below w.heap.size w w') : Duos w' v D := by
  obtain ⟨p, c, hv, hc, hm, hx⟩ := h
  refine ⟨p, c, hv, hc, hm, fun h0 => ?_⟩
  obtain ⟨b, off, hp, hbl, hcell⟩ := hx h0
  refine ⟨b, off, hp, Nat.lt_of_lt_of_le hbl hb.size, fun i hi => ?_⟩
  rw [hb.cell (p := ⟨b, off + i * 2, none⟩) hbl, hb.cell (p := ⟨b, off + i * 2 + 1, none⟩) hbl]
  exact hcell i hi
theorem Duos.ok {w : World} {v : Value} {D : List Duo} (h : Duos w v D) : ∀ d ∈ D, okDuo d := by
  intro d hd
  obtain ⟨i, hi, rfl⟩ := List.mem_iff_getElem.1 hd
  obtain ⟨p, c, _, _, _, hx⟩ := h
  obtain ⟨b, off, _, _, hcell⟩ := hx (by omega)
  exact (hcell i hi).1
theorem getD_eq {D : List Duo} {j : Nat} (h : j < D.length) : D.getD j (0, 0) = D[j] := by simp [List.getD, List.getElem?_eq_getElem h]
theorem getD_mem {D : List Duo} {j : Nat} (h : j < D.length) : D.getD j (0, 0) ∈ D := by rw [getD_eq h]; exact List.getElem_mem h
/-- where the knots lie, in halves -/
def atN (D : List Duo) : Nat → Int
  | 0 => 0
  | k + 1 => if k = 0 then (D.getD 0 (0, 0)).1 else atN D k + (1 + (max (D.getD k (0, 0)).1 (-(D.getD k (0, 0)).1)) % 8)
def knotN (D : List Duo) (j : Nat) : QP := (mkRat (atN D (j + 1)) 2, mkRat (D.getD j (0, 0)).2 2)
def ptsN (D : List Duo) (k : Nat) : List QP := (List.range k).map (knotN D)
theorem ptsN_succ (D : List Duo) (k : Nat) : ptsN D (k + 1) = ptsN D k ++ [knotN D k] := by unfold ptsN; rw [List.range_succ, List.map_append]; rfl
theorem ptsN_len (D : List Duo) (k : Nat) : (ptsN D k).length = k := by unfold ptsN; simp
def ptsQ (D : List Duo) : List QP := if min D.length 8 = 0 then [(0, 0)] else ptsN D (min D.length 8)
theorem atN_bound {D : List Duo} (h : ∀ d ∈ D, okDuo d) : ∀ k, k ≤ D.length → -128 ≤ atN D k ∧ atN D k ≤ 127 + 8 * (k : Int)
  | 0, _ => by unfold atN; omega
  | k + 1, hk => by
    have ih := atN_bound h k (by omega)
    unfold atN
    by_cases h0 : k = 0
    · rw [if_pos h0]
      have := h (D.getD 0 (0, 0)) (getD_mem (by omega))
      unfold okDuo at this
      omega
    · rw [if_neg h0]
      omega
theorem atN_mono {D : List Duo} {k : Nat} (h0 : 0 < k) : atN D k < atN D (k + 1) := by
  conv => rhs; unfold atN
  rw [if_neg (by omega)]
  omega
theorem atN_lt {D : List Duo} {i j : Nat} (h0 : 0 < i) (hij : i < j) : atN D i < atN D j := by
  induction j with
  | zero => omega
  | succ j ih =>
    rcases Nat.lt_or_ge i j with h | h
    · exact Int.lt_trans (ih h) (atN_mono (by omega))
    · obtain rfl : i = j := by omega
      exact atN_mono h0
theorem half_lt {a b : Int} (h : a < b) : mkRat a 2 < mkRat b 2 := by
  have e : ∀ n : Int, mkRat n 2 = (n : Rat) * (1 / 2) := fun n => by
    have := Rat.mkRat_mul_mkRat n 1 1 2
    rw [show mkRat n 1 = (n : Rat) by simp [Rat.mkRat_one], show mkRat 1 2 = (1 / 2 : Rat) by decide +kernel] at this
    rw [this]; simp
  rw [e a, e b]
  exact Rat.mul_lt_mul_of_pos_right (Rat.intCast_lt_intCast.2 h) (by decide +kernel)
theorem half_fr {n : Int} (h1 : -1000 ≤ n) (h2 : n ≤ 1000) : Fr 1000 2 (mkRat n 2) := Fr.mkRat (by decide) (by omega) (Nat.le_refl _)
theorem ptsQ_len (D : List Duo) : 0 < (ptsQ D).length ∧ (ptsQ D).length ≤ 8 := by
  unfold ptsQ
  split
  · decide
  · rw [ptsN_len]; omega
theorem ptsQ_fr {D : List Duo} (h : ∀ d ∈ D, okDuo d) : FrAll (ptsQ D) := by
  intro p hp
  unfold ptsQ at hp
  split at hp
  · simp only [List.mem_cons, List.not_mem_nil, or_false] at hp
    subst hp
    exact ⟨⟨by decide, by decide⟩, by decide, by decide⟩
  · unfold ptsN at hp
    obtain ⟨j, hj, rfl⟩ := List.mem_map.1 hp
    have hj' := List.mem_range.1 hj
    have hb := atN_bound h (j + 1) (by omega)
    have hd := h (D.getD j (0, 0)) (getD_mem (by omega))
    unfold okDuo at hd
    exact ⟨half_fr (by omega) (by omega), half_fr (by omega) (by omega)⟩
theorem ptsQ_asc (D : List Duo) : (ptsQ D).Pairwise (fun x y => x.1 < y.1) := by
  unfold ptsQ
  split
  · exact List.pairwise_singleton _ _
  · unfold ptsN
    rw [List.pairwise_map]
    refine List.pairwise_iff_getElem.2 fun i j hi hj hij => ?_
    simp only [List.getElem_range]
    exact half_lt (atN_lt (by omega) (by omega))
def cellsQ (Q : List QP) : List Value := Q.flatMap fun p => [.int .i64 p.1.num, .int .i64 (p.1.den : Int), .int .i64 p.2.num, .int .i64 (p.2.den : Int)]
theorem cellsQ_len (Q : List QP) : (cellsQ Q).length = Q.length * 4 := by
  induction Q with
  | nil => rfl
  | cons p r ih => unfold cellsQ at *; rw [List.flatMap_cons, List.length_append, ih, List.length_cons]; simp; omega
theorem cellsQ_snoc (Q : List QP) (p : QP) : cellsQ (Q ++ [p]) = cellsQ Q ++ [.int .i64 p.1.num, .int .i64 (p.1.den : Int), .int .i64 p.2.num, .int .i64 (p.2.den : Int)] := by unfold cellsQ; simp
end Go.Proofs.YtbogpbjddaoeiaaGreatDoor
namespace Go.Proofs.YtbogpbjddaoeiaaGreatDoor
open Go.RowKit
open Go.Lib (decDigits itoa nDigits)
theorem atN_first {D : List Duo} {k : Nat} (h0 : k = 0) (hk : k < D.length) : atN D (k + 1) = D[k].1 := by
  subst h0
  unfold atN
  rw [if_pos rfl, getD_eq hk]
theorem atN_next {D : List Duo} {k : Nat} (h0 : k ≠ 0) (hk : k < D.length) : atN D (k + 1) = atN D k + (1 + max D[k].1 (-D[k].1) % 8) := by
  rw [← getD_eq hk]
  conv => lhs; unfold atN
  rw [if_neg h0]
theorem slKnotF : SliceOf 44 66 (.agg #[.int .i64 0, .int .i64 0, .int .i64 0, .int .i64 0]) 4 32 := ⟨Tryz.underlying44, by kernel_rfl, rfl, by decide⟩
theorem cell_four_new (w : World) (a b c d : Value) (t : TypeId) : ∀ (j : Nat) (u : Value), [a, b, c, d][j]? = some u → (w.alloc (.cells #[a, b, c, d] t)).cell? ((⟨w.heap.size, 0, none⟩ : Addr).add j) = some u := by
  intro j u hj
  rw [adr_add, World.cell?_alloc_new]
  simpa using hj
theorem make_half (n : Int) (w : World) (h1 : -1000 ≤ n) (h2 : n ≤ 1000) : Calls Tryz.prog 26 #[.int .i64 n, .int .i64 2] w fun e w' => e = .returned (.agg #[.int .i64 (mkRat n 2).num, .int .i64 ((mkRat n 2).den : Int)]) ∧ Below w.heap.size w w' :=
  ref_Make n 2 w (by omega) (by omega) (by decide) (by decide)
def PtLoop (D : List Duo) (w : World) (k : Nat) (ov : Value) (wr : World) : Prop := k ≤ D.length ∧ k ≤ 8 ∧ wr.ownsRow w.heap.size 66 4 ov k (cellsQ (ptsN D k)) ∧ Below w.heap.size w wr
theorem PtLoop.next {D : List Duo} {w w' : World} {k : Nat} {v' : Value} (hk : k < D.length) (h8 : k < 8) (ho : w'.ownsRow w.heap.size 66 4 v' (k + 1) (cellsQ (ptsN D k) ++ [.int .i64 (knotN D k).1.num, .int .i64 ((knotN D k).1.den : Int), .int .i64 (knotN D k).2.num, .int .i64 ((knotN D k).2.den : Int)])) (hb : Below w.heap.size w w') : PtLoop D w (k + 1) v' w' :=
  ⟨hk, h8, by rw [ptsN_succ, cellsQ_snoc]; exact ho, hb⟩
theorem cellsQ_get : ∀ (Q : List QP) (i : Nat) (hi : i < Q.length) (j : Nat) (hj : j < 4), (cellsQ Q)[i * 4 + j]? = some ([Value.int .i64 Q[i].1.num, .int .i64 (Q[i].1.den : Int), .int .i64 Q[i].2.num, .int .i64 (Q[i].2.den : Int)][j])
  | [], i, hi, _, _ => by simp at hi
  | q :: r, 0, _, j, hj => by
    unfold cellsQ
    rw [List.flatMap_cons, List.getElem?_append_left (by simp; omega)]
    simp only [Nat.zero_mul, Nat.zero_add, List.getElem_cons_zero]
    rw [List.getElem?_eq_getElem (by simpa using hj)]
  | q :: r, i + 1, hi, j, hj => by
    unfold cellsQ
    rw [List.flatMap_cons, List.getElem?_append_right (by simp; omega)]
    have := cellsQ_get r i (by simpa using hi) j hj
    unfold cellsQ at this
    rw [show (i + 1) * 4 + j - [Value.int .i64 q.1.num, .int .i64 (q.1.den : Int), .int .i64 q.2.num, .int .i64 (q.2.den : Int)].length = i * 4 + j by simp; omega]
    simpa using this
theorem quads_of_owns {w : World} {base : Nat} {v : Value} {Q : List QP} (h : w.ownsRow base 66 4 v Q.length (cellsQ Q)) : Quads w v Q := by
  obtain ⟨_, p, c, rfl, hc, hm, hx⟩ := Reads.of_owns h
  refine ⟨p, c, rfl, hc, hm, fun h0 => ?_⟩
  obtain ⟨b, off, hp, hbl, hcell⟩ := hx h0
  refine ⟨b, off, hp, hbl, fun i hi => ?_⟩
  have hg := fun j hj => cellsQ_get Q i hi j hj
  have hl := cellsQ_len Q
  have go : ∀ j (hj : j < 4), w.cell? ⟨b, off + (i * 4 + j), none⟩ = some ([.int .i64 Q[i].1.num, .int .i64 (Q[i].1.den : Int), .int .i64 Q[i].2.num, .int .i64 (Q[i].2.den : Int)][j]) := by
    intro j hj
    have h1 := hcell (i * 4 + j) (by omega)
    rw [h1, ← hg j hj, List.getElem?_eq_getElem]
  exact ⟨go 0 (by decide), go 1 (by decide), go 2 (by decide), go 3 (by decide)⟩
def PtsPost (D : List Duo) (w : World) (e : Ending) (w' : World) : Prop := ∃ v, e = .returned v ∧ Quads w' v (ptsQ D) ∧ Below w.heap.size w w'
set_option maxRecDepth 100000 in
set_option maxHeartbeats 8000000 in
theorem law_points (v : Value) (D : List Duo) (w : World) (hv : Duos w v D) :
    Calls Tryz.prog 25 #[v] w (PtsPost D w) := by
  have hok := hv.ok
  obtain ⟨p, c, rfl, hc, hmx, hxx⟩ := hv
  have hmax : D.length ≤ 9223372036854775807 := by unfold maxLen at hmx; omega
  obtain ⟨w1, hw1⟩ : ∃ w1, w1 = w.alloc (Obj.cells #[] 66) := ⟨_, rfl⟩
  have hb1 : Below w.heap.size w w1 := by rw [hw1]; exact alloc_below _ _
  have ho1 : w1.ownsRow w.heap.size 66 4 (.slice (some ⟨w.heap.size, 0, none⟩) 0 0) 0 [] := by rw [hw1]; exact World.ownsRow_made w #[] 0 (Nat.le_refl _) (by decide) (by simp)
  have hst : PtLoop D w 0 (.slice (some ⟨w.heap.size, 0, none⟩) 0 0) w1 := ⟨Nat.zero_le _, by decide, ho1, hb1⟩
  have HST0 := Lib.hid hst
  have HW1 := Lib.hid hw1
  have HOKD := Lib.hid hok
  clear hst hw1 ho1 hok
  go_enter Tryz.func25, Tryz.ntmps25
  go_wp2_with fail
  rw [← HW1.out]
  go_loopw [3, 4, 5] (fun ov av iv wr => ∃ (k : Nat) (vv : Value), PtLoop D w k vv wr ∧ vv = ov ∧ av = .int .i64 (atN D k) ∧ iv = .int .i64 (k : Int)) (fun _ _ iv _ => D.length - (intOf iv).toNat)
  case atStart => exact ⟨0, _, HST0.out, rfl, rfl, rfl⟩
  case round =>
    obtain ⟨k, ov, hst, rfl, rfl, rfl⟩ := hrel
    obtain ⟨hkl, hk8, hown, hbr⟩ := hst
    by_cases hk : k < D.length ∧ k < 8
    · obtain ⟨hk, h8⟩ := hk
      obtain ⟨b, off, rfl, hbl, hcell⟩ := hxx (by omega)
      obtain ⟨okd, c0, c1⟩ := hcell k hk
      rw [← hbr.cell (p := ⟨b, off + k * 2, none⟩) hbl] at c0
      rw [← hbr.cell (p := ⟨b, off + k * 2 + 1, none⟩) hbl] at c1
      have hkn : decide ((k : Int) < (D.length : Int)) = true := decide_eq_true (by omega)
      have hkn8 : decide ((k : Int) < (8 : Int)) = true := decide_eq_true (by omega)
      have i1 : (0 : Int) ≤ (k : Int) := by omega
      have i2 : (k : Int) < (D.length : Int) := by omega
      have hblr : b < wr.heap.size := Nat.lt_of_lt_of_le hbl hbr.size
      have hab := atN_bound HOKD.out (k + 1) (by omega)
      have hab0 := atN_bound HOKD.out k (by omega)
      unfold okDuo at okd
      have HPT := Lib.hid (show PtLoop D w k ov wr from ⟨hkl, hk8, hown, hbr⟩)
      have HKN := Lib.hid (show knotN D k = (mkRat (atN D (k + 1)) 2, mkRat D[k].2 2) by unfold knotN; rw [getD_eq hk])
      have HM1 := Lib.hid (fun w' => make_half (atN D (k + 1)) w' (by omega) (by omega))
      have HM2 := Lib.hid (fun w' => make_half D[k].2 w' (by omega) (by omega))
      have hol := cellsQ_len (ptsN D k)
      rw [ptsN_len] at hol
      obtain ⟨i0, hi, hz0, hz1, hz2⟩ := info_parts slKnotF.info
      by_cases hk0 : k = 0
      · have e0 : ((k : Int) == 0) = true := by rw [hk0]; rfl
        have HA := Lib.hid (atN_first hk0 hk)
        rw [HA.out] at HM1 hab
        clear hcell hxx hk0
        generalize D[k].1 = a at *
        generalize D[k].2 = bb at *
        have k1 : IntKind.i64.wrap a = a := IntWalk.i64_in _ (by omega)
        have k2 : IntKind.i64.wrap bb = bb := IntWalk.i64_in _ (by omega)
        go_wp2_with fail
        obtain ⟨wd, hwd⟩ : ∃ wd, wd = wr := ⟨_, rfl⟩
        have hbd : Below wr.heap.size wr wd := by rw [hwd]; exact Below.refl _ _
        rw [← hwd]
        clear hwd
        have c1' := (hbd.cell (p := ⟨b, off + k * 2 + 1, none⟩) hblr).trans c1
        have hbld : b < wd.heap.size := Nat.lt_of_lt_of_le hblr hbd.size
        have hownd := owns_below hown hbd
        have hbwd := hbr.trans (hbd.mono hbr.size)
        refine wp_held_list (fun W' => Below wd.heap.size wd W') [0, 1, 3, 4, 5, 6, 7, 8] [2, 9, 10, 11] 12 (by kernel_rfl) (by kernel_rfl) ⟨rfl, rfl, rfl, Nat.le_refl _, fun _ _ => rfl⟩ ?_
        iterate 8
          refine wpTakeL_step rfl ?_ rfl ?_ ?_
          rotate_left
          · intro W' hS'
            have s1 := (hS'.cell (p := ⟨b, off + k * 2 + 1, none⟩) hbld).trans c1'
            go_simp
            try with_reducible rfl
          try simp only [List.getElem_toArray, List.getElem_cons_zero, List.getElem_cons_succ, Act.put, List.setIfInBounds_toArray, List.set_cons_zero, List.set_cons_succ]
        have hH0 : Below wd.heap.size wd wd.drew := ⟨rfl, rfl, rfl, Nat.le_refl _, fun _ _ => rfl⟩
        clear c0 c1 c1'
        refine wpKeepL_step rfl rfl (fun K hK => ?_)
        go_simp
        refine (HM1.out _).mono ?_
        rintro e w3 ⟨rfl, hb3⟩
        have hH1 := hH0.trans (hb3.mono hH0.size)
        refine hK _ _ ⟨hH1, ?_⟩
        clear hK K
        try simp only [List.getElem_toArray, List.getElem_cons_zero, List.getElem_cons_succ, Act.put, List.setIfInBounds_toArray, List.set_cons_zero, List.set_cons_succ]
        refine wpKeepL_step rfl rfl (fun K hK => ?_)
        go_simp
        refine (HM2.out _).mono ?_
        rintro e w4 ⟨rfl, hb4⟩
        have hH2 := hH1.trans (hb4.mono hH1.size)
        refine hK _ _ ⟨hH2, ?_⟩
        clear hK K
        try simp only [List.getElem_toArray, List.getElem_cons_zero, List.getElem_cons_succ, Act.put, List.setIfInBounds_toArray, List.set_cons_zero, List.set_cons_succ]
        refine wpKeepL_step rfl rfl (fun K hK => ?_)
        go_simp
        refine hK _ _ ⟨hH2, ?_⟩
        clear hK K
        try simp only [List.getElem_toArray, List.getElem_cons_zero, List.getElem_cons_succ, Act.put, List.setIfInBounds_toArray, List.set_cons_zero, List.set_cons_succ]
        refine wpKeepL_step rfl rfl (fun K hK => ?_)
        go_simp
        refine hK _ _ ⟨hH2.trans ((alloc_below _ _).mono hH2.size), ?_⟩
        clear hK K
        unfold wpKeepL
        simp only [List.drop_succ_cons, List.drop_zero]
        try simp only [List.getElem_toArray, List.getElem_cons_zero, List.getElem_cons_succ, Act.put, List.setIfInBounds_toArray, List.set_cons_zero, List.set_cons_succ]
        have hown4 := owns_below hownd hH2
        have hbw4 := hbwd.trans (hH2.mono hbwd.size)
        have hbs4 := hbw4.size
        clear hown hownd hH0 hH1
        refine wpKeep_step rfl (fun K hK => ?_)
        refine wp_append_own _ (.tmp 43) (.tmp 54) 44 rfl w.heap.size 66 i0 (.agg #[.int .i64 0, .int .i64 0, .int .i64 0, .int .i64 0]) 4 32 slKnotF.ht hi hz0 hz1 hz2 slKnotF.hzs slKnotF.hsz _ _ _ rfl (hown4.alloc _) ⟨w4.heap.size, 0, none⟩ 1 1 [.int .i64 (mkRat a 2).num, .int .i64 ((mkRat a 2).den : Int), .int .i64 (mkRat bb 2).num, .int .i64 ((mkRat bb 2).den : Int)] rfl rfl (cell_four_new _ _ _ _ _ _) (by simp [Value.oneCell']) (by unfold maxLen; omega) (by omega) (by simp; omega) ?_
        intro v' w5 hown5 hgrow _
        have hb5 : Below w.heap.size w w5 := (hbw4.trans ((alloc_below w4 _).mono hbs4)).grown hgrow (by simp; omega) (fun g hg => (hown4.lt g hg).1)
        have HN := Lib.hid (PtLoop.next (D := D) (w := w) hk h8 (by rw [HKN.out, HA.out]; exact hown5) hb5)
        clear hown5 hown4
        refine hK _ _ ⟨trivial, ?_⟩
        clear hK K
        try simp only [Act.put, List.setIfInBounds_toArray, List.set_cons_zero, List.set_cons_succ]
        refine wpKeep_step rfl (fun K hK => ?_)
        go_simp
        refine hK _ _ ⟨trivial, wpKeep_nil ?_⟩
        clear hK K
        try simp only [List.getElem_toArray, List.getElem_cons_zero, List.getElem_cons_succ, Act.put, List.setIfInBounds_toArray, List.set_cons_zero, List.set_cons_succ]
        refine NormalOnly.mk ?_
        go_wp2
        refine ⟨⟨k + 1, v', HN.out, rfl, by rw [HA.out], int_succ k⟩, ?_⟩
        show D.length - ((k : Int) + 1).toNat < D.length - ((k : Int)).toNat
        omega
      · have e0 : ((k : Int) == 0) = false := beq_eq_false_iff_ne.2 (by omega)
        have HA := Lib.hid (atN_next hk0 hk)
        clear hcell hxx hk0
        generalize D[k].1 = a at *
        generalize D[k].2 = bb at *
        have k1 : IntKind.i64.wrap a = a := IntWalk.i64_in _ (by omega)
        have k2 : IntKind.i64.wrap bb = bb := IntWalk.i64_in _ (by omega)
        have k3 : IntKind.i64.wrap (-a) = -a := IntWalk.i64_in _ (by omega)
        obtain ⟨mx, hmxe⟩ : ∃ mx, max a (-a) = mx := ⟨_, rfl⟩
        have k4 : mx.tmod 8 = mx % 8 := Int.tmod_eq_emod_of_nonneg (by omega)
        obtain ⟨r, hr⟩ : ∃ r, mx % 8 = r := ⟨_, rfl⟩
        have HMX := Lib.hid hmxe
        rw [hmxe, hr] at HA
        rw [hr] at k4
        have k5 : IntKind.i64.wrap r = r := IntWalk.i64_in _ (by omega)
        have k6 : IntKind.i64.wrap (1 + r) = 1 + r := IntWalk.i64_in _ (by omega)
        have k7 : IntKind.i64.wrap (atN D k + (1 + r)) = atN D k + (1 + r) := IntWalk.i64_in _ (by omega)
        rw [HA.out] at HM1 hab
        clear hr
        generalize atN D k = at0 at *
        go_wp2_with fail
        go_quiet (fail)
        go_wp2_with fail
        generalize hwd : World.drewN wr _ = wd
        have hbd : Below wr.heap.size wr wd := by rw [← hwd]; exact below_drewN wr _
        clear hwd
        have c1' := (hbd.cell (p := ⟨b, off + k * 2 + 1, none⟩) hblr).trans c1
        have hbld : b < wd.heap.size := Nat.lt_of_lt_of_le hblr hbd.size
        have hownd := owns_below hown hbd
        have hbwd := hbr.trans (hbd.mono hbr.size)
        refine wp_held_list (fun W' => Below wd.heap.size wd W') [0, 1, 3, 4, 5, 6, 7, 8] [2, 9, 10, 11] 12 (by kernel_rfl) (by kernel_rfl) ⟨rfl, rfl, rfl, Nat.le_refl _, fun _ _ => rfl⟩ ?_
        iterate 8
          refine wpTakeL_step rfl ?_ rfl ?_ ?_
          rotate_left
          · intro W' hS'
            have s1 := (hS'.cell (p := ⟨b, off + k * 2 + 1, none⟩) hbld).trans c1'
            go_simp
            try with_reducible rfl
          try simp only [List.getElem_toArray, List.getElem_cons_zero, List.getElem_cons_succ, Act.put, List.setIfInBounds_toArray, List.set_cons_zero, List.set_cons_succ]
        have hH0 : Below wd.heap.size wd wd.drew := ⟨rfl, rfl, rfl, Nat.le_refl _, fun _ _ => rfl⟩
        clear c0 c1 c1'
        refine wpKeepL_step rfl rfl (fun K hK => ?_)
        go_simp
        refine (HM1.out _).mono ?_
        rintro e w3 ⟨rfl, hb3⟩
        have hH1 := hH0.trans (hb3.mono hH0.size)
        refine hK _ _ ⟨hH1, ?_⟩
        clear hK K
        try simp only [List.getElem_toArray, List.getElem_cons_zero, List.getElem_cons_succ, Act.put, List.setIfInBounds_toArray, List.set_cons_zero, List.set_cons_succ]
        refine wpKeepL_step rfl rfl (fun K hK => ?_)
        go_simp
        refine (HM2.out _).mono ?_
        rintro e w4 ⟨rfl, hb4⟩
        have hH2 := hH1.trans (hb4.mono hH1.size)
        refine hK _ _ ⟨hH2, ?_⟩
        clear hK K
        try simp only [List.getElem_toArray, List.getElem_cons_zero, List.getElem_cons_succ, Act.put, List.setIfInBounds_toArray, List.set_cons_zero, List.set_cons_succ]
        refine wpKeepL_step rfl rfl (fun K hK => ?_)
        go_simp
        refine hK _ _ ⟨hH2, ?_⟩
        clear hK K
        try simp only [List.getElem_toArray, List.getElem_cons_zero, List.getElem_cons_succ, Act.put, List.setIfInBounds_toArray, List.set_cons_zero, List.set_cons_succ]
        refine wpKeepL_step rfl rfl (fun K hK => ?_)
        go_simp
        refine hK _ _ ⟨hH2.trans ((alloc_below _ _).mono hH2.size), ?_⟩
        clear hK K
        unfold wpKeepL
        simp only [List.drop_succ_cons, List.drop_zero]
        try simp only [List.getElem_toArray, List.getElem_cons_zero, List.getElem_cons_succ, Act.put, List.setIfInBounds_toArray, List.set_cons_zero, List.set_cons_succ]
        have hown4 := owns_below hownd hH2
        have hbw4 := hbwd.trans (hH2.mono hbwd.size)
        have hbs4 := hbw4.size
        clear hown hownd hH0 hH1
        refine wpKeep_step rfl (fun K hK => ?_)
        refine wp_append_own _ (.tmp 43) (.tmp 54) 44 rfl w.heap.size 66 i0 (.agg #[.int .i64 0, .int .i64 0, .int .i64 0, .int .i64 0]) 4 32 slKnotF.ht hi hz0 hz1 hz2 slKnotF.hzs slKnotF.hsz _ _ _ rfl (hown4.alloc _) ⟨w4.heap.size, 0, none⟩ 1 1 [.int .i64 (mkRat (at0 + (1 + r)) 2).num, .int .i64 ((mkRat (at0 + (1 + r)) 2).den : Int), .int .i64 (mkRat bb 2).num, .int .i64 ((mkRat bb 2).den : Int)] rfl rfl (cell_four_new _ _ _ _ _ _) (by simp [Value.oneCell']) (by unfold maxLen; omega) (by omega) (by simp; omega) ?_
        intro v' w5 hown5 hgrow _
        have hb5 : Below w.heap.size w w5 := (hbw4.trans ((alloc_below w4 _).mono hbs4)).grown hgrow (by simp; omega) (fun g hg => (hown4.lt g hg).1)
        have HN := Lib.hid (PtLoop.next (D := D) (w := w) hk h8 (by rw [HKN.out, HA.out]; exact hown5) hb5)
        clear hown5 hown4
        refine hK _ _ ⟨trivial, ?_⟩
        clear hK K
        try simp only [Act.put, List.setIfInBounds_toArray, List.set_cons_zero, List.set_cons_succ]
        refine wpKeep_step rfl (fun K hK => ?_)
        go_simp
        refine hK _ _ ⟨trivial, wpKeep_nil ?_⟩
        clear hK K
        try simp only [List.getElem_toArray, List.getElem_cons_zero, List.getElem_cons_succ, Act.put, List.setIfInBounds_toArray, List.set_cons_zero, List.set_cons_succ]
        refine NormalOnly.mk ?_
        go_wp2
        refine ⟨⟨k + 1, v', HN.out, rfl, by rw [HA.out], int_succ k⟩, ?_⟩
        show D.length - ((k : Int) + 1).toNat < D.length - ((k : Int)).toNat
        omega
    · have hkm : k = min D.length 8 := by
        rcases Nat.lt_or_ge k D.length with h1 | h1
        · rcases Nat.lt_or_ge k 8 with h2 | h2
          · exact (hk ⟨h1, h2⟩).elim
          · rw [Nat.min_def]; split <;> omega
        · rw [Nat.min_def]; split <;> omega
      obtain ⟨hl1, p', c', rfl, hc', hm', hr1⟩ := Reads.of_owns hown
      clear hl1 hr1
      by_cases hk0 : k = 0
      · have H0 := Lib.hid hk0
        have hD : D.length = 0 := Nat.eq_zero_of_not_pos (fun hp => hk ⟨by rw [hk0]; exact hp, by rw [hk0]; decide⟩)
        have HF := Lib.hid (show ptsQ D = [(0, 0)] by unfold ptsQ; rw [if_pos (by omega)])
        have e1 : decide ((k : Int) < (D.length : Int)) = false := decide_eq_false (by omega)
        have e1b : ¬ 0 < D.length := by omega
        have e1c : decide (0 < D.length) = false := decide_eq_false e1b
        have e0 : ((k : Int) == 0) = true := by rw [hk0]; rfl
        obtain ⟨i0, hi, hz0, hz1, hz2⟩ := info_parts slKnotF.info
        have hbs := hbr.size
        clear hxx hkm hD hk hk0
        go_wp2_with (at_builtin; refine wpList_append_own _ rfl (.tmp 59) (.tmp 63) 44 rfl w.heap.size 66 i0 (.agg #[.int .i64 0, .int .i64 0, .int .i64 0, .int .i64 0]) 4 32 slKnotF.ht hi hz0 hz1 hz2 slKnotF.hzs slKnotF.hsz _ _ _ rfl (hown.alloc _) ⟨wr.heap.size, 0, none⟩ 1 1 [.int .i64 0, .int .i64 1, .int .i64 0, .int .i64 1] rfl rfl (cell_four_new _ _ _ _ _ _) (by simp [Value.oneCell']) (by unfold maxLen; omega) (by omega) (by simp; omega) ?_; intro v' w5 hown5 hgrow _)
        go_ret
        refine ⟨_, rfl, ?_, (hbr.trans ((alloc_below wr _).mono hbs)).grown hgrow (by simp; omega) (fun g hg => (hown.lt g hg).1)⟩
        rw [HF.out]
        rw [H0.out] at hown5
        exact quads_of_owns (Q := [(0, 0)]) hown5
      · have HF := Lib.hid (show ptsQ D = ptsN D k by unfold ptsQ; rw [if_neg (by omega), hkm])
        have e0 : ((k : Int) == 0) = false := beq_eq_false_iff_ne.2 (by omega)
        have HO := Lib.hid (show wr.ownsRow w.heap.size 66 4 (.slice p' k c') (ptsN D k).length (cellsQ (ptsN D k)) by rw [ptsN_len]; exact hown)
        by_cases hkl2 : k < D.length
        · have e1 : decide ((k : Int) < (D.length : Int)) = true := decide_eq_true (by omega)
          have e2 : decide ((k : Int) < (8 : Int)) = false := decide_eq_false (by omega)
          clear hown hxx hkm
          go_wp2
          go_ret
          exact ⟨_, rfl, by rw [HF.out]; exact quads_of_owns HO.out, hbr⟩
        · have e1 : decide ((k : Int) < (D.length : Int)) = false := decide_eq_false (by omega)
          clear hown hxx hkm
          go_wp2
          go_ret
          exact ⟨_, rfl, by rw [HF.out]; exact quads_of_owns HO.out, hbr⟩
end Go.Proofs.YtbogpbjddaoeiaaGreatDoor
namespace Go.Proofs.YtbogpbjddaoeiaaGreatDoor
open Go.RowKit
open Go.Lib (decDigits itoa nDigits)
abbrev tx (q : Rat) : ByteArray := ⟨(rtext q).toArray⟩
def textP (p : QP) : Pair := (tx p.1, tx p.2)
theorem ref_Text' (q : Rat) (w : World) (hq : Fr 1000000000000000000 1000000000000000000 q) :
    Calls Tryz.prog 29 #[fracV q] w fun e w' => e = .returned (.string (tx q)) ∧ Below w.heap.size w w' :=
  (ref_Text q w hq).mono fun e w' ⟨r, he, hr, hb⟩ => ⟨by rw [he, hr.unique (isR_mk q)], hb⟩
def cellsS (L : List Pair) : List Value := L.flatMap fun p => [.string p.1, .string p.2]
theorem cellsS_len (L : List Pair) : (cellsS L).length = L.length * 2 := by
  induction L with
  | nil => rfl
  | cons p r ih => unfold cellsS at *; rw [List.flatMap_cons, List.length_append, ih, List.length_cons]; simp; omega
theorem cellsS_snoc (L : List Pair) (p : Pair) : cellsS (L ++ [p]) = cellsS L ++ [.string p.1, .string p.2] := by unfold cellsS; simp
theorem cellsS_get : ∀ (L : List Pair) (i : Nat) (hi : i < L.length) (j : Nat) (hj : j < 2), (cellsS L)[i * 2 + j]? = some ([Value.string L[i].1, .string L[i].2][j])
  | [], i, hi, _, _ => by simp at hi
  | q :: r, 0, _, j, hj => by
    unfold cellsS
    rw [List.flatMap_cons, List.getElem?_append_left (by simp; omega)]
    simp only [Nat.zero_mul, Nat.zero_add, List.getElem_cons_zero]
    rw [List.getElem?_eq_getElem (by simpa using hj)]
  | q :: r, i + 1, hi, j, hj => by
    unfold cellsS
    rw [List.flatMap_cons, List.getElem?_append_right (by simp; omega)]
    have := cellsS_get r i (by simpa using hi) j hj
    unfold cellsS at this
    rw [show (i + 1) * 2 + j - [Value.string q.1, .string q.2].length = i * 2 + j by simp; omega]
    simpa using this
theorem pairs_of_cells {w : World} {base : Nat} {e : TypeId} {v : Value} {L : List Pair} (h : w.ownsRow base e 2 v L.length (cellsS L)) : Pairs w v L := by
  obtain ⟨_, p, c, rfl, hc, hm, hx⟩ := Reads.of_owns h
  refine ⟨p, c, rfl, hc, hm, fun h0 => ?_⟩
  obtain ⟨b, off, hp, hbl, hcell⟩ := hx h0
  refine ⟨b, off, hp, hbl, fun i hi => ?_⟩
  have hl := cellsS_len L
  have go : ∀ j (hj : j < 2), w.cell? ⟨b, off + (i * 2 + j), none⟩ = some ([Value.string L[i].1, .string L[i].2][j]) := by
    intro j hj
    have h1 := hcell (i * 2 + j) (by omega)
    rw [h1, ← cellsS_get L i hi j hj, List.getElem?_eq_getElem]
  exact ⟨go 0 (by decide), go 1 (by decide)⟩
theorem slKnotA : SliceOf 51 97 (.agg #[.string ⟨#[]⟩, .string ⟨#[]⟩]) 2 32 := ⟨Tryz.underlying51, by kernel_rfl, rfl, by decide⟩
def KtLoop (Q : List QP) (w : World) (k : Nat) (ov : Value) (wr : World) : Prop := k ≤ Q.length ∧ wr.ownsRow w.heap.size 97 2 ov k (cellsS ((Q.take k).map textP)) ∧ Below w.heap.size w wr
theorem KtLoop.next {Q : List QP} {w w' : World} {k : Nat} {v' : Value} (hk : k < Q.length) (ho : w'.ownsRow w.heap.size 97 2 v' (k + 1) (cellsS ((Q.take k).map textP) ++ [.string (tx Q[k].1), .string (tx Q[k].2)])) (hb : Below w.heap.size w w') : KtLoop Q w (k + 1) v' w' :=
  ⟨hk, by rw [List.take_add_one, List.getElem?_eq_getElem hk, List.map_append]; exact (cellsS_snoc _ _).symm ▸ ho, hb⟩
def KntPost (Q : List QP) (w : World) (e : Ending) (w' : World) : Prop := ∃ v, e = .returned v ∧ Pairs w' v (Q.map textP) ∧ Below w.heap.size w w'
set_option maxRecDepth 100000 in
set_option maxHeartbeats 8000000 in
theorem law_knots (v : Value) (Q : List QP) (w : World) (hv : Quads w v Q) (hQ : FrAll Q) (hl : Q.length ≤ 1000) :
    Calls Tryz.prog 28 #[v] w (KntPost Q w) := by
  obtain ⟨p, c, rfl, hc, hmx, hxx⟩ := hv
  have hst : KtLoop Q w 0 (.slice none 0 0) w := ⟨Nat.zero_le _, World.ownsRow_nil _ _ _ _, Below.refl _ _⟩
  have HST0 := Lib.hid hst
  have HFR := Lib.hid hQ
  clear hst hQ
  go_enter Tryz.func28, Tryz.ntmps28
  go_wp2_with fail
  go_loopw [3, 4] (fun ov iv wr => ∃ (k : Nat) (vv : Value), KtLoop Q w k vv wr ∧ vv = ov ∧ iv = .int .i64 (k : Int)) (fun _ iv _ => Q.length - (intOf iv).toNat)
  case atStart => exact ⟨0, _, HST0.out, rfl, rfl⟩
  case round =>
    obtain ⟨k, ov, hst, rfl, rfl⟩ := hrel
    obtain ⟨hkl, hown, hbr⟩ := hst
    by_cases hk : k < Q.length
    · obtain ⟨b, off, rfl, hbl, hcell⟩ := hxx (by omega)
      obtain ⟨c0, c1, c2, c3⟩ := hcell k hk
      rw [← hbr.cell (p := ⟨b, off + k * 4, none⟩) hbl] at c0
      rw [← hbr.cell (p := ⟨b, off + k * 4 + 1, none⟩) hbl] at c1
      rw [← hbr.cell (p := ⟨b, off + k * 4 + 2, none⟩) hbl] at c2
      rw [← hbr.cell (p := ⟨b, off + k * 4 + 2 + 1, none⟩) hbl] at c3
      have hkn : decide ((k : Int) < (Q.length : Int)) = true := decide_eq_true (by omega)
      have i1 : (0 : Int) ≤ (k : Int) := by omega
      have i2 : (k : Int) < (Q.length : Int) := by omega
      have hblr : b < wr.heap.size := Nat.lt_of_lt_of_le hbl hbr.size
      have hfr := HFR.out.at hk
      have HT1 := Lib.hid (fun w' => ref_Text' Q[k].1 w' (hfr.1.mono (by omega) (by omega)))
      have HT2 := Lib.hid (fun w' => ref_Text' Q[k].2 w' (hfr.2.mono (by omega) (by omega)))
      have HNX := Lib.hid (fun (v' : Value) (w' : World) => KtLoop.next (Q := Q) (w := w) (w' := w') (v' := v') hk)
      have hol := cellsS_len ((Q.take k).map textP)
      obtain ⟨i0, hi, hz0, hz1, hz2⟩ := info_parts slKnotA.info
      have s1 : (tx Q[k].1).size ≤ 1000000 := by
        rw [Lib.size_eq]
        have h1 := rlen_le Q[k].1
        have h2 := (itoa_len_le Q[k].1.num).2
        have h3 := hfr.1
        have h4 : nDigits Q[k].1.num.natAbs ≤ 4 := nDigits_le_of_lt (by have := h3.1; omega) (by omega)
        have h5 : nDigits Q[k].1.den ≤ 4 := nDigits_le_of_lt (by have := h3.2; omega) (by omega)
        simp only
        omega
      unfold fracV at HT1 HT2
      clear hcell hxx hfr s1
      generalize Q[k] = A at *
      generalize A.1.num = a0 at *
      generalize (A.1.den : Int) = a1 at *
      generalize A.2.num = a2 at *
      generalize (A.2.den : Int) = a3 at *
      generalize tx A.1 = t1 at *
      generalize tx A.2 = t2 at *
      go_wp2_with fail
      refine wp_held_list (fun W' => Below wr.heap.size wr W') [0, 1, 2, 3, 4, 5, 7, 8, 9, 10, 11] [6, 12, 13, 14] 15 (by kernel_rfl) (by kernel_rfl) ⟨rfl, rfl, rfl, Nat.le_refl _, fun _ _ => rfl⟩ ?_
      iterate 11
        refine wpTakeL_step rfl ?_ rfl ?_ ?_
        rotate_left
        · intro W' hS'
          have s0 := (hS'.cell (p := ⟨b, off + k * 4, none⟩) hblr).trans c0
          have s1 := (hS'.cell (p := ⟨b, off + k * 4 + 1, none⟩) hblr).trans c1
          have s2 := (hS'.cell (p := ⟨b, off + k * 4 + 2, none⟩) hblr).trans c2
          have s3 := (hS'.cell (p := ⟨b, off + k * 4 + 2 + 1, none⟩) hblr).trans c3
          go_simp
          try with_reducible rfl
        try simp only [List.getElem_toArray, List.getElem_cons_zero, List.getElem_cons_succ, Act.put, List.setIfInBounds_toArray, List.set_cons_zero, List.set_cons_succ]
      have hH0 : Below wr.heap.size wr wr.drew := ⟨rfl, rfl, rfl, Nat.le_refl _, fun _ _ => rfl⟩
      clear c0 c1 c2 c3
      refine wpKeepL_step rfl rfl (fun K hK => ?_)
      go_simp
      refine (HT1.out _).mono ?_
      rintro e w3 ⟨rfl, hb3⟩
      have hH1 := hH0.trans (hb3.mono hH0.size)
      refine hK _ _ ⟨hH1, ?_⟩
      clear hK K
      try simp only [List.getElem_toArray, List.getElem_cons_zero, List.getElem_cons_succ, Act.put, List.setIfInBounds_toArray, List.set_cons_zero, List.set_cons_succ]
      refine wpKeepL_step rfl rfl (fun K hK => ?_)
      go_simp
      refine (HT2.out _).mono ?_
      rintro e w4 ⟨rfl, hb4⟩
      have hH2 := hH1.trans (hb4.mono hH1.size)
      refine hK _ _ ⟨hH2, ?_⟩
      clear hK K
      try simp only [List.getElem_toArray, List.getElem_cons_zero, List.getElem_cons_succ, Act.put, List.setIfInBounds_toArray, List.set_cons_zero, List.set_cons_succ]
      refine wpKeepL_step rfl rfl (fun K hK => ?_)
      go_simp
      refine hK _ _ ⟨hH2, ?_⟩
      clear hK K
      try simp only [List.getElem_toArray, List.getElem_cons_zero, List.getElem_cons_succ, Act.put, List.setIfInBounds_toArray, List.set_cons_zero, List.set_cons_succ]
      refine wpKeepL_step rfl rfl (fun K hK => ?_)
      go_simp
      refine hK _ _ ⟨hH2.trans ((alloc_below _ _).mono hH2.size), ?_⟩
      clear hK K
      unfold wpKeepL
      simp only [List.drop_succ_cons, List.drop_zero]
      try simp only [List.getElem_toArray, List.getElem_cons_zero, List.getElem_cons_succ, Act.put, List.setIfInBounds_toArray, List.set_cons_zero, List.set_cons_succ]
      have hown4 := owns_below hown hH2
      have hbw4 := hbr.trans (hH2.mono hbr.size)
      have hbs4 := hbw4.size
      clear hown hH0 hH1
      refine wpKeep_step rfl (fun K hK => ?_)
      refine wp_append_own _ (.tmp 11) (.tmp 25) 51 rfl w.heap.size 97 i0 (.agg #[.string ⟨#[]⟩, .string ⟨#[]⟩]) 2 32 slKnotA.ht hi hz0 hz1 hz2 slKnotA.hzs slKnotA.hsz _ _ _ rfl (hown4.alloc _) ⟨w4.heap.size, 0, none⟩ 1 1 [.string t1, .string t2] rfl rfl (cell_two_new _ _ _ _) (by simp [Value.oneCell']) (by unfold maxLen; omega) (by omega) (by simp; omega) ?_
      intro v' w5 hown5 hgrow _
      have hb5 : Below w.heap.size w w5 := (hbw4.trans ((alloc_below w4 _).mono hbs4)).grown hgrow (by simp; omega) (fun g hg => (hown4.lt g hg).1)
      have HN := Lib.hid (HNX.out v' w5 hown5 hb5)
      clear hown5 hown4
      refine hK _ _ ⟨trivial, ?_⟩
      clear hK K
      try simp only [Act.put, List.setIfInBounds_toArray, List.set_cons_zero, List.set_cons_succ]
      refine wpKeep_step rfl (fun K hK => ?_)
      go_simp
      refine hK _ _ ⟨trivial, wpKeep_nil ?_⟩
      clear hK K
      try simp only [List.getElem_toArray, List.getElem_cons_zero, List.getElem_cons_succ, Act.put, List.setIfInBounds_toArray, List.set_cons_zero, List.set_cons_succ]
      refine NormalOnly.mk ?_
      go_wp2
      refine ⟨⟨k + 1, v', HN.out, rfl, int_succ k⟩, ?_⟩
      show Q.length - ((k : Int) + 1).toNat < Q.length - ((k : Int)).toNat
      omega
    · have hkn : decide ((k : Int) < (Q.length : Int)) = false := decide_eq_false (by omega)
      obtain rfl : k = Q.length := by omega
      have HP := Lib.hid (show Pairs wr ov (Q.map textP) by
        rw [List.take_length] at hown
        exact pairs_of_cells (by rw [List.length_map]; exact hown))
      clear hown hxx
      go_wp2
      go_ret
      exact ⟨_, rfl, HP.out, hbr⟩
theorem okR2 {q : Rat} {N D : Nat} (h : Fr N D q) (h1 : N < 10 ^ 200) (h2 : D < 10 ^ 200) : ratB (tx q).data.toList = true ∧ ratV (tx q) = q :=
  okText q (by simp) (by have := h.1; omega) (by have := h.2; omega)
theorem texts_rats {Q : List QP} (h : FrAll Q) : rats (Q.map textP) = Q := by
  induction Q with
  | nil => rfl
  | cons p r ih =>
    have hp := h p (List.mem_cons_self ..)
    have e1 := (okR2 hp.1 (by decide) (by decide)).2
    have e2 := (okR2 hp.2 (by decide) (by decide)).2
    rw [List.map_cons, rats_cons, ih (fun q hq => h q (List.mem_cons_of_mem _ hq))]
    unfold textP
    dsimp only
    rw [e1, e2]
theorem texts_ok {Q : List QP} (h : FrAll Q) : AllOk (Q.map textP) := by
  intro p hp
  obtain ⟨q, hq, rfl⟩ := List.mem_map.1 hp
  have hf := h q hq
  exact ⟨(okR2 hf.1 (by decide) (by decide)).1, (okR2 hf.2 (by decide) (by decide)).1⟩
theorem texts_err {Q : List QP} (h : FrAll Q) (hp : Q.Pairwise (fun x y => x.1 < y.1)) (h0 : 0 < Q.length) (hl : Q.length ≤ 100) : knotsErr (Q.map textP) = 0 :=
  knotsErr_zero (by rw [List.length_map]; exact h0) (by rw [List.length_map]; exact hl) (texts_ok h) (by rw [texts_rats h]; exact hp)
end Go.Proofs.YtbogpbjddaoeiaaGreatDoor
