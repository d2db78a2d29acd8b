import Derived.Test.YtbogpbjddaoeiaaGreatDoorPtsZ
namespace Go.Proofs.YtbogpbjddaoeiaaGreatDoor
open Go.RowKit
/-- q is a whole number of D-ths, and at most B. -/
def Dn (B D : Nat) (q : Rat) : Prop := ∃ a : Int, q = mkRat a D ∧ a.natAbs ≤ B * D
theorem Dn.fr {B D : Nat} {q : Rat} (h0 : 0 < D) (h : Dn B D q) : Fr (B * D) D q := by
  obtain ⟨a, rfl, ha⟩ := h
  exact Fr.mkRat h0 ha (Nat.le_refl _)
theorem Dn.mono {B B' D : Nat} {q : Rat} (h : Dn B D q) (hb : B ≤ B') : Dn B' D q := by
  obtain ⟨a, e, ha⟩ := h
  exact ⟨a, e, Nat.le_trans ha (Nat.mul_le_mul_right _ hb)⟩
theorem mkRat_same {a b : Int} {D : Nat} (h : D ≠ 0) : mkRat a D + mkRat b D = mkRat (a + b) D := by
  rw [Rat.mkRat_add_mkRat _ _ h h, ← Int.add_mul]
  exact Rat.mkRat_mul_right h
theorem Dn.add {B1 B2 D : Nat} {p q : Rat} (h0 : 0 < D) (h : Dn B1 D p) (k : Dn B2 D q) : Dn (B1 + B2) D (p + q) := by
  obtain ⟨a, rfl, ha⟩ := h
  obtain ⟨b, rfl, hb⟩ := k
  refine ⟨a + b, mkRat_same (by omega), ?_⟩
  rw [Nat.add_mul]
  omega
theorem Dn.sub {B1 B2 D : Nat} {p q : Rat} (h0 : 0 < D) (h : Dn B1 D p) (k : Dn B2 D q) : Dn (B1 + B2) D (p - q) := by
  obtain ⟨b, rfl, hb⟩ := k
  rw [Rat.sub_eq_add_neg, Rat.neg_mkRat]
  exact h.add h0 ⟨-b, rfl, by omega⟩
theorem Dn.mul {B1 B2 D1 D2 : Nat} {p q : Rat} (h : Dn B1 D1 p) (k : Dn B2 D2 q) : Dn (B1 * B2) (D1 * D2) (p * q) := by
  obtain ⟨a, rfl, ha⟩ := h
  obtain ⟨b, rfl, hb⟩ := k
  refine ⟨a * b, Rat.mkRat_mul_mkRat _ _ _ _, ?_⟩
  have := abs_mul_le ha hb
  rw [show B1 * B2 * (D1 * D2) = B1 * D1 * (B2 * D2) by ac_rfl]
  exact this
theorem Dn.scale {B D c D' : Nat} {q : Rat} (hc : 0 < c) (e : D * c = D') (h : Dn B D q) : Dn B D' q := by
  obtain ⟨a, rfl, ha⟩ := h
  subst e
  refine ⟨a * c, (Rat.mkRat_mul_right (by omega)).symm, ?_⟩
  rw [Int.natAbs_mul, ← Nat.mul_assoc]
  exact Nat.mul_le_mul_right _ ha
theorem Dn.half {n : Int} {B : Nat} (h : n.natAbs ≤ B * 2) : Dn B 2 (mkRat n 2) := ⟨n, rfl, h⟩
/-- one over a gap of 1 to 8 halves -/
theorem Dn.gap {b : Nat} (h1 : 1 ≤ b) (h2 : b ≤ 8) : Dn 2 840 (mkRat b 2)⁻¹ := by
  have hb : b = 1 ∨ b = 2 ∨ b = 3 ∨ b = 4 ∨ b = 5 ∨ b = 6 ∨ b = 7 ∨ b = 8 := by omega
  rcases hb with rfl | rfl | rfl | rfl | rfl | rfl | rfl | rfl
  · exact ⟨1680, by decide +kernel, by decide⟩
  · exact ⟨840, by decide +kernel, by decide⟩
  · exact ⟨560, by decide +kernel, by decide⟩
  · exact ⟨420, by decide +kernel, by decide⟩
  · exact ⟨336, by decide +kernel, by decide⟩
  · exact ⟨280, by decide +kernel, by decide⟩
  · exact ⟨240, by decide +kernel, by decide⟩
  · exact ⟨210, by decide +kernel, by decide⟩
/-- knots at halves -/
structure Halved (Q : List QP) : Prop where
  all : ∀ p ∈ Q, Dn 96 2 p.1 ∧ Dn 64 2 p.2
  gap : ∀ n (h : n + 1 < Q.length), ∃ b : Nat, 1 ≤ b ∧ b ≤ 8 ∧ Q[n + 1].1 - Q[n].1 = mkRat b 2
theorem Halved.slope {Q : List QP} (h : Halved Q) {n : Nat} (hn : n ≤ Q.length) : Dn 256 1680 (slopeQ Q n) := by
  by_cases h0 : n = 0 ∨ n = Q.length
  · rw [slopeQ_end h0]; exact ⟨0, by decide +kernel, by decide⟩
  · obtain ⟨m, rfl⟩ : ∃ m, n = m + 1 := ⟨n - 1, by omega⟩
    have h1 : m + 1 < Q.length := by omega
    have h2 : m < Q.length := by omega
    rw [slopeQ_eq (by omega) h1 (m := m) (by omega)]
    obtain ⟨b, b1, b2, hb⟩ := h.gap m h1
    rw [hb]
    exact (((h.all _ (List.getElem_mem h1)).2.sub (by decide) (h.all _ (List.getElem_mem h2)).2).mul (Dn.gap b1 b2)).mono (by decide)
theorem Halved.value {Q : List QP} (h : Halved Q) (hp : Q.Pairwise (fun x y => x.1 < y.1)) {x : Rat} (hx : Dn 192 2 x) (hl : 0 < Q.length) : Dn 80000 3360 (valueQ Q x) := by
  have hle : segQ Q x ≤ Q.length := by rw [← cntQ_seg hp]; exact cntQ_le Q x
  by_cases h0 : segQ Q x = 0
  · rw [valueQ_zero h0 hl]
    exact ((h.all _ (List.getElem_mem hl)).2.scale (c := 1680) (by decide) rfl).mono (by decide)
  · have hm : segQ Q x - 1 < Q.length := by omega
    rw [valueQ_pos rfl h0 rfl hm]
    have ha := h.all _ (List.getElem_mem hm)
    exact ((ha.2.scale (c := 1680) (by decide) rfl).add (by decide) ((h.slope hle).mul (hx.sub (by decide) ha.1))).mono (by decide)
theorem ptsN_at {D : List Duo} {k i : Nat} (h : i < (ptsN D k).length) : (ptsN D k)[i] = knotN D i := by
  have h' : i < ((List.range k).map (knotN D)).length := h
  show ((List.range k).map (knotN D))[i]'h' = _
  simp only [List.getElem_map, List.getElem_range]
theorem halved_ptsQ {D : List Duo} (h : ∀ d ∈ D, okDuo d) : Halved (ptsQ D) := by
  unfold ptsQ
  split
  · refine ⟨fun p hp => ?_, fun n hn => by simp at hn⟩
    simp only [List.mem_cons, List.not_mem_nil, or_false] at hp
    subst hp
    exact ⟨⟨0, by decide +kernel, by decide⟩, 0, by decide +kernel, by decide⟩
  · refine ⟨fun p hp => ?_, fun n hn => ?_⟩
    · unfold ptsN at hp
      obtain ⟨j, hj, rfl⟩ := List.mem_map.1 hp
      have hj' := List.mem_range.1 hj
      have hb := atN_bound h (j + 1) (by omega)
      have hd := h (D.getD j (0, 0)) (getD_mem (by omega))
      unfold okDuo at hd
      exact ⟨Dn.half (by omega), Dn.half (by omega)⟩
    · have hn2 := hn
      rw [ptsN_len] at hn2
      refine ⟨(1 + (max (D.getD (n + 1) (0, 0)).1 (-(D.getD (n + 1) (0, 0)).1)) % 8).toNat, by omega, by omega, ?_⟩
      have e : atN D (n + 1 + 1) = atN D (n + 1) + (1 + (max (D.getD (n + 1) (0, 0)).1 (-(D.getD (n + 1) (0, 0)).1)) % 8) := by
        conv => lhs; unfold atN
        rw [if_neg (by omega)]
      rw [ptsN_at, ptsN_at]
      unfold knotN
      show mkRat (atN D (n + 1 + 1)) 2 - mkRat (atN D (n + 1)) 2 = _
      rw [e, Rat.sub_eq_add_neg, Rat.neg_mkRat, mkRat_same (by decide)]
      congr 1
      omega
end Go.Proofs.YtbogpbjddaoeiaaGreatDoor
namespace Go.Proofs.YtbogpbjddaoeiaaGreatDoor
open Go.RowKit
/-- the knots between two numbers -/
def insQ (lo hi : Rat) : List QP → List Rat
  | [] => []
  | k :: r => if lo < k.1 ∧ k.1 < hi then k.1 :: insQ lo hi r else insQ lo hi r
theorem insQ_snoc (lo hi : Rat) (p : QP) : ∀ L : List QP, insQ lo hi (L ++ [p]) = insQ lo hi L ++ (if lo < p.1 ∧ p.1 < hi then [p.1] else [])
  | [] => by
    show insQ lo hi [p] = _
    unfold insQ
    split <;> rfl
  | k :: r => by
    rw [List.cons_append]
    unfold insQ
    split
    · rw [insQ_snoc lo hi p r]; rfl
    · exact insQ_snoc lo hi p r
theorem insQ_len (lo hi : Rat) : ∀ L : List QP, (insQ lo hi L).length ≤ L.length
  | [] => Nat.le_refl _
  | k :: r => by
    unfold insQ
    have := insQ_len lo hi r
    split <;> simp only [List.length_cons] <;> omega
theorem insQ_mem {lo hi x : Rat} : ∀ {L : List QP}, x ∈ insQ lo hi L → lo < x ∧ x < hi ∧ ∃ p ∈ L, x = p.1
  | [], h => by cases h
  | k :: r, h => by
    unfold insQ at h
    split at h
    · rename_i hk
      rcases List.mem_cons.1 h with rfl | h'
      · exact ⟨hk.1, hk.2, k, List.mem_cons_self .., rfl⟩
      · obtain ⟨a, b, p, hp, e⟩ := insQ_mem h'
        exact ⟨a, b, p, List.mem_cons_of_mem _ hp, e⟩
    · obtain ⟨a, b, p, hp, e⟩ := insQ_mem h
      exact ⟨a, b, p, List.mem_cons_of_mem _ hp, e⟩
theorem insQ_low {lo lo' hi : Rat} : ∀ {L : List QP}, (∀ p ∈ L, lo < p.1 ∧ lo' < p.1) → insQ lo hi L = insQ lo' hi L
  | [], _ => rfl
  | k :: r, h => by
    have h1 := h k (List.mem_cons_self ..)
    have ih := insQ_low (hi := hi) (L := r) fun p hp => h p (List.mem_cons_of_mem _ hp)
    unfold insQ
    rw [ih]
    by_cases hk : k.1 < hi
    · rw [if_pos ⟨h1.1, hk⟩, if_pos ⟨h1.2, hk⟩]
    · rw [if_neg fun h => hk h.2, if_neg fun h => hk h.2]
theorem insQ_none {lo hi : Rat} : ∀ {L : List QP}, (∀ p ∈ L, ¬ p.1 < hi) → insQ lo hi L = []
  | [], _ => rfl
  | k :: r, h => by
    unfold insQ
    rw [if_neg fun hk => h k (List.mem_cons_self ..) hk.2]
    exact insQ_none fun p hp => h p (List.mem_cons_of_mem _ hp)
/-- neighbours -/
def pairsQ : Rat → List Rat → List QP
  | _, [] => []
  | f, x :: r => (f, x) :: pairsQ x r
theorem pairsQ_len : ∀ (f : Rat) (l : List Rat), (pairsQ f l).length = l.length
  | _, [] => rfl
  | f, x :: r => by
    unfold pairsQ
    rw [List.length_cons, List.length_cons, pairsQ_len x r]
theorem pairsQ_at : ∀ (f : Rat) (l : List Rat) (i : Nat) (h : i < (pairsQ f l).length) (h1 : i < (f :: l).length) (h2 : i < l.length), (pairsQ f l)[i] = ((f :: l)[i], l[i])
  | _, [], _, _, _, h2 => absurd h2 (by simp)
  | _, _ :: _, 0, _, _, _ => rfl
  | _, x :: r, i + 1, h, h1, h2 => by
    have h2' : i < r.length := by simpa using h2
    exact pairsQ_at x r i (by rw [pairsQ_len]; exact h2') (by simp; omega) h2'
theorem stepsQ_pairs (hi : Rat) : ∀ (f : Rat) (Q : List QP), Q.Pairwise (fun x y => x.1 < y.1) → stepsQ hi f Q = pairsQ f (insQ f hi Q ++ [hi])
  | f, [], _ => rfl
  | f, k :: r, h => by
    obtain ⟨h1, h2⟩ := List.pairwise_cons.1 h
    unfold stepsQ insQ
    by_cases hf : f < k.1
    · rw [if_pos hf]
      by_cases hk : k.1 < hi
      · rw [if_pos hk, if_pos ⟨hf, hk⟩, List.cons_append]
        unfold pairsQ
        rw [stepsQ_pairs hi k.1 r h2, insQ_low (lo := f) (lo' := k.1) fun p hp => ⟨rat_lt_trans hf (h1 p hp), h1 p hp⟩]
      · rw [if_neg hk, if_neg fun h => hk h.2, insQ_none fun p hp hc => hk (rat_lt_trans (h1 p hp) hc)]
        rfl
    · rw [if_neg hf, if_neg fun h => hf h.1]
      exact stepsQ_pairs hi f r h2
theorem sumQ_snoc (L l : List QP) (p : QP) : sumQ L (l ++ [p]) = sumQ L l + termQ L p := by unfold sumQ; rw [List.foldl_append]; rfl
theorem Halved.both {Q : List QP} (h : Halved Q) (hp : Q.Pairwise (fun x y => x.1 < y.1)) (hl : 0 < Q.length) {x y : Rat} (hx : Dn 192 2 x) (hy : Dn 192 2 y) : Dn 160000 3360 (valueQ Q x + valueQ Q y) := by
  have h1 := h.value hp hx hl
  have h2 := h.value hp hy hl
  have h3 := Dn.add (by decide) h1 h2
  exact h3.mono (by decide)
theorem gap_half {x y : Rat} (hx : Dn 192 2 x) (hy : Dn 192 2 y) : Dn 384 4 ((y - x) * (1 / 2)) := by
  have h1 : Dn 1 2 (1 / 2) := ⟨1, by decide +kernel, by decide⟩
  have h2 := Dn.sub (by decide) hy hx
  have h3 := Dn.mul h2 h1
  exact h3.mono (by decide)
theorem term_dn {Q : List QP} (h : Halved Q) (hp : Q.Pairwise (fun x y => x.1 < y.1)) (hl : 0 < Q.length) {x y : Rat} (hx : Dn 192 2 x) (hy : Dn 192 2 y) : Dn 61440000 13440 ((valueQ Q x + valueQ Q y) * ((y - x) * (1 / 2))) := by
  have h1 := Dn.mul (h.both hp hl hx hy) (gap_half hx hy)
  exact h1.mono (by decide)
theorem termQ_eq (Q : List QP) (x y : Rat) : (valueQ Q x + valueQ Q y) * ((y - x) * (1 / 2)) = termQ Q (x, y) := by
  unfold termQ
  show _ = (valueQ Q x + valueQ Q y) * (1 / 2) * (y - x)
  rw [Rat.mul_assoc, Rat.mul_comm (y - x)]
/-- the sum of the first k terms -/
theorem sum_dn {Q : List QP} (h : Halved Q) (hp : Q.Pairwise (fun x y => x.1 < y.1)) (hl : 0 < Q.length) : ∀ (l : List QP), (∀ p ∈ l, Dn 192 2 p.1 ∧ Dn 192 2 p.2) → ∀ (k : Nat) (s : Rat), Dn (61440000 * k) 13440 s → Dn (61440000 * (k + l.length)) 13440 (l.foldl (fun s p => s + termQ Q p) s)
  | [], _, k, s, hs => hs
  | p :: r, hm, k, s, hs => by
    have h1 := hm p (List.mem_cons_self ..)
    have h2 := term_dn h hp hl h1.1 h1.2
    rw [termQ_eq] at h2
    have h3 := Dn.add (by decide) hs h2
    have h4 := sum_dn h hp hl r (fun p hp => hm p (List.mem_cons_of_mem _ hp)) (k + 1) (s + termQ Q p) (h3.mono (by omega))
    rw [List.foldl_cons, List.length_cons]
    exact h4.mono (by omega)
end Go.Proofs.YtbogpbjddaoeiaaGreatDoor
namespace Go.Proofs.YtbogpbjddaoeiaaGreatDoor
open Go.RowKit
def cellsF (P : List Rat) : List Value := P.flatMap fun q => [.int .i64 q.num, .int .i64 (q.den : Int)]
theorem cellsF_len (P : List Rat) : (cellsF P).length = P.length * 2 := by
  induction P with
  | nil => rfl
  | cons p r ih => unfold cellsF at *; rw [List.flatMap_cons, List.length_append, ih, List.length_cons]; simp; omega
theorem cellsF_snoc (P : List Rat) (q : Rat) : cellsF (P ++ [q]) = cellsF P ++ [.int .i64 q.num, .int .i64 (q.den : Int)] := by unfold cellsF; simp
theorem cellsF_get : ∀ (P : List Rat) (i : Nat) (hi : i < P.length) (j : Nat) (hj : j < 2), (cellsF P)[i * 2 + j]? = some ([Value.int .i64 P[i].num, .int .i64 (P[i].den : Int)][j])
  | [], i, hi, _, _ => by simp at hi
  | q :: r, 0, _, j, hj => by
    unfold cellsF
    rw [List.flatMap_cons, List.getElem?_append_left (by simp; omega)]
    simp only [Nat.zero_mul, Nat.zero_add, List.getElem_cons_zero]
    rw [List.getElem?_eq_getElem (by simpa using hj)]
  | q :: r, i + 1, hi, j, hj => by
    unfold cellsF
    rw [List.flatMap_cons, List.getElem?_append_right (by simp; omega)]
    have := cellsF_get r i (by simpa using hi) j hj
    unfold cellsF at this
    rw [show (i + 1) * 2 + j - [Value.int .i64 q.num, .int .i64 (q.den : Int)].length = i * 2 + j by simp; omega]
    simpa using this
/-- The slice v holds these fractions. -/
def Fracs (w : World) (v : Value) (P : List Rat) : Prop :=
  ∃ p c, v = .slice p P.length c ∧ P.length ≤ c ∧ c ≤ maxLen ∧ (0 < P.length → ∃ b off, p = some ⟨b, off, none⟩ ∧ b < w.heap.size ∧ ∀ i (h : i < P.length), w.cell? ⟨b, off + i * 2, none⟩ = some (.int .i64 P[i].num) ∧ w.cell? ⟨b, off + i * 2 + 1, none⟩ = some (.int .i64 (P[i].den : Int)))
theorem fracs_of_owns {w : World} {base : Nat} {v : Value} {P : List Rat} (h : w.ownsRow base 47 2 v P.length (cellsF P)) : Fracs w v P := by
  obtain ⟨_, p, c, rfl, hc, hm, hx⟩ := Reads.of_owns h
  refine ⟨p, c, rfl, hc, hm, fun h0 => ?_⟩
  obtain ⟨b, off, hp, hbl, hcell⟩ := hx h0
  refine ⟨b, off, hp, hbl, fun i hi => ?_⟩
  have hg := fun j hj => cellsF_get P i hi j hj
  have hl := cellsF_len P
  have go : ∀ j (hj : j < 2), w.cell? ⟨b, off + (i * 2 + j), none⟩ = some ([Value.int .i64 P[i].num, .int .i64 (P[i].den : Int)][j]) := by
    intro j hj
    have h1 := hcell (i * 2 + j) (by omega)
    rw [h1, ← hg j hj, List.getElem?_eq_getElem]
  exact ⟨go 0 (by decide), go 1 (by decide)⟩
theorem slFracF : SliceOf 125 47 (.agg #[.int .i64 0, .int .i64 0]) 2 16 := ⟨Tryz.underlying125, by kernel_rfl, rfl, by decide⟩
/-- the points of the integral, after k knots -/
def rowQ (lo hi : Rat) (Q : List QP) (k : Nat) : List Rat := lo :: insQ lo hi (Q.take k)
theorem rowQ_zero (lo hi : Rat) (Q : List QP) : rowQ lo hi Q 0 = [lo] := rfl
theorem rowQ_in {lo hi : Rat} {Q : List QP} {k : Nat} (hk : k < Q.length) (h1 : lo < Q[k].1) (h2 : Q[k].1 < hi) : rowQ lo hi Q (k + 1) = rowQ lo hi Q k ++ [Q[k].1] := by
  unfold rowQ
  rw [List.take_succ_eq_append_getElem hk, insQ_snoc, if_pos ⟨h1, h2⟩]
  rfl
theorem rowQ_out {lo hi : Rat} {Q : List QP} {k : Nat} (hk : k < Q.length) (h : ¬ (lo < Q[k].1 ∧ Q[k].1 < hi)) : rowQ lo hi Q (k + 1) = rowQ lo hi Q k := by
  unfold rowQ
  rw [List.take_succ_eq_append_getElem hk, insQ_snoc, if_neg h, List.append_nil]
theorem rowQ_len (lo hi : Rat) (Q : List QP) (k : Nat) : (rowQ lo hi Q k).length ≤ Q.length + 1 := by
  unfold rowQ
  have := insQ_len lo hi (Q.take k)
  rw [List.length_cons]
  simp only [List.length_take] at this
  omega
theorem rowQ_full (lo hi : Rat) (Q : List QP) : rowQ lo hi Q Q.length ++ [hi] = lo :: (insQ lo hi Q ++ [hi]) := by unfold rowQ; rw [List.take_length]; rfl
theorem row_dn {lo hi : Rat} {Q : List QP} (h : Halved Q) (hl : Dn 192 2 lo) (hh : Dn 192 2 hi) : ∀ q ∈ lo :: (insQ lo hi Q ++ [hi]), Dn 192 2 q := by
  intro q hq
  rcases List.mem_cons.1 hq with rfl | hq
  · exact hl
  · rcases List.mem_append.1 hq with hq | hq
    · obtain ⟨_, _, p, hp, rfl⟩ := insQ_mem hq
      exact (h.all p hp).1.mono (by decide)
    · rw [List.mem_singleton.1 hq]; exact hh
/-- the sum of the first k pairs of neighbours -/
def sumK (Q : List QP) (lo : Rat) (l : List Rat) (k : Nat) : Rat := sumQ Q ((pairsQ lo l).take k)
theorem sumK_zero (Q : List QP) (lo : Rat) (l : List Rat) : sumK Q lo l 0 = 0 := rfl
theorem sumK_succ {Q : List QP} {lo : Rat} {l : List Rat} {k : Nat} (h1 : k < (lo :: l).length) (h2 : k < l.length) : sumK Q lo l (k + 1) = sumK Q lo l k + (valueQ Q (lo :: l)[k] + valueQ Q l[k]) * ((l[k] - (lo :: l)[k]) * (1 / 2)) := by
  unfold sumK
  have h : k < (pairsQ lo l).length := by rw [pairsQ_len]; exact h2
  rw [List.take_succ_eq_append_getElem h, sumQ_snoc, pairsQ_at lo l k h h1 h2, termQ_eq]
theorem sumK_full (Q : List QP) (lo : Rat) (l : List Rat) : sumK Q lo l l.length = sumQ Q (pairsQ lo l) := by
  unfold sumK
  rw [List.take_of_length_le (by rw [pairsQ_len]; exact Nat.le_refl _)]
theorem pairs_dn : ∀ (lo : Rat) (l : List Rat), (∀ q ∈ lo :: l, Dn 192 2 q) → ∀ p ∈ pairsQ lo l, Dn 192 2 p.1 ∧ Dn 192 2 p.2
  | _, [], _, _, hp => by cases hp
  | lo, x :: r, h, p, hp => by
    unfold pairsQ at hp
    rcases List.mem_cons.1 hp with rfl | hp
    · exact ⟨h _ (List.mem_cons_self ..), h _ (List.mem_cons_of_mem _ (List.mem_cons_self ..))⟩
    · exact pairs_dn x r (fun q hq => h q (List.mem_cons_of_mem _ hq)) p hp
theorem sumK_dn {Q : List QP} (h : Halved Q) (hp : Q.Pairwise (fun x y => x.1 < y.1)) (hl : 0 < Q.length) {lo : Rat} {l : List Rat} (hq : ∀ q ∈ lo :: l, Dn 192 2 q) {k : Nat} (hk : k ≤ 9) : Dn 552960000 13440 (sumK Q lo l k) := by
  unfold sumK sumQ
  have h1 := sum_dn h hp hl ((pairsQ lo l).take k) (fun p hp => pairs_dn lo l hq p (List.mem_of_mem_take hp)) 0 0 ⟨0, by decide +kernel, by decide⟩
  refine h1.mono ?_
  simp only [List.length_take]
  omega
end Go.Proofs.YtbogpbjddaoeiaaGreatDoor
namespace Go.Proofs.YtbogpbjddaoeiaaGreatDoor
open Go.RowKit
def CV (w' : World) (a0 a1 : Int) (e : Ending) (w'' : World) : Prop := e = .returned (.agg #[.int .i64 a0, .int .i64 a1]) ∧ Below w'.heap.size w' w''
/-- what one round of the sum calls -/
def RoundC (Q : List QP) (x y r q : Rat) : Prop := ∃ a0 a1 b0 b1 s0 s1 d0 d1 g0 g1 t0 t1 : Int,
  (∀ w' u, Quads w' u Q → Calls Tryz.prog 39 #[u, .agg #[.int .i64 x.num, .int .i64 (x.den : Int)]] w' (CV w' a0 a1)) ∧
  (∀ w' u, Quads w' u Q → Calls Tryz.prog 39 #[u, .agg #[.int .i64 y.num, .int .i64 (y.den : Int)]] w' (CV w' b0 b1)) ∧
  (∀ w', Calls Tryz.prog 50 #[.agg #[.int .i64 a0, .int .i64 a1], .agg #[.int .i64 b0, .int .i64 b1]] w' (CV w' s0 s1)) ∧
  (∀ w', Calls Tryz.prog 79 #[.agg #[.int .i64 y.num, .int .i64 (y.den : Int)], .agg #[.int .i64 x.num, .int .i64 (x.den : Int)]] w' (CV w' d0 d1)) ∧
  (∀ w', Calls Tryz.prog 78 #[.agg #[.int .i64 d0, .int .i64 d1], .agg #[.int .i64 1, .int .i64 2]] w' (CV w' g0 g1)) ∧
  (∀ w', Calls Tryz.prog 78 #[.agg #[.int .i64 s0, .int .i64 s1], .agg #[.int .i64 g0, .int .i64 g1]] w' (CV w' t0 t1)) ∧
  (∀ w', Calls Tryz.prog 50 #[.agg #[.int .i64 r.num, .int .i64 (r.den : Int)], .agg #[.int .i64 t0, .int .i64 t1]] w' (CV w' q.num (q.den : Int)))
theorem fracV_half : fracV (1 / 2) = .agg #[.int .i64 1, .int .i64 2] := by
  unfold fracV
  rw [show ((1 / 2 : Rat)).num = 1 by decide +kernel, show ((1 / 2 : Rat)).den = 2 by decide +kernel]
  rfl
theorem round_c {Q : List QP} (hQ : FrAll Q) (hH : Halved Q) (hp : Q.Pairwise (fun x y => x.1 < y.1)) (hl : Q.length ≤ 8) (hl0 : 0 < Q.length) {lo : Rat} {l : List Rat} (hq : ∀ q ∈ lo :: l, Dn 192 2 q) {k : Nat} (h1 : k < (lo :: l).length) (h2 : k < l.length) (hk : k < 9) :
    RoundC Q (lo :: l)[k] l[k] (sumK Q lo l k) (sumK Q lo l (k + 1)) := by
  have hx := hq _ (List.getElem_mem h1)
  have hy := hq _ (List.mem_cons_of_mem lo (List.getElem_mem h2))
  have hS := sumK_dn hH hp hl0 hq (k := k) (by omega)
  rw [sumK_succ h1 h2]
  generalize (lo :: l)[k] = x at *
  generalize l[k] = y at *
  generalize sumK Q lo l k = r at *
  have va := hH.value hp hx hl0
  have vb := hH.value hp hy hl0
  have vs := hH.both hp hl0 hx hy
  have vd := Dn.sub (by decide) hy hx
  have vg := gap_half hx hy
  have vt := term_dn hH hp hl0 hx hy
  have vh : Dn 1 2 (1 / 2) := ⟨1, by decide +kernel, by decide⟩
  have c1 := fun w' u (h : Quads w' u Q) => ref_Value u Q x w' h hQ hp ((hx.fr (by decide)).mono (by omega) (by omega)) (by omega) hl0
  have c2 := fun w' u (h : Quads w' u Q) => ref_Value u Q y w' h hQ hp ((hy.fr (by decide)).mono (by omega) (by omega)) (by omega) hl0
  have c3 := fun w' => ref_Add (valueQ Q x) (valueQ Q y) _ _ _ _ w' (va.fr (by decide)) (vb.fr (by decide)) (by decide) (by decide)
  have c4 := fun w' => ref_Sub y x _ _ _ _ w' (hy.fr (by decide)) (hx.fr (by decide)) (by decide) (by decide)
  have c5 := fun w' => ref_Mul (y - x) (1 / 2) _ _ _ _ w' (vd.fr (by decide)) (vh.fr (by decide)) (by decide) (by decide)
  have c6 := fun w' => ref_Mul (valueQ Q x + valueQ Q y) ((y - x) * (1 / 2)) _ _ _ _ w' (vs.fr (by decide)) (vg.fr (by decide)) (by decide) (by decide)
  have c7 := fun w' => ref_Add r ((valueQ Q x + valueQ Q y) * ((y - x) * (1 / 2))) _ _ _ _ w' (hS.fr (by decide)) (vt.fr (by decide)) (by decide) (by decide)
  rw [fracV_half] at c5
  exact ⟨_, _, _, _, _, _, _, _, _, _, _, _, c1, c2, c3, c4, c5, c6, c7⟩
/-- the second loop: the sum of the first k pairs lies in its box -/
def SumSt (Q : List QP) (lo : Rat) (l : List Rat) (w : World) (k : Nat) (wr : World) : Prop :=
  k ≤ l.length ∧ wr.heap[w.heap.size]? = some (.cells #[.int .i64 (sumK Q lo l k).num, .int .i64 ((sumK Q lo l k).den : Int)] 47 (0, 0)) ∧ Below w.heap.size w wr
theorem FourS.keepn {w W W' : World} {p1 p2 p3 p4 : Addr} {a1 a2 a3 a4 : Value} (l1 : p1.block < w.heap.size) (l2 : p2.block < w.heap.size) (l3 : p3.block < w.heap.size) (l4 : p4.block < w.heap.size) (hb : Below w.heap.size W W')
    (h : W.cell? p1 = some a1 ∧ W.cell? p2 = some a2 ∧ W.cell? p3 = some a3 ∧ W.cell? p4 = some a4 ∧ Below w.heap.size w W) : W'.cell? p1 = some a1 ∧ W'.cell? p2 = some a2 ∧ W'.cell? p3 = some a3 ∧ W'.cell? p4 = some a4 ∧ Below w.heap.size w W' :=
  ⟨(hb.cell l1).trans h.1, (hb.cell l2).trans h.2.1, (hb.cell l3).trans h.2.2.1, (hb.cell l4).trans h.2.2.2.1, h.2.2.2.2.trans hb⟩
theorem alloc_swap {n : Nat} {W : World} (h : n ≤ W.heap.size) (o o' : Obj) : Below n (W.alloc o) (W.alloc o') :=
  ⟨rfl, rfl, rfl, by simp, fun k hk => ((alloc_below W o').block k (by omega)).trans ((alloc_below W o).block k (by omega)).symm⟩
theorem FourS.swap {w W : World} {p1 p2 p3 p4 : Addr} {a1 a2 a3 a4 : Value} (o o' : Obj) (l1 : p1.block < w.heap.size) (l2 : p2.block < w.heap.size) (l3 : p3.block < w.heap.size) (l4 : p4.block < w.heap.size) (hs : w.heap.size ≤ W.heap.size)
    (h : (W.alloc o).cell? p1 = some a1 ∧ (W.alloc o).cell? p2 = some a2 ∧ (W.alloc o).cell? p3 = some a3 ∧ (W.alloc o).cell? p4 = some a4 ∧ Below w.heap.size w (W.alloc o)) : (W.alloc o').cell? p1 = some a1 ∧ (W.alloc o').cell? p2 = some a2 ∧ (W.alloc o').cell? p3 = some a3 ∧ (W.alloc o').cell? p4 = some a4 ∧ Below w.heap.size w (W.alloc o') :=
  FourS.keepn l1 l2 l3 l4 (alloc_swap hs o o') h
theorem set_two {n B : Nat} {W : World} (h : n ≤ B) (a b : Value) : Below n W ((W.setCell ⟨B, 0, none⟩ a).setCell ⟨B, 1, none⟩ b) :=
  ((Below.refl n W).setCell (p := ⟨B, 0, none⟩) h a).setCell (p := ⟨B, 1, none⟩) h b
end Go.Proofs.YtbogpbjddaoeiaaGreatDoor
