import Derived.Test.YtbogpbjddaoeiaaGreatDoorRng2Z
import Derived.Test.YtbogpbjddaoeiaaGreatDoorHeldInZ
namespace Go.Proofs.YtbogpbjddaoeiaaGreatDoor
open Go.RowKit Go.Shelf
open Go.Lib (decDigits itoa nDigits)
attribute [local go_sem] Oper.semAt_some
theorem nDigits_add_max {m n k : Nat} (hm : nDigits m ≤ k) (hn : nDigits n ≤ k) : nDigits (m + n) ≤ k + 1 := by
  have h1 := lt_of_nDigits_le hm
  have h2 := lt_of_nDigits_le hn
  refine nDigits_le_of_lt ?_ (by omega)
  rw [Nat.pow_succ]; omega
def nlen (q : Rat) : Nat := nDigits q.num.natAbs
def dlen (q : Rat) : Nat := nDigits q.den
theorem divInt_num_le (n d : Int) (hd : 0 < d) : (Rat.divInt n d).num.natAbs ≤ n.natAbs := by
  rw [divInt_pos hd, Rat.num_mkRat, if_neg (by omega)]
  have h : ((d.toNat.gcd n.natAbs : Nat) : Int) ∣ n := by
    rw [Int.ofNat_dvd_left]; exact Nat.gcd_dvd_right _ _
  rw [← tdiv_gcd h, Int.natAbs_tdiv]; exact Nat.div_le_self _ _
theorem divInt_den_le (n d : Int) (hd : 0 < d) : (Rat.divInt n d).den ≤ d.natAbs := by
  rw [divInt_pos hd, Rat.den_mkRat, if_neg (by omega)]
  have := Nat.div_le_self d.toNat (d.toNat.gcd n.natAbs)
  omega
theorem dlen_add (p q : Rat) : dlen (p + q) ≤ dlen p + dlen q := by
  unfold dlen
  rw [add_divInt]
  have hd : 0 < (p.den : Int) * (q.den : Int) := by rw [← Int.natCast_mul]; have := Nat.mul_pos p.den_pos q.den_pos; omega
  have h1 := nDigits_mono (divInt_den_le (p.num * q.den + q.num * p.den) _ hd)
  have h2 := nDigits_mul_le p.den q.den
  have h6 : ((p.den : Int) * (q.den : Int)).natAbs = p.den * q.den := by rw [Int.natAbs_mul]; simp
  rw [h6] at h1; omega
theorem nlen_add (p q : Rat) {k : Nat} (h1 : nlen p + dlen q ≤ k) (h2 : nlen q + dlen p ≤ k) : nlen (p + q) ≤ k + 1 := by
  unfold nlen dlen at *
  rw [add_divInt]
  have hd : 0 < (p.den : Int) * (q.den : Int) := by rw [← Int.natCast_mul]; have := Nat.mul_pos p.den_pos q.den_pos; omega
  have a1 := nDigits_mono (divInt_num_le (p.num * q.den + q.num * p.den) _ hd)
  have h4 : (p.num * (q.den : Int) + q.num * (p.den : Int)).natAbs ≤ p.num.natAbs * q.den + q.num.natAbs * p.den := by
    have e1 : (p.num * (q.den : Int)).natAbs = p.num.natAbs * q.den := by rw [Int.natAbs_mul]; simp
    have e2 : (q.num * (p.den : Int)).natAbs = q.num.natAbs * p.den := by rw [Int.natAbs_mul]; simp
    omega
  have b1 := nDigits_mul_le p.num.natAbs q.den
  have b2 := nDigits_mul_le q.num.natAbs p.den
  have := nDigits_add_max (m := p.num.natAbs * q.den) (n := q.num.natAbs * p.den) (k := k) (by omega) (by omega)
  have a2 := nDigits_mono h4
  omega
theorem isR_nlen {s : ByteArray} {q : Rat} (h : IsR s q) : nlen q ≤ s.size ∧ dlen q ≤ s.size := by
  unfold nlen dlen
  rw [h.size]
  have h1 := rlen_num q
  have h2 := nDigits_natAbs q.num
  exact ⟨Nat.le_trans h2 h1, rlen_den q⟩
theorem isR_size_nd {s : ByteArray} {q : Rat} (h : IsR s q) : s.size ≤ nlen q + dlen q + 2 := by
  rw [h.size]
  have h1 := rlen_le q
  have h2 := (itoa_len_le q.num).2
  exact Nat.le_trans h1 (by unfold nlen dlen; omega)
/-- the integral over one interval, and over some -/
noncomputable def termI (L : List Pair) (p : Pair) : Rat := (valueV L (ratV p.1) + valueV L (ratV p.2)) * (1 / 2) * (ratV p.2 - ratV p.1)
noncomputable def sumI (L : List Pair) (l : List Pair) : Rat := l.foldl (fun s p => s + termI L p) 0
theorem sumI_snoc (L l : List Pair) (p : Pair) : sumI L (l ++ [p]) = sumI L l + termI L p := by unfold sumI; rw [List.foldl_append]; rfl
def Small (k : Nat) (q : Rat) : Prop := nlen q ≤ (k + 1) * 400000 ∧ dlen q ≤ k * 300000 + 1
theorem Small.zero : Small 0 0 := by
  unfold Small nlen dlen
  have h0 : nDigits (0 : Rat).num.natAbs = 1 := Go.Lib.nDigits_small (by decide)
  have h1 : nDigits (0 : Rat).den = 1 := Go.Lib.nDigits_small (by decide)
  omega
theorem small_step {a b c d u t k T S : Nat} (hTS : T + 1 ≤ S) (h1 : a ≤ (k + 1) * S) (h2 : b ≤ k * T + 1) (hn : c ≤ T) (hd : d ≤ T) (hu : ∀ m, a + d ≤ m → c + b ≤ m → u ≤ m + 1) (ht : t ≤ b + d) : u ≤ (k + 1 + 1) * S ∧ t ≤ (k + 1) * T + 1 := by
  have e1 : (k + 1 + 1) * S = (k + 1) * S + S := by rw [Nat.add_mul (k + 1) 1 S]; omega
  have e2 : (k + 1) * T = k * T + T := by rw [Nat.add_mul k 1 T]; omega
  have e3 : k * T ≤ k * S := Nat.mul_le_mul_left _ (by omega)
  have e4 : (k + 1) * S = k * S + S := by rw [Nat.add_mul k 1 S]; omega
  have := hu ((k + 1) * S + T) (by omega) (by omega)
  exact ⟨by omega, by omega⟩
theorem Small.add {k : Nat} {p q : Rat} (h : Small k p) (hn : nlen q ≤ 300000) (hd : dlen q ≤ 300000) : Small (k + 1) (p + q) :=
  small_step (T := 300000) (S := 400000) (by decide) h.1 h.2 hn hd (fun _ h1 h2 => nlen_add p q h1 h2) (dlen_add p q)
/-- what is known between two rounds -/
structure IntInv (w2 : World) (s0 s1 : Nat) (L : List Pair) (pre : List RP) (W : World) : Prop where
  low : Below s0 w2 W
  sum : ∃ r : ByteArray, Boxed W s0 31 (.string r) ∧ IsR r (sumI L (pre.map (·.1)))
  small : Small pre.length (sumI L (pre.map (·.1)))
  sz : s1 ≤ W.heap.size
theorem intInv_own {w2 : World} {s0 s1 B : Nat} {L : List Pair} (hB : s0 ≤ B) (hs : s0 ≤ w2.heap.size) : OwnFrom B (IntInv w2 s0 s1 L) := fun s X Y row hs' hg hr => by
  obtain ⟨h1, ⟨r, h2, h3⟩, h4, h5⟩ := hs'
  exact ⟨ownFrom_below (β := Unit) hs hB () _ _ _ h1 hg hr, ⟨r, cells_kept hg hr h2, h3⟩, h4, Nat.le_trans h5 hg.size⟩
def PBox (Bx : Nat) (x : RP) (W : World) : Prop := W.heap[Bx]? = some (.cells #[.string x.1.1, .string x.1.2] 33 (0, 0))
theorem PBox.lt {Bx : Nat} {x : RP} {W : World} (h : PBox Bx x W) : Bx < W.heap.size := lt_of_some h
theorem PBox.c0 {Bx : Nat} {x : RP} {W : World} (h : PBox Bx x W) : W.cell? ⟨Bx, 0, none⟩ = some (.string x.1.1) := by simp [World.cell?, show W.heap[Bx]? = _ from h]
theorem PBox.c1 {Bx : Nat} {x : RP} {W : World} (h : PBox Bx x W) : W.cell? ⟨Bx, 1, none⟩ = some (.string x.1.2) := by simp [World.cell?, show W.heap[Bx]? = _ from h]
theorem PBox.below {Bx : Nat} {x : RP} {W W' : World} (h : PBox Bx x W) (hb : Below W.heap.size W W') : PBox Bx x W' := (hb.block _ h.lt).trans h
theorem RP.isR (x : RP) : IsR x.1.1 (ratV x.1.1) ∧ IsR x.1.2 (ratV x.1.2) ∧ x.1.1.size ≤ 402 ∧ x.1.2.size ≤ 402 := ⟨ratV_isR x.2.1, ratV_isR x.2.2, ratB_size x.2.1, ratB_size x.2.2⟩
theorem isR_mk (q : Rat) : IsR ⟨(rtext q).toArray⟩ q := by unfold IsR; simp
theorem stepsP_length (hi : ByteArray) (L : List Pair) : ∀ f, (stepsP hi f L).length ≤ L.length + 1 := by
  induction L with
  | nil => intro f; simp [stepsP]
  | cons k r ih =>
    intro f
    unfold stepsP
    split
    · split
      · have := ih k.1; simp only [List.length_cons]; omega
      · simp
    · have := ih f; simp only [List.length_cons]; omega
theorem KeepC.set {n₀ B1 B2 s0 : Nat} {W : World} {t : TypeId} {u : Value} (v : Value) (hb : Boxed W s0 t u) (ht : t ≠ 97) (h1 : n₀ ≤ s0) (h2 : B1 ≠ s0) (h3 : B2 ≠ s0) : KeepC n₀ B1 B2 W (W.setCell ⟨s0, 0, none⟩ v) := by
  have one : ∀ k, k ≠ s0 → (W.setCell ⟨s0, 0, none⟩ v).heap[k]? = W.heap[k]? := fun k hk => Below.heap_setCell _ _ _ k hk
  refine ⟨(Below.refl n₀ W).setCell (p := ⟨s0, 0, none⟩) h1 _, fun k hk => one k (by omega), fun k c fz hk => ?_⟩
  rw [one k ?_]
  · exact hk
  · intro e
    subst e
    rw [show W.heap[k]? = _ from hb] at hk
    cases hk
    exact ht rfl
def ThreeS (w : World) (p1 p2 p3 : Addr) (a1 a2 a3 : Value) (W : World) : Prop := W.cell? p1 = some a1 ∧ W.cell? p2 = some a2 ∧ W.cell? p3 = some a3 ∧ Below w.heap.size w W
theorem three_keep {w W W' : World} {p1 p2 p3 : Addr} {a1 a2 a3 : Value} (l1 : p1.block < w.heap.size) (l2 : p2.block < w.heap.size) (l3 : p3.block < w.heap.size) (hb : Below W.heap.size W W') (h : W.cell? p1 = some a1 ∧ W.cell? p2 = some a2 ∧ W.cell? p3 = some a3 ∧ Below w.heap.size w W) : W'.cell? p1 = some a1 ∧ W'.cell? p2 = some a2 ∧ W'.cell? p3 = some a3 ∧ Below w.heap.size w W' := by
  obtain ⟨h1, h2, h3, h5⟩ := h
  refine ⟨?_, ?_, ?_, h5.trans (hb.mono h5.size)⟩
  · rw [hb.cell (Nat.lt_of_lt_of_le l1 h5.size)]; exact h1
  · rw [hb.cell (Nat.lt_of_lt_of_le l2 h5.size)]; exact h2
  · rw [hb.cell (Nat.lt_of_lt_of_le l3 h5.size)]; exact h3
set_option maxRecDepth 100000 in
set_option maxHeartbeats 4000000 in
theorem ranges_Integral_ok (v : Value) (L : List Pair) (lo hi : ByteArray) (w : World) (hw : Good w) (hv : Pairs w v L) (hsz : ∀ p ∈ L, p.1.size ≤ 1000000000 ∧ p.2.size ≤ 1000000000) (h1 : lo.size ≤ 4000000000) (h2 : hi.size ≤ 4000000000)
    (hk : knotsErr L = 0) (hp : partErr lo hi = 0) (hok : AllOk L) (hasc : Asc L) (hl : L.length ≤ 100) (hl0 : 0 < L.length) (hlo : ratB lo.data.toList = true) (hhi : ratB hi.data.toList = true) :
    CallsIn Fence.wide 9 Tryz.prog 27 #[v, .agg #[.string lo, .string hi]] w fun e w' => ∃ r : ByteArray, IsR r (sumI L (stepsP hi lo L)) ∧ ResPost r w e w' := by
  have hv0 := hv
  obtain ⟨p, c, rfl, hc, hm, hxx⟩ := hv
  obtain ⟨b, off, rfl, hbl, hcell⟩ := hxx (by omega)
  obtain ⟨wA, hwA⟩ : ∃ wA, wA = (w.alloc (Obj.cells #[.slice (some ⟨b, off, none⟩) L.length c] 51)).alloc (Obj.cells #[.string lo, .string hi] 33) := ⟨_, rfl⟩
  have hA0 : Below w.heap.size w wA := by rw [hwA]; exact (alloc_below _ _).trans ((alloc_below _ _).mono (by simp))
  have hsA : wA.heap.size = w.heap.size + 2 := by rw [hwA]; simp
  have a0 : wA.cell? ⟨w.heap.size, 0, none⟩ = some (.slice (some ⟨b, off, none⟩) L.length c) := by
    rw [hwA, (alloc_below _ _).cell (by simp)]; exact alloc_cells w #[_] _ 0 (by simp)
  have a1 : wA.cell? ⟨w.heap.size + 1, 0, none⟩ = some (.string lo) := by
    rw [hwA, show w.heap.size + 1 = (w.alloc (Obj.cells #[.slice (some ⟨b, off, none⟩) L.length c] 51)).heap.size by simp]; exact alloc_cells _ #[_, _] _ 0 (by simp)
  have a2 : wA.cell? ⟨w.heap.size + 1, 1, none⟩ = some (.string hi) := by
    rw [hwA, show w.heap.size + 1 = (w.alloc (Obj.cells #[.slice (some ⟨b, off, none⟩) L.length c] 51)).heap.size by simp]; exact alloc_cells _ #[_, _] _ 1 (by simp)
  have hgA : Good wA := hw.below hA0
  refine callsIn_of_wp_marks Tryz.func27 rfl trivial ?_ rfl
  simp only [Tryz.ntmps27, List.size_toArray, List.length_cons, List.length_nil, Nat.reduceAdd, Nat.reduceSub, Array.replicate_succ, Array.replicate_zero, List.push_toArray, List.append_toArray, List.nil_append, List.cons_append]
  gi_wp2
  rw [← hwA]
  refine ⟨trivial, ?_⟩
  refine (callsIn_wide.2 (ranges_CheckKnots _ L wA hgA (hv0.below hA0) hsz)).mono ?_
  rintro e w1 ⟨rfl, hb1⟩
  rw [hk]
  have b1 := (hb1.cell (p := ⟨w.heap.size + 1, 0, none⟩) (by simp; omega)).trans a1
  have b2 := (hb1.cell (p := ⟨w.heap.size + 1, 1, none⟩) (by simp; omega)).trans a2
  have b0 := (hb1.cell (p := ⟨w.heap.size, 0, none⟩) (by simp; omega)).trans a0
  gi_wp2
  refine ⟨trivial, ?_⟩
  refine (callsIn_wide.2 (part_check lo hi h1 h2 w1 (hgA.below hb1))).mono ?_
  rintro e w2 ⟨rfl, hb2⟩
  rw [hp]
  have hs1 := hb1.size
  have hs2 := hb2.size
  have c1 := (hb2.cell (p := ⟨w.heap.size + 1, 0, none⟩) (by simp; omega)).trans b1
  have c2 := (hb2.cell (p := ⟨w.heap.size + 1, 1, none⟩) (by simp; omega)).trans b2
  have c0 := (hb2.cell (p := ⟨w.heap.size, 0, none⟩) (by simp; omega)).trans b0
  obtain ⟨w3, hw3⟩ : ∃ w3, w3 = w2.alloc (Obj.cells #[.string ⟨#[48]⟩] 31) := ⟨_, rfl⟩
  have hb3 : Below w2.heap.size w2 w3 := by rw [hw3]; exact alloc_below _ _
  have hs3 : w3.heap.size = w2.heap.size + 1 := by rw [hw3]; simp
  have d1 := (hb3.cell (p := ⟨w.heap.size + 1, 0, none⟩) (by simp; omega)).trans c1
  have d2 := (hb3.cell (p := ⟨w.heap.size + 1, 1, none⟩) (by simp; omega)).trans c2
  have d0 := (hb3.cell (p := ⟨w.heap.size, 0, none⟩) (by simp; omega)).trans c0
  have hbx3 : Boxed w3 w2.heap.size 31 (.string ⟨#[48]⟩) := by rw [hw3]; exact Boxed.new _ _ _
  have D0 := Lib.hid d0
  have D1 := Lib.hid d1
  have D2 := Lib.hid d2
  rw [hw3] at d0 d1 d2
  gi_wp2
  rw [← hw3]
  refine ⟨trivial, ?_⟩
  refine (steps_in _ _ _ _ _ _ _).mono ?_
  rintro e w4 ⟨rfl, hw4⟩
  have HW4 := Lib.hid hw4
  have HW3 := Lib.hid hw3
  have HS3 := Lib.hid hs3
  clear hw4 hw3 hs3
  gi_wp2
  have hs3 := HS3.out
  have hb4 : Below w3.heap.size w3 w4 := by rw [HW4.out]; exact (alloc_below _ _).trans ((alloc_below _ _).mono (by simp))
  have hs4 : w4.heap.size = w3.heap.size + 2 := by rw [HW4.out]; simp
  have f1 : w4.cell? ⟨w3.heap.size + 1, 0, none⟩ = some (.string lo) := by
    rw [HW4.out, show w3.heap.size + 1 = (w3.alloc (Obj.cells #[.slice (some ⟨b, off, none⟩) L.length c] 51)).heap.size by simp]; exact alloc_cells _ #[_, _] _ 0 (by simp)
  have f2 : w4.cell? ⟨w3.heap.size + 1, 1, none⟩ = some (.string hi) := by
    rw [HW4.out, show w3.heap.size + 1 = (w3.alloc (Obj.cells #[.slice (some ⟨b, off, none⟩) L.length c] 51)).heap.size by simp]; exact alloc_cells _ #[_, _] _ 1 (by simp)
  have f0 : w4.cell? ⟨w3.heap.size, 0, none⟩ = some (.slice (some ⟨b, off, none⟩) L.length c) := by
    rw [HW4.out, (alloc_below _ _).cell (by simp)]; exact alloc_cells w3 #[_] _ 0 (by simp)
  have hbA2 : Below w.heap.size w w2 := hA0.trans ((hb1.trans (hb2.mono hb1.size)).mono (by omega))
  have hb24 : Below w2.heap.size w2 w4 := hb3.trans (hb4.mono hb3.size)
  have hg4 : Good w4 := (hw.below hbA2).below hb24
  have hv4 := (hv0.below hbA2).below hb24
  have hbx4 : Boxed w4 w2.heap.size 31 (.string ⟨#[48]⟩) := (hb4.block _ hbx3.lt).trans hbx3
  have HBA2 := Lib.hid hbA2
  have hbb2 : b < w2.heap.size := by omega
  have hbig := hw.big
  have HOK := Lib.hid hok
  clear HW4 HW3 hwA a0 a1 a2 b0 b1 b2 c1 c2 d1 d2 d0 hcell hxx D1 D2
  have hs3a : w3.heap.size ≤ w2.heap.size + 1 := by omega
  have hs3b : w2.heap.size + 1 ≤ w3.heap.size := by omega
  have hs4a : w4.heap.size ≤ w3.heap.size + 2 := by omega
  have hs4b : w3.heap.size + 2 ≤ w4.heap.size := by omega
  have HSA := Lib.hid hsA
  have hsAa : w.heap.size + 2 ≤ wA.heap.size := by omega
  clear hs3 hs4 hsA
  refine wpIn_rangeFunc_ownH (n := 9) rfl (by decide) (gf := 130) (lb := #[.pointer (some ⟨w3.heap.size + 1, 0, none⟩), .pointer (some ⟨w3.heap.size, 0, none⟩)]) rfl trivial (enters_of Tryz.func130 (by kernel_rfl) rfl)
    (steps_stops 8 (by decide) (w3.heap.size + 1) w3.heap.size w2.heap.size _ lo hi L hlo hhi hok (by omega) w4 hg4 (by omega) (by omega) (by omega) (by omega) f1 f2 f0 (fun a k c' he => by cases he; exact hbb2) hv4)
    KeepC.trans (KeepC.put (by omega) (by omega) (by omega)) (Below.refl _ _) (fun _ => rfl)
    (IntInv w2 w2.heap.size w4.heap.size L) (fun _ _ _ => False) (intInv_own (by omega) (Nat.le_refl _)) (fun _ _ _ _ _ hs _ _ => hs)
    ⟨hb24, ⟨_, hbx4, isR_zero⟩, Small.zero, Nat.le_refl _⟩
    (fun x a' W => ∃ Bx, w4.heap.size ≤ Bx ∧ PBox Bx x W ∧ a' = { tmps := #[.slice (some ⟨b, off, none⟩) L.length c, .agg #[.string lo, .string hi], .pointer (some ⟨w.heap.size, 0, none⟩), .pointer (some ⟨w.heap.size + 1, 0, none⟩), .string ⟨#[]⟩, .int .i64 0, .int .i64 0, .int .i64 0, .pointer (some ⟨w2.heap.size, 0, none⟩), .pointer (some ⟨Bx, 0, none⟩), undef, .slice (some ⟨b, off, none⟩) L.length c, .int .i64 0, .int .i64 0, .bool false, undef, .agg #[.string lo, .string hi], .int .i64 0, .int .i64 0, .bool false, undef, .slice (some ⟨b, off, none⟩) L.length c, .agg #[.string lo, .string hi], .func (.func 130) #[] #[.pointer (some ⟨w3.heap.size + 1, 0, none⟩), .pointer (some ⟨w3.heap.size, 0, none⟩)], .agg #[.string x.1.1, .string x.1.2], undef, undef, undef, undef, undef, undef, undef, undef, undef, undef, undef, undef, undef, undef, undef, undef, undef, undef, undef, undef, undef, undef], defers := [] })
    (fun x a' s X Y row hs hg hr => by obtain ⟨Bx, h1, h2, h3⟩ := hs; exact ⟨Bx, h1, cells_kept hg hr h2, h3⟩) ?assign ?body ?done ?stop
  case assign =>
    intro l pre x W K hI hK
    have hsz1 := hI.sz
    gi_wp2
    exact hK _ _ ((KeepsOthers.alloc _ _).from _) (KeepC.of_below (alloc_below _ _) (by omega) (by omega) (by omega))
      ⟨hI.low.trans ((alloc_below _ _).mono (by omega)), by obtain ⟨r, h1, h2⟩ := hI.sum; exact ⟨r, h1.alloc _, h2⟩, hI.small, by simp; omega⟩ ⟨W.heap.size, by omega, World.alloc_heap_new _ _, rfl⟩
  case body =>
    rintro l pre x a' W hl hr hinv ⟨Bx, hBx, hpb, rfl⟩ hlt
    obtain ⟨hlow, ⟨r, hsum, hrs⟩, hsm, hszW⟩ := hinv
    gi_wp2
    have e0 : W.cell? ⟨w.heap.size, 0, none⟩ = some (.slice (some ⟨b, off, none⟩) L.length c) := (hlow.cell (by simp; omega)).trans c0
    have hgW : Good W := (hw.below HBA2.out).mono hlow (by omega)
    have hvW := ((hv0.below HBA2.out).below (hlow.mono (Nat.le_refl _)))
    obtain ⟨x1, x2, xs1, xs2⟩ := x.isR
    have X1 := Lib.hid x1
    have X2 := Lib.hid x2
    have HRS := Lib.hid hrs
    have HSM := Lib.hid hsm
    have p0 := hpb.c0
    have p1 := hpb.c1
    clear x1 x2 hrs hsm
    refine wpIn_region_held_wide (fun W' => W'.cell? ⟨w.heap.size, 0, none⟩ = some (.slice (some ⟨b, off, none⟩) L.length c) ∧ W'.cell? ⟨Bx, 0, none⟩ = some (.string x.1.1) ∧ W'.cell? ⟨Bx, 1, none⟩ = some (.string x.1.2) ∧ Below W.heap.size W W') (by kernel_rfl) (by kernel_rfl) ⟨e0, p0, p1, rfl, rfl, rfl, Nat.le_refl _, fun _ _ => rfl⟩ (fun hHeld => ?_)
    refine wpAnyH_take (i := 0) (v := ?_) rfl (by kernel_rfl) (by kernel_rfl) (by kernel_rfl) (fun _ _ _ h => h) (Or.inl ⟨by rfl, ?_⟩) (by assumption) ?_
    rotate_left
    · intro W' hS'
      obtain ⟨s0, s1, s2, _⟩ := hS'
      go_simp
      try with_reducible rfl
    try simp only [List.getElem_toArray, List.getElem_cons_zero, Act.put, List.setIfInBounds_toArray, List.set_cons_zero, List.set_cons_succ]
    refine wpAnyH_take (i := 1) (v := ?_) rfl (by kernel_rfl) (by kernel_rfl) (by kernel_rfl) (fun _ _ _ h => h) (Or.inl ⟨by rfl, ?_⟩) (by assumption) ?_
    rotate_left
    · intro W' hS'
      obtain ⟨s0, s1, s2, _⟩ := hS'
      go_simp
      try with_reducible rfl
    try simp only [List.getElem_toArray, List.getElem_cons_zero, List.getElem_cons_succ, Act.put, List.setIfInBounds_toArray, List.set_cons_zero, List.set_cons_succ]
    refine wpAnyH_take (i := 2) (v := ?_) rfl (by kernel_rfl) (by kernel_rfl) (by kernel_rfl) (fun _ _ _ h => h) (Or.inl ⟨by rfl, ?_⟩) (by assumption) ?_
    rotate_left
    · intro W' hS'
      obtain ⟨s0, s1, s2, _⟩ := hS'
      go_simp
      try with_reducible rfl
    try simp only [List.getElem_toArray, List.getElem_cons_zero, List.getElem_cons_succ, Act.put, List.setIfInBounds_toArray, List.set_cons_zero, List.set_cons_succ]
    refine wpAnyH_take (i := 4) (v := ?_) rfl (by kernel_rfl) (by kernel_rfl) (by kernel_rfl) (fun _ _ _ h => h) (Or.inl ⟨by rfl, ?_⟩) (by assumption) ?_
    rotate_left
    · intro W' hS'
      obtain ⟨s0, s1, s2, _⟩ := hS'
      go_simp
      try with_reducible rfl
    try simp only [List.getElem_toArray, List.getElem_cons_zero, List.getElem_cons_succ, Act.put, List.setIfInBounds_toArray, List.set_cons_zero, List.set_cons_succ]
    refine wpAnyH_take (i := 5) (v := ?_) rfl (by kernel_rfl) (by kernel_rfl) (by kernel_rfl) (fun _ _ _ h => h) (Or.inl ⟨by rfl, ?_⟩) (by assumption) ?_
    rotate_left
    · intro W' hS'
      obtain ⟨s0, s1, s2, _⟩ := hS'
      go_simp
      try with_reducible rfl
    try simp only [List.getElem_toArray, List.getElem_cons_zero, List.getElem_cons_succ, Act.put, List.setIfInBounds_toArray, List.set_cons_zero, List.set_cons_succ]
    refine wpAnyH_take (i := 6) (v := ?_) rfl (by kernel_rfl) (by kernel_rfl) (by kernel_rfl) (fun _ _ _ h => h) (Or.inl ⟨by rfl, ?_⟩) (by assumption) ?_
    rotate_left
    · intro W' hS'
      obtain ⟨s0, s1, s2, _⟩ := hS'
      go_simp
      try with_reducible rfl
    try simp only [List.getElem_toArray, List.getElem_cons_zero, List.getElem_cons_succ, Act.put, List.setIfInBounds_toArray, List.set_cons_zero, List.set_cons_succ]
    refine wpAnyH_ready (rs := [3]) (by kernel_rfl) (by simp) ?_
    refine AllReadyH.cons rfl (fun K hK => ?_) AllReadyH.nil
    go_simp
    refine (ranges_value _ L x.1.1 _ X1.out (by omega) _ (hgW.below hHeld.2.2.2) (hvW.below hHeld.2.2.2) HOK.out hasc (by omega) hl0).mono ?_
    rintro e w5 ⟨r1, rfl, hr1, hr1s, hb5⟩
    have hHeld5 := three_keep (by simp; omega) hpb.lt hpb.lt hb5 hHeld
    refine hK.out _ _ ?_ (fun hHeld => ?_)
    · exact hHeld5
    clear hK K
    try simp only [List.getElem_toArray, List.getElem_cons_zero, List.getElem_cons_succ, Act.put, List.setIfInBounds_toArray, List.set_cons_zero, List.set_cons_succ]
    refine wpAnyH_ready (rs := [7]) (by kernel_rfl) (by simp) ?_
    refine AllReadyH.cons rfl (fun K hK => ?_) AllReadyH.nil
    go_simp
    refine (ranges_value _ L x.1.2 _ X2.out (by omega) _ (hgW.below hHeld5.2.2.2) (hvW.below hHeld5.2.2.2) HOK.out hasc (by omega) hl0).mono ?_
    rintro e w6 ⟨r2, rfl, hr2, hr2s, hb6⟩
    have hHeld6 := three_keep (by simp; omega) hpb.lt hpb.lt hb6 hHeld5
    refine hK.out _ _ ?_ (fun hHeld => ?_)
    · exact hHeld6
    clear hK K
    try simp only [List.getElem_toArray, List.getElem_cons_zero, List.getElem_cons_succ, Act.put, List.setIfInBounds_toArray, List.set_cons_zero, List.set_cons_succ]
    refine wpAnyH_ready (rs := [8]) (by kernel_rfl) (by simp) ?_
    refine AllReadyH.cons rfl (fun K hK => ?_) AllReadyH.nil
    go_simp
    refine (rational_Middle r1 r2 _ _ hr1 hr2 (by omega) (by omega) _ (hgW.below hHeld6.2.2.2)).mono ?_
    rintro e w7 ⟨r3, rfl, hr3, hb7⟩
    have hHeld7 := three_keep (by simp; omega) hpb.lt hpb.lt hb7 hHeld6
    refine hK.out _ _ ?_ (fun hHeld => ?_)
    · exact hHeld7
    clear hK K
    try simp only [List.getElem_toArray, List.getElem_cons_zero, List.getElem_cons_succ, Act.put, List.setIfInBounds_toArray, List.set_cons_zero, List.set_cons_succ]
    refine wpAnyH_take (i := 9) (v := ?_) rfl (by kernel_rfl) (by kernel_rfl) (by kernel_rfl) (fun _ _ _ h => h) (Or.inl ⟨by rfl, ?_⟩) (by assumption) ?_
    rotate_left
    · intro W' hS'
      obtain ⟨s0, s1, s2, _⟩ := hS'
      go_simp
      try with_reducible rfl
    try simp only [List.getElem_toArray, List.getElem_cons_zero, List.getElem_cons_succ, Act.put, List.setIfInBounds_toArray, List.set_cons_zero, List.set_cons_succ]
    refine wpAnyH_done (by kernel_rfl) ?_ _
    refine NormalOnly.mk ?_
    have hW7 := hHeld7.2.2.2
    have hsum7 : Boxed w7 w2.heap.size 31 (.string r) := (hW7.block _ hsum.lt).trans hsum
    have hpb7 := hpb.below hW7
    have hR3 := isR_nlen hr3
    have HR3 := Lib.hid hr3
    have q1 := hsum7.cell
    have q2 := hpb7.c0
    have q3 := hpb7.c1
    have hg7 := hgW.below hW7
    have l1 := hsum7.lt
    have l2 := hpb7.lt
    have hr3s : r3.size ≤ 200000 := by
      have u1 := isR_add_size hr1 hr2 (isR_mk _)
      have u2 := isR_mul_size (isR_mk _) isR_half hr3
      have u3 : (⟨#[49, 47, 50]⟩ : ByteArray).size = 3 := rfl
      omega
    clear hr1 hr2 hr3 hHeld hHeld5 hHeld6 hHeld7 e0
    have hrsz : r.size ≤ 100000000 := by
      have u1 := isR_size_nd HRS.out
      have u2 := HSM.out.1
      have u3 := HSM.out.2
      omega
    gi_wp2
    refine wpIn_held_tail_wide (fun W' => W'.cell? ⟨w2.heap.size, 0, none⟩ = some (.string r) ∧ W'.cell? ⟨Bx, 1, none⟩ = some (.string x.1.2) ∧ W'.cell? ⟨Bx, 0, none⟩ = some (.string x.1.1) ∧ Below w7.heap.size w7 W') 6 9 (by kernel_rfl) (by decide) (by kernel_rfl) (by kernel_rfl) ⟨q1, q3, q2, rfl, rfl, rfl, Nat.le_refl _, fun _ _ => rfl⟩ ?_
    simp only [List.take_succ_cons, List.take_zero, List.drop_succ_cons, List.drop_zero]
    iterate 6
      refine wpTake_step ?_ rfl ?_ ?_
      rotate_left
      · intro W' hS'
        obtain ⟨s0, s1, s2, s4⟩ := hS'
        go_simp
        try with_reducible rfl
      try simp only [Act.put, List.setIfInBounds_toArray, List.set_cons_zero, List.set_cons_succ]
    refine wpTake_nil ?_
    have hH0 : w7.drew.cell? ⟨w2.heap.size, 0, none⟩ = some (.string r) ∧ w7.drew.cell? ⟨Bx, 1, none⟩ = some (.string x.1.2) ∧ w7.drew.cell? ⟨Bx, 0, none⟩ = some (.string x.1.1) ∧ Below w7.heap.size w7 w7.drew := ⟨q1, q3, q2, rfl, rfl, rfl, Nat.le_refl _, fun _ _ => rfl⟩
    refine wpKeep_step rfl (fun K hK => ?_)
    go_simp
    refine (rational_Sub x.1.2 x.1.1 _ _ X2.out X1.out (by omega) (by omega) _ (hg7.below hH0.2.2.2)).mono ?_
    rintro e w8 ⟨r4, rfl, hr4, hb8⟩
    have hH1 := three_keep l1 l2 l2 hb8 hH0
    have v4 := isR_sub_size X2.out X1.out hr4
    refine hK _ _ ⟨hH1, ?_⟩
    clear hK K
    try simp only [List.getElem_toArray, List.getElem_cons_zero, List.getElem_cons_succ, Act.put, List.setIfInBounds_toArray, List.set_cons_zero, List.set_cons_succ]
    refine wpKeep_step rfl (fun K hK => ?_)
    go_simp
    refine (rational_Mul r3 r4 _ _ HR3.out hr4 (by omega) (by omega) _ (hg7.below hH1.2.2.2)).mono ?_
    rintro e w9 ⟨r5, rfl, hr5, hb9⟩
    have hH2 := three_keep l1 l2 l2 hb9 hH1
    have v5 := isR_mul_size HR3.out hr4 hr5
    refine hK _ _ ⟨hH2, ?_⟩
    clear hK K
    try simp only [List.getElem_toArray, List.getElem_cons_zero, List.getElem_cons_succ, Act.put, List.setIfInBounds_toArray, List.set_cons_zero, List.set_cons_succ]
    refine wpKeep_step rfl (fun K hK => ?_)
    go_simp
    refine (rational_Add r r5 _ _ HRS.out hr5 (by omega) (by omega) _ (hg7.below hH2.2.2.2)).mono ?_
    rintro e w10 ⟨r6, rfl, hr6, hb10⟩
    have hH3 := three_keep l1 l2 l2 hb10 hH2
    refine hK _ _ ⟨hH3, wpKeep_nil ?_⟩
    clear hK K
    try simp only [List.getElem_toArray, List.getElem_cons_zero, List.getElem_cons_succ, Act.put, List.setIfInBounds_toArray, List.set_cons_zero, List.set_cons_succ]
    have hW10 := hW7.trans (hH3.2.2.2.mono hW7.size)
    have hsum10 : Boxed w10 w2.heap.size 31 (.string r) := (hW10.block _ hsum.lt).trans hsum
    have t1 := hsum10.cell
    have t2 := hsum10.frozen
    have hR5 := isR_nlen hr5
    have HR6 := Lib.hid (show IsR r6 (sumI L ((pre ++ [x]).map (·.1))) by rw [List.map_append]; exact (sumI_snoc L _ x.1) ▸ hr6)
    have HSM6 := Lib.hid (show Small (pre ++ [x]).length (sumI L ((pre ++ [x]).map (·.1))) by
      rw [List.map_append, List.length_append]
      exact (sumI_snoc L _ x.1) ▸ HSM.out.add (by exact Nat.le_trans hR5.1 (by omega)) (by exact Nat.le_trans hR5.2 (by omega)))
    have hsW10 := hW10.size
    clear hr4 hr5 hr6 hH0 hH1 hH2 hH3
    refine wpKeep_step rfl (fun K hK => ?_)
    go_simp
    refine hK _ _ ⟨trivial, wpKeep_nil ?_⟩
    clear hK K
    try simp only [Act.put, List.setIfInBounds_toArray, List.set_cons_zero, List.set_cons_succ]
    show Exit.inBlock 1 _ Exit.normal _ _
    gi_wp2
    refine ⟨(keepsFrom_below hW10).trans ((KeepsOthers.setCell _ _ _).from _), (KeepC.of_below hW10 (by omega) (by omega) (by omega)).trans (KeepC.set _ hsum10 (by decide) (Nat.le_refl _) (by omega) (by omega)), ?_⟩
    exact ⟨(hlow.trans (hW10.mono (by omega))).trans ((Below.refl _ _).setCell (p := ⟨w2.heap.size, 0, none⟩) (Nat.le_refl _) _), ⟨r6, hsum10.set _, HR6.out⟩, HSM6.out, by simp; omega⟩
  case done =>
    rintro D ys W hD hS ⟨hlow, ⟨r, hsum, hrs⟩, hsm, hszW⟩ hK
    have hlen : ys.length ≤ 101 := by
      have := stepsP_length hi L lo
      rw [← hS, List.length_map] at this
      omega
    rw [hS] at hrs
    have hrsz : r.size ≤ 100000000 := by
      rw [hS] at hsm
      have u1 := isR_size_nd hrs
      have u2 := hsm.1
      have u3 := hsm.2
      omega
    have hgW : Good W := (hw.below HBA2.out).mono hlow (by omega)
    have HRS := Lib.hid hrs
    have q1 := hsum.cell
    clear hrs hsm hS
    gi_wp2
    refine ⟨trivial, ?_⟩
    refine (callsIn_wide.2 (ranges_result r (by omega) W hgW)).mono ?_
    rintro e W1 ⟨⟨v, rfl, hv⟩, hbW1⟩
    have hKF : W1.heap[D]? = some (.deferred (some [])) := (hbW1.block _ (lt_of_some hK)).trans hK
    cases hrb : ratB r.data.toList
    · rw [hrb] at hv
      have HRB := Lib.hid hrb
      subst hv
      clear hrb
      gi_wp2
      refine ⟨by simp, .inl ⟨_, _, rfl, run_takeDeferred hKF, ?_⟩⟩
      refine ⟨_, results_tmp2 rfl _ _ _, r, HRS.out, ⟨_, rfl, by rw [HRB.out]; rfl⟩, ?_⟩
      exact (HBA2.out.trans ((hlow.trans (hbW1.mono (by omega))).mono HBA2.out.size)).trans (putObj_below _ _ _ (by omega))
    · rw [hrb] at hv
      have HRB := Lib.hid hrb
      subst hv
      clear hrb
      gi_wp2
      refine ⟨by simp, .inl ⟨_, _, rfl, run_takeDeferred hKF, ?_⟩⟩
      refine ⟨_, results_tmp2 rfl _ _ _, r, HRS.out, ⟨_, rfl, by rw [HRB.out]; rfl⟩, ?_⟩
      exact (HBA2.out.trans ((hlow.trans (hbW1.mono (by omega))).mono HBA2.out.size)).trans (putObj_below _ _ _ (by omega))
  case stop =>
    rintro D c pre W _ _ h _
    exact h.elim
end Go.Proofs.YtbogpbjddaoeiaaGreatDoor
namespace Go.Proofs.YtbogpbjddaoeiaaGreatDoor
open Go.RowKit Go.Shelf
open Go.Lib (decDigits itoa nDigits)
theorem knErr_ok : ∀ (L : List Pair) (prev : Option ByteArray), knErr prev L = 0 → AllOk L ∧ Asc L ∧ (∀ p, prev = some p → ∀ h : 0 < L.length, ratV p < ratV L[0].1)
  | [], _, _ => ⟨fun p hp => by simp at hp, fun i _ h => by simp at h, fun p _ h => by simp at h⟩
  | (a, v) :: r, prev, h => by
    unfold knErr at h
    cases hb : (ratB a.data.toList && ratB v.data.toList)
    · rw [hb] at h; simp at h
    · rw [hb] at h
      simp only [if_true] at h
      by_cases hx : ∃ p, prev = some p ∧ ¬ ratV p < ratV a
      · rw [if_pos hx] at h; simp at h
      · rw [if_neg hx] at h
        obtain ⟨h1, h2, h3⟩ := knErr_ok r _ h
        have hb' : ratB a.data.toList = true ∧ ratB v.data.toList = true := by simpa using hb
        refine ⟨?_, ?_, ?_⟩
        · intro p hp
          rcases List.mem_cons.1 hp with rfl | hp
          · exact hb'
          · exact h1 p hp
        · intro i hi hl
          cases i with
          | zero => omega
          | succ i =>
            cases i with
            | zero => exact h3 a rfl (by simpa using hl)
            | succ i => exact h2 (i + 1) (by omega) (by simpa using hl)
        · intro p hp _
          apply Decidable.byContradiction
          intro hn
          exact hx ⟨p, hp, hn⟩
theorem knotsErr_ok {L : List Pair} (h : knotsErr L = 0) : AllOk L ∧ Asc L ∧ L.length ≤ 100 ∧ 0 < L.length := by
  unfold knotsErr at h
  by_cases h0 : L.length = 0
  · rw [if_pos h0] at h; simp at h
  · rw [if_neg h0] at h
    by_cases h1 : 100 < L.length
    · rw [if_pos h1] at h; simp at h
    · rw [if_neg h1] at h
      obtain ⟨a, b, _⟩ := knErr_ok L none h
      exact ⟨a, b, by omega, by omega⟩
theorem partErr_ok {lo hi : ByteArray} (h : partErr lo hi = 0) : ratB lo.data.toList = true ∧ ratB hi.data.toList = true ∧ ratV lo < ratV hi := by
  unfold partErr at h
  cases hb : (ratB lo.data.toList && ratB hi.data.toList)
  · rw [hb] at h; simp at h
  · rw [hb] at h
    simp only [if_true] at h
    have hb' : ratB lo.data.toList = true ∧ ratB hi.data.toList = true := by simpa using hb
    refine ⟨hb'.1, hb'.2, ?_⟩
    apply Decidable.byContradiction
    intro hn
    rw [if_neg hn] at h; simp at h
noncomputable def intErr (L : List Pair) (lo hi : ByteArray) : Int := if knotsErr L = 0 then partErr lo hi else knotsErr L
def IntPost (L : List Pair) (lo hi : ByteArray) (w : World) (e : Ending) (w' : World) : Prop :=
  (intErr L lo hi = 0 → ∃ r : ByteArray, IsR r (sumI L (stepsP hi lo L)) ∧ ResPost r w e w') ∧ (intErr L lo hi ≠ 0 → e = .returned (.tuple #[.string ⟨#[]⟩, .int .i64 (intErr L lo hi)]) ∧ Below w.heap.size w w')
theorem ranges_Integral (v : Value) (L : List Pair) (lo hi : ByteArray) (w : World) (hw : Good w) (hv : Pairs w v L) (hsz : ∀ p ∈ L, p.1.size ≤ 1000000000 ∧ p.2.size ≤ 1000000000) (h1 : lo.size ≤ 4000000000) (h2 : hi.size ≤ 4000000000) :
    Calls Tryz.prog 27 #[v, .agg #[.string lo, .string hi]] w (IntPost L lo hi w) := by
  by_cases hk : knotsErr L = 0
  · by_cases hp : partErr lo hi = 0
    · obtain ⟨a1, a2, a3, a4⟩ := knotsErr_ok hk
      obtain ⟨b1, b2, b3⟩ := partErr_ok hp
      refine (callsIn_wide.1 (ranges_Integral_ok v L lo hi w hw hv hsz h1 h2 hk hp a1 a2 a3 a4 b1 b2)).mono fun e w' h => ⟨fun _ => h, fun hn => ?_⟩
      exact (hn (by unfold intErr; rw [if_pos hk, hp])).elim
    · have hck := fun w' (hb : Below w.heap.size w w') => ranges_CheckKnots v L w' (hw.below hb) (hv.below hb) hsz
      obtain ⟨p, c, rfl, hc, hm, hxx⟩ := hv
      clear hxx hsz
      have HCK := Lib.hid hck
      have HK := Lib.hid hk
      have HE := Lib.hid (show intErr L lo hi = partErr lo hi by unfold intErr; rw [if_pos hk])
      have HP := Lib.hid hp
      have hne : (partErr lo hi != 0) = true := by simpa using hp
      clear hck hk hp
      go_enter Tryz.func27, Tryz.ntmps27
      go_wp2_with fail
      obtain ⟨wA, hwA⟩ : ∃ wA, wA = (w.alloc (Obj.cells #[.slice p L.length c] 51)).alloc (Obj.cells #[.string lo, .string hi] 33) := ⟨_, rfl⟩
      have hA0 : Below w.heap.size w wA := by rw [hwA]; exact (alloc_below _ _).trans ((alloc_below _ _).mono (by simp))
      have hsA : wA.heap.size = w.heap.size + 2 := by rw [hwA]; simp
      have a1 : wA.cell? ⟨w.heap.size + 1, 0, none⟩ = some (.string lo) := by
        rw [hwA, show w.heap.size + 1 = (w.alloc (Obj.cells #[.slice p L.length c] 51)).heap.size by simp]; exact alloc_cells _ #[_, _] _ 0 (by simp)
      have a2 : wA.cell? ⟨w.heap.size + 1, 1, none⟩ = some (.string hi) := by
        rw [hwA, show w.heap.size + 1 = (w.alloc (Obj.cells #[.slice p L.length c] 51)).heap.size by simp]; exact alloc_cells _ #[_, _] _ 1 (by simp)
      rw [← hwA]
      clear hwA
      refine (HCK.out wA hA0).mono ?_
      rintro e w1 ⟨rfl, hb1⟩
      rw [HK.out]
      have b1 := (hb1.cell (p := ⟨w.heap.size + 1, 0, none⟩) (by simp; omega)).trans a1
      have b2 := (hb1.cell (p := ⟨w.heap.size + 1, 1, none⟩) (by simp; omega)).trans a2
      have hb01 := hA0.trans (hb1.mono hA0.size)
      clear hsA
      go_wp2_with fail
      refine (part_check lo hi h1 h2 w1 (hw.below hb01)).mono ?_
      rintro e w2 ⟨rfl, hb2⟩
      generalize partErr lo hi = pe at hne HE HP ⊢
      go_wp2
      go_ret2
      exact ⟨fun h => (HP.out (HE.out ▸ h)).elim, fun _ => ⟨by rw [HE.out]; rfl, hb01.trans (hb2.mono hb01.size)⟩⟩
  · have hck := fun w' (hb : Below w.heap.size w w') => ranges_CheckKnots v L w' (hw.below hb) (hv.below hb) hsz
    obtain ⟨p, c, rfl, hc, hm, hxx⟩ := hv
    clear hxx hsz
    have HCK := Lib.hid hck
    have HK := Lib.hid hk
    have HE := Lib.hid (show intErr L lo hi = knotsErr L by unfold intErr; rw [if_neg hk])
    have hne : (knotsErr L != 0) = true := by simpa using hk
    clear hck hk
    go_enter Tryz.func27, Tryz.ntmps27
    go_wp2_with fail
    obtain ⟨wA, hwA⟩ : ∃ wA, wA = (w.alloc (Obj.cells #[.slice p L.length c] 51)).alloc (Obj.cells #[.string lo, .string hi] 33) := ⟨_, rfl⟩
    have hA0 : Below w.heap.size w wA := by rw [hwA]; exact (alloc_below _ _).trans ((alloc_below _ _).mono (by simp))
    rw [← hwA]
    clear hwA
    refine (HCK.out wA hA0).mono ?_
    rintro e w1 ⟨rfl, hb1⟩
    generalize knotsErr L = pe at hne HE HK ⊢
    go_wp2
    go_ret2
    exact ⟨fun h => (HK.out (HE.out ▸ h)).elim, fun _ => ⟨by rw [HE.out]; rfl, hA0.trans (hb1.mono hA0.size)⟩⟩
end Go.Proofs.YtbogpbjddaoeiaaGreatDoor
namespace Go.Proofs.YtbogpbjddaoeiaaGreatDoor
open Go.RowKit Go.Shelf
open Go.Lib (decDigits itoa nDigits)
def SzOk (L : List Pair) : Prop := ∀ p ∈ L, p.1.size ≤ 1000000000 ∧ p.2.size ≤ 1000000000
def ErrPost (z : Value) (k : Int) (w : World) (e : Ending) (w' : World) : Prop := e = .returned (.tuple #[z, .int .i64 k]) ∧ Below w.heap.size w w'
theorem atErr_ne {L : List Pair} {x : ByteArray} (h : knotsErr L ≠ 0) : atErr L x = knotsErr L := by unfold atErr; rw [if_neg h]
theorem value_err (v : Value) (L : List Pair) (x : ByteArray) (hxs : x.size ≤ 4000000000) (w : World) (hw : Good w) (hv : Pairs w v L) (hsz : SzOk L) (hk : knotsErr L ≠ 0) :
    Calls Tryz.prog 36 #[v, .string x] w (ErrPost (.string ⟨#[]⟩) (knotsErr L) w) := by
  have hck := fun w' (hb : Below w.heap.size w w') => ranges_checkAt v L x w' (hw.below hb) (hv.below hb) hsz hxs
  rw [atErr_ne hk] at hck
  obtain ⟨p, c, rfl, hc, hm, hxx⟩ := hv
  clear hxx hsz
  have HCK := Lib.hid hck
  have hne : (knotsErr L != 0) = true := by simpa using hk
  have hne2 : (knotsErr L == 0) = false := by simpa using hk
  clear hck hk
  go_enter Tryz.func36, Tryz.ntmps36
  go_wp2_with fail
  have hA0 := Below.refl w.heap.size w
  refine (HCK.out w hA0).mono ?_
  rintro e w1 ⟨rfl, hb1⟩
  generalize hpe : knotsErr L = pe at hne hne2 ⊢
  have HPE := Lib.hid hpe
  clear hpe
  go_wp2
  go_ret2
  exact ⟨by rw [HPE.out]; rfl, hA0.trans (hb1.mono hA0.size)⟩
theorem segment_err (v : Value) (L : List Pair) (x : ByteArray) (hxs : x.size ≤ 4000000000) (w : World) (hw : Good w) (hv : Pairs w v L) (hsz : SzOk L) (hk : knotsErr L ≠ 0) :
    Calls Tryz.prog 37 #[v, .string x] w (ErrPost (.int .i64 0) (knotsErr L) w) := by
  have hck := fun w' (hb : Below w.heap.size w w') => ranges_checkAt v L x w' (hw.below hb) (hv.below hb) hsz hxs
  rw [atErr_ne hk] at hck
  obtain ⟨p, c, rfl, hc, hm, hxx⟩ := hv
  clear hxx hsz
  have HCK := Lib.hid hck
  have hne : (knotsErr L != 0) = true := by simpa using hk
  have hne2 : (knotsErr L == 0) = false := by simpa using hk
  clear hck hk
  go_enter Tryz.func37, Tryz.ntmps37
  go_wp2_with fail
  have hA0 := Below.refl w.heap.size w
  refine (HCK.out w hA0).mono ?_
  rintro e w1 ⟨rfl, hb1⟩
  generalize hpe : knotsErr L = pe at hne hne2 ⊢
  have HPE := Lib.hid hpe
  clear hpe
  go_wp2
  go_ret2
  exact ⟨by rw [HPE.out]; rfl, hA0.trans (hb1.mono hA0.size)⟩
theorem slope_err (v : Value) (L : List Pair) (n : Int) (w : World) (hw : Good w) (hv : Pairs w v L) (hsz : SzOk L) (hk : knotsErr L ≠ 0) :
    Calls Tryz.prog 38 #[v, .int .i64 n] w (ErrPost (.string ⟨#[]⟩) (knotsErr L) w) := by
  have hck := fun w' (hb : Below w.heap.size w w') => ranges_CheckKnots v L w' (hw.below hb) (hv.below hb) hsz
  obtain ⟨p, c, rfl, hc, hm, hxx⟩ := hv
  clear hxx hsz
  have HCK := Lib.hid hck
  have hne : (knotsErr L != 0) = true := by simpa using hk
  have hne2 : (knotsErr L == 0) = false := by simpa using hk
  clear hck hk
  go_enter Tryz.func38, Tryz.ntmps38
  go_wp2_with fail
  have hA0 := Below.refl w.heap.size w
  refine (HCK.out w hA0).mono ?_
  rintro e w1 ⟨rfl, hb1⟩
  generalize hpe : knotsErr L = pe at hne hne2 ⊢
  have HPE := Lib.hid hpe
  clear hpe
  go_wp2
  go_ret2
  exact ⟨by rw [HPE.out]; rfl, hA0.trans (hb1.mono hA0.size)⟩
theorem add1_err (v : Value) (L : List Pair) (u : Value) (w : World) (hw : Good w) (hv : Pairs w v L) (hsz : SzOk L) (hk : knotsErr L ≠ 0) :
    Calls Tryz.prog 51 #[v, u] w (ErrPost (.slice none 0 0) (knotsErr L) w) := by
  have hck := fun w' (hb : Below w.heap.size w w') => ranges_CheckKnots v L w' (hw.below hb) (hv.below hb) hsz
  obtain ⟨p, c, rfl, hc, hm, hxx⟩ := hv
  clear hxx hsz
  have HCK := Lib.hid hck
  have hne : (knotsErr L != 0) = true := by simpa using hk
  have hne2 : (knotsErr L == 0) = false := by simpa using hk
  clear hck hk
  go_enter Tryz.func51, Tryz.ntmps51
  go_wp2_with fail
  have hA0 := Below.refl w.heap.size w
  refine (HCK.out w hA0).mono ?_
  rintro e w1 ⟨rfl, hb1⟩
  generalize hpe : knotsErr L = pe at hne hne2 ⊢
  have HPE := Lib.hid hpe
  clear hpe
  go_wp2
  go_ret2
  exact ⟨by rw [HPE.out]; rfl, hA0.trans (hb1.mono hA0.size)⟩
theorem simplify_err (v : Value) (L : List Pair) (w : World) (hw : Good w) (hv : Pairs w v L) (hsz : SzOk L) (hk : knotsErr L ≠ 0) :
    Calls Tryz.prog 52 #[v] w (ErrPost (.slice none 0 0) (knotsErr L) w) := by
  have hck := fun w' (hb : Below w.heap.size w w') => ranges_CheckKnots v L w' (hw.below hb) (hv.below hb) hsz
  obtain ⟨p, c, rfl, hc, hm, hxx⟩ := hv
  clear hxx hsz
  have HCK := Lib.hid hck
  have hne : (knotsErr L != 0) = true := by simpa using hk
  have hne2 : (knotsErr L == 0) = false := by simpa using hk
  clear hck hk
  go_enter Tryz.func52, Tryz.ntmps52
  go_wp2_with fail
  have hA0 := Below.refl w.heap.size w
  refine (HCK.out w hA0).mono ?_
  rintro e w1 ⟨rfl, hb1⟩
  generalize hpe : knotsErr L = pe at hne hne2 ⊢
  have HPE := Lib.hid hpe
  clear hpe
  go_wp2
  go_ret2
  exact ⟨by rw [HPE.out]; rfl, hA0.trans (hb1.mono hA0.size)⟩
theorem above_err (v : Value) (L : List Pair) (x lo hi : ByteArray) (hxs : x.size ≤ 4000000000) (w : World) (hw : Good w) (hv : Pairs w v L) (hsz : SzOk L) (hk : knotsErr L ≠ 0) :
    Calls Tryz.prog 33 #[v, .string x, .agg #[.string lo, .string hi]] w (ErrPost (.slice none 0 0) (knotsErr L) w) := by
  have hck := fun w' (hb : Below w.heap.size w w') => ranges_checkAt v L x w' (hw.below hb) (hv.below hb) hsz hxs
  rw [atErr_ne hk] at hck
  obtain ⟨p, c, rfl, hc, hm, hxx⟩ := hv
  clear hxx hsz
  have HCK := Lib.hid hck
  have hne : (knotsErr L != 0) = true := by simpa using hk
  have hne2 : (knotsErr L == 0) = false := by simpa using hk
  clear hck hk
  go_enter Tryz.func33, Tryz.ntmps33
  go_wp2_with fail
  obtain ⟨wA, hwA⟩ : ∃ wA, wA = (((w.alloc (Obj.cells #[.slice p L.length c] 51)).alloc (Obj.cells #[.string x] 31)).alloc (Obj.cells #[.string lo, .string hi] 33)) := ⟨_, rfl⟩
  have hA0 : Below w.heap.size w wA := by rw [hwA]; exact (((alloc_below _ _).trans ((alloc_below _ _).mono (by simp only [World.size_alloc]; omega))).trans ((alloc_below _ _).mono (by simp only [World.size_alloc]; omega)))
  rw [← hwA]
  clear hwA
  refine (HCK.out wA hA0).mono ?_
  rintro e w1 ⟨rfl, hb1⟩
  generalize hpe : knotsErr L = pe at hne hne2 ⊢
  have HPE := Lib.hid hpe
  clear hpe
  go_wp2
  go_ret2
  exact ⟨by rw [HPE.out]; rfl, hA0.trans (hb1.mono hA0.size)⟩
theorem add2_err (v u : Value) (K L : List Pair) (w : World) (hw : Good w) (hu : Pairs w u K) (hszK : SzOk K) (hk0 : knotsErr K = 0) (hv : Pairs w v L) (hsz : SzOk L) (hk : knotsErr L ≠ 0) :
    Calls Tryz.prog 51 #[u, v] w (ErrPost (.slice none 0 0) (knotsErr L) w) := by
  have hck := fun w' (hb : Below w.heap.size w w') => ranges_CheckKnots v L w' (hw.below hb) (hv.below hb) hsz
  have hck0 := ranges_CheckKnots u K w hw hu hszK
  rw [hk0] at hck0
  obtain ⟨p, c, rfl, hc, hm, hxx⟩ := hv
  obtain ⟨p2, c2, rfl, hc2, hm2, hxx2⟩ := hu
  clear hxx hsz hxx2 hszK hk0
  have HCK := Lib.hid hck
  have HCK0 := Lib.hid hck0
  have hne : (knotsErr L != 0) = true := by simpa using hk
  clear hck hk hck0
  go_enter Tryz.func51, Tryz.ntmps51
  go_wp2_with fail
  refine HCK0.out.mono ?_
  rintro e w1 ⟨rfl, hb1⟩
  go_wp2_with fail
  refine (HCK.out w1 hb1).mono ?_
  rintro e w2 ⟨rfl, hb2⟩
  generalize hpe : knotsErr L = pe at hne ⊢
  have HPE := Lib.hid hpe
  clear hpe
  go_wp2
  go_ret2
  exact ⟨by rw [HPE.out]; rfl, hb1.trans (hb2.mono hb1.size)⟩
end Go.Proofs.YtbogpbjddaoeiaaGreatDoor
