import Derived.Test.YtbogpbjddaoeiaaGreatDoorJoin0Z
import Derived.BigRegion
import Derived.Laws.IdiomStrings
namespace Go.Proofs.YtbogpbjddaoeiaaGreatDoor
open Go.RowKit
open Go.Lib (decDigits itoa nDigits)
def GcdSt (a b x y : Nat) : Prop := Nat.gcd x y = Nat.gcd a b ∧ x ≤ a + b ∧ y ≤ a + b
theorem GcdSt.step {a b x y : Nat} (h : GcdSt a b x y) (hy : 0 < y) : GcdSt a b y (x % y) := by
  obtain ⟨h1, h2, h3⟩ := h
  refine ⟨?_, h3, ?_⟩
  · rw [← h1, Nat.gcd_comm x y, Nat.gcd_rec y x, Nat.gcd_comm]
  · have := Nat.mod_lt x hy; omega
theorem tmod_nat (x y : Nat) : (x : Int).tmod (y : Int) = ((x % y : Nat) : Int) := by rw [Int.ofNat_tmod]
theorem tdiv_nat (x y : Nat) : (x : Int).tdiv (y : Int) = ((x / y : Nat) : Int) := by rw [Int.ofNat_tdiv]
set_option maxHeartbeats 1000000 in
theorem ref_gcd (a b : Nat) (w : World) (h : a + b ≤ 4000000000000000000) :
    Calls Tryz.prog 72 #[.int .i64 (a : Int), .int .i64 (b : Int)] w fun e w' => e = .returned (.int .i64 ((Nat.gcd a b : Nat) : Int)) ∧ Below w.heap.size w w' := by
  have hst : GcdSt a b a b := ⟨rfl, by omega, by omega⟩
  have hbw := Below.refl w.heap.size w
  go_enter Tryz.func72, Tryz.ntmps72
  go_wp2_with fail
  go_loopw [0, 1] (fun av bv wr => ∃ x y : Nat, GcdSt a b x y ∧ av = .int .i64 (x : Int) ∧ bv = .int .i64 (y : Int) ∧ Below w.heap.size w wr) (fun _ bv _ => (intOf bv).toNat)
  case atStart => exact ⟨a, b, hst, rfl, rfl, hbw⟩
  case round =>
    obtain ⟨x, y, hst, rfl, rfl, hbr⟩ := hrel
    have hx := hst.2.1
    have hy := hst.2.2
    by_cases h0 : 0 < y
    · have e1 : decide ((0 : Int) < (y : Int)) = true := decide_eq_true (by omega)
      have e2 : ((y : Int) == 0) = false := beq_eq_false_iff_ne.2 (by omega)
      have e3 : (y : Int) ≠ 0 := by omega
      have hlt := Nat.mod_lt x h0
      have HF := Lib.hid (hst.step h0)
      have hm := tmod_nat x y
      have hm2 : IntKind.i64.wrap ((x % y : Nat) : Int) = ((x % y : Nat) : Int) := IntWalk.i64_in _ (by omega)
      generalize x % y = z at hm hm2 HF hlt
      clear hst
      go_wp2_with fail
      go_quiet (fail)
      go_wp2
      refine ⟨⟨y, z, HF.out, rfl, rfl, hbr.trans ((below_drewN wr _).mono hbr.size)⟩, ?_⟩
      show ((z : Int)).toNat < ((y : Int)).toNat
      omega
    · have e1 : decide ((0 : Int) < (y : Int)) = false := decide_eq_false (by omega)
      have HF := Lib.hid (show (x : Int) = ((Nat.gcd a b : Nat) : Int) by
        obtain rfl : y = 0 := by omega
        rw [← hst.1, Nat.gcd_zero_right])
      clear hst
      go_wp2
      go_ret
      exact ⟨ret_int HF.out, hbr⟩
def fracV (q : Rat) : Value := .agg #[.int .i64 q.num, .int .i64 (q.den : Int)]
theorem mkRat_zero (d : Nat) (hd : d ≠ 0) : mkRat 0 d = 0 := by
  have h1 : (mkRat 0 d).num = 0 := by rw [Rat.num_mkRat, if_neg hd]; simp
  have h2 : (mkRat 0 d).den = 1 := by rw [Rat.den_mkRat, if_neg hd]; simp [Nat.div_self (Nat.pos_of_ne_zero hd)]
  exact Rat.ext h1 h2
theorem tdiv_exact (n : Int) (g : Nat) (hg : 0 < g) (h : (g : Int) ∣ n) : n.tdiv (g : Int) = n / (g : Int) := by
  obtain ⟨k, rfl⟩ := h
  rw [Int.mul_tdiv_cancel_left _ (by omega), Int.mul_ediv_cancel_left _ (by omega)]
/-- what Make's two quotients are -/
theorem make_parts (n : Int) (d : Nat) (hd : 0 < d) : n.tdiv ((Nat.gcd n.natAbs d : Nat) : Int) = (mkRat n d).num ∧ ((d : Int)).tdiv ((Nat.gcd n.natAbs d : Nat) : Int) = ((mkRat n d).den : Int) := by
  have hg : 0 < Nat.gcd n.natAbs d := Nat.gcd_pos_of_pos_right _ hd
  have h1 : ((Nat.gcd n.natAbs d : Nat) : Int) ∣ n := Int.ofNat_dvd_left.2 (Nat.gcd_dvd_left _ _)
  rw [tdiv_exact n _ hg h1, tdiv_nat, Rat.num_mkRat, Rat.den_mkRat, if_neg (by omega), if_neg (by omega), Nat.gcd_comm d]
  exact ⟨rfl, rfl⟩
theorem mkRat_bound (n : Int) (d : Nat) (hd : 0 < d) : (mkRat n d).num.natAbs ≤ n.natAbs ∧ (mkRat n d).den ≤ d := by
  rw [Rat.num_mkRat, Rat.den_mkRat, if_neg (by omega), if_neg (by omega)]
  refine ⟨?_, Nat.div_le_self _ _⟩
  rw [Int.natAbs_ediv_of_dvd (Int.ofNat_dvd_left.2 (by rw [Nat.gcd_comm]; exact Nat.gcd_dvd_left _ _))]
  exact Nat.div_le_self _ _
theorem ref_Make_zero (d : Nat) (w : World) (hd : 0 < d) (hb : d ≤ 1000000000000000000) :
    Calls Tryz.prog 26 #[.int .i64 0, .int .i64 (d : Int)] w fun e w' => e = .returned (fracV (mkRat 0 d)) ∧ Below w.heap.size w w' := by
  have HF := Lib.hid (mkRat_zero d (by omega))
  have e1 : decide ((d : Int) < 0) = false := decide_eq_false (by omega)
  go_enter Tryz.func26, Tryz.ntmps26
  go_wp2
  refine bodyPost_ret (v := .agg #[.int .i64 0, .int .i64 1]) (by simp [results, Tryz.results26, go_sem]) rfl ⟨?_, ?_⟩
  · rw [HF.out]; rfl
  · exact (Below.refl _ _).alloc (Nat.le_refl _) _
theorem max_neg_natAbs (n : Int) : max n (-n) = ((n.natAbs : Nat) : Int) := by omega
set_option maxHeartbeats 1000000 in
theorem ref_Make_pos (n : Int) (d : Nat) (w : World) (hn : n ≠ 0) (h1 : -1000000000000000000 ≤ n) (h2 : n ≤ 1000000000000000000) (hd : 0 < d) (hb : d ≤ 1000000000000000000) :
    Calls Tryz.prog 26 #[.int .i64 n, .int .i64 (d : Int)] w fun e w' => e = .returned (fracV (mkRat n d)) ∧ Below w.heap.size w w' := by
  obtain ⟨m1, m2⟩ := make_parts n d hd
  obtain ⟨b1, b2⟩ := mkRat_bound n d hd
  have hg : 0 < Nat.gcd n.natAbs d := Nat.gcd_pos_of_pos_right _ hd
  have HG := Lib.hid (ref_gcd n.natAbs d)
  have hab : n.natAbs + d ≤ 4000000000000000000 := by omega
  have e1 : decide ((d : Int) < 0) = false := decide_eq_false (by omega)
  have e2 : (n == 0) = false := beq_eq_false_iff_ne.2 hn
  have HM := Lib.hid (max_neg_natAbs n)
  have k1 : IntKind.i64.wrap (mkRat n d).num = (mkRat n d).num := IntWalk.i64_in _ (by omega)
  have k2 : IntKind.i64.wrap ((mkRat n d).den : Int) = ((mkRat n d).den : Int) := IntWalk.i64_in _ (by omega)
  generalize Nat.gcd n.natAbs d = g at m1 m2 hg HG
  have HV := Lib.hid (show fracV (mkRat n d) = .agg #[.int .i64 (mkRat n d).num, .int .i64 ((mkRat n d).den : Int)] from rfl)
  have g1 : ((g : Int) == 0) = false := beq_eq_false_iff_ne.2 (by omega)
  have g2 : (g : Int) ≠ 0 := by omega
  clear b1 b2
  go_enter Tryz.func26, Tryz.ntmps26
  go_wp2_with fail
  rw [HM.out]
  obtain ⟨wA, hwA⟩ : ∃ wA, wA = w.alloc (Obj.cells #[.int .i64 0, .int .i64 0] 47) := ⟨_, rfl⟩
  have hbA : Below w.heap.size w wA := by rw [hwA]; exact alloc_below _ _
  have hpA : wA.heap[w.heap.size]? = some (.cells #[.int .i64 0, .int .i64 0] 47 (0, 0)) := by rw [hwA]; exact World.alloc_heap_new _ _
  rw [← hwA]
  clear hwA
  refine (HG.out wA hab).mono ?_
  rintro e w1 ⟨rfl, hb1⟩
  have hp1 := (hb1.block _ (lt_of_some hpA)).trans hpA
  obtain ⟨c0, c1, f0, f1⟩ := two_cells hp1
  have hlt := lt_of_some hp1
  have hbw1 := hbA.trans (hb1.mono hbA.size)
  generalize (mkRat n d).num = nn at m1 k1 HV ⊢
  generalize ((mkRat n d).den : Int) = dd at m2 k2 HV ⊢
  have hpz := two_set1 (.int .i64 dd) (two_set0 (.int .i64 nn) hp1)
  obtain ⟨q0, q1, _, _⟩ := two_cells hpz
  have Q0 := Lib.hid q0
  have Q1 := Lib.hid q1
  clear hp1 hpA HG HM hab h1 h2 hb hn hpz q0 q1
  go_wp2_with fail
  go_region
  go_wp2
  have q0 := Q0.out
  have q1 := Q1.out
  refine bodyPost_ret (v := .agg #[.int .i64 nn, .int .i64 dd]) (by simp [results, Tryz.results26, go_sem, q0, q1]) rfl ⟨?_, ?_⟩
  · rw [HV.out]
  · exact ((hbw1.setCell (p := ⟨w.heap.size, 0, none⟩) (Nat.le_refl _) _).setCell (p := ⟨w.heap.size, 1, none⟩) (Nat.le_refl _) _).drew
end Go.Proofs.YtbogpbjddaoeiaaGreatDoor
namespace Go.Proofs.YtbogpbjddaoeiaaGreatDoor
open Go.RowKit
open Go.Lib (decDigits itoa nDigits)
theorem ref_Make (n : Int) (d : Nat) (w : World) (h1 : -1000000000000000000 ≤ n) (h2 : n ≤ 1000000000000000000) (hd : 0 < d) (hb : d ≤ 1000000000000000000) :
    Calls Tryz.prog 26 #[.int .i64 n, .int .i64 (d : Int)] w fun e w' => e = .returned (fracV (mkRat n d)) ∧ Below w.heap.size w w' := by
  by_cases h0 : n = 0
  · subst h0; exact ref_Make_zero d w hd hb
  · exact ref_Make_pos n d w h0 h1 h2 hd hb
/-- a fraction's bounds -/
def Fr (N D : Nat) (q : Rat) : Prop := q.num.natAbs ≤ N ∧ q.den ≤ D
theorem Fr.mono {N D N' D' : Nat} {q : Rat} (h : Fr N D q) (h1 : N ≤ N') (h2 : D ≤ D') : Fr N' D' q := ⟨Nat.le_trans h.1 h1, Nat.le_trans h.2 h2⟩
theorem Fr.mkRat {n : Int} {d N D : Nat} (hd : 0 < d) (hn : n.natAbs ≤ N) (hD : d ≤ D) : Fr N D (mkRat n d) :=
  ⟨Nat.le_trans (mkRat_bound n d hd).1 hn, Nat.le_trans (mkRat_bound n d hd).2 hD⟩
theorem abs_mul_le {a b : Int} {A B : Nat} (ha : a.natAbs ≤ A) (hb : b.natAbs ≤ B) : (a * b).natAbs ≤ A * B := by
  rw [Int.natAbs_mul]; exact Nat.mul_le_mul ha hb
theorem Fr.add {N1 D1 N2 D2 : Nat} {p q : Rat} (h : Fr N1 D1 p) (k : Fr N2 D2 q) : Fr (N1 * D2 + N2 * D1) (D1 * D2) (p + q) := by
  rw [Rat.add_def']
  refine Fr.mkRat (Nat.mul_pos p.den_pos q.den_pos) ?_ (Nat.mul_le_mul h.2 k.2)
  have h1 := abs_mul_le (a := p.num) (b := (q.den : Int)) h.1 (B := D2) (by simpa using k.2)
  have h2 := abs_mul_le (a := q.num) (b := (p.den : Int)) k.1 (B := D1) (by simpa using h.2)
  omega
theorem Fr.sub {N1 D1 N2 D2 : Nat} {p q : Rat} (h : Fr N1 D1 p) (k : Fr N2 D2 q) : Fr (N1 * D2 + N2 * D1) (D1 * D2) (p - q) := by
  rw [Rat.sub_def']
  refine Fr.mkRat (Nat.mul_pos p.den_pos q.den_pos) ?_ (Nat.mul_le_mul h.2 k.2)
  have h1 := abs_mul_le (a := p.num) (b := (q.den : Int)) h.1 (B := D2) (by simpa using k.2)
  have h2 := abs_mul_le (a := q.num) (b := (p.den : Int)) k.1 (B := D1) (by simpa using h.2)
  omega
theorem Fr.mul {N1 D1 N2 D2 : Nat} {p q : Rat} (h : Fr N1 D1 p) (k : Fr N2 D2 q) : Fr (N1 * N2) (D1 * D2) (p * q) := by
  rw [Rat.mul_def']
  exact Fr.mkRat (Nat.mul_pos p.den_pos q.den_pos) (abs_mul_le h.1 k.1) (Nat.mul_le_mul h.2 k.2)
set_option maxHeartbeats 1000000 in
theorem ref_Add_walk (a b c d x y : Int) (w : World) (l0 : -1000000000000000000 ≤ a * d) (u0 : a * d ≤ 1000000000000000000) (l1 : -1000000000000000000 ≤ c * b) (u1 : c * b ≤ 1000000000000000000) (l2 : -1000000000000000000 ≤ a * d + c * b) (u2 : a * d + c * b ≤ 1000000000000000000) (l3 : -1000000000000000000 ≤ b * d) (u3 : b * d ≤ 1000000000000000000)
    (hM : ∀ W : World, Calls Tryz.prog 26 #[.int .i64 (a * d + c * b), .int .i64 (b * d)] W fun e w' => e = .returned (.agg #[.int .i64 x, .int .i64 y]) ∧ Below W.heap.size W w') :
    Calls Tryz.prog 50 #[.agg #[.int .i64 a, .int .i64 b], .agg #[.int .i64 c, .int .i64 d]] w fun e w' => e = .returned (.agg #[.int .i64 x, .int .i64 y]) ∧ Below w.heap.size w w' := by
  have HM := Lib.hid hM
  clear hM
  go_enter Tryz.func50, Tryz.ntmps50
  go_wp2_with fail
  obtain ⟨wA, hwA⟩ : ∃ wA, wA = ((w.alloc (Obj.cells #[.int .i64 a, .int .i64 b] 47)).alloc (Obj.cells #[.int .i64 c, .int .i64 d] 47)).alloc (Obj.cells #[.int .i64 0, .int .i64 0] 47) := ⟨_, rfl⟩
  have hbA : Below w.heap.size w wA := by rw [hwA]; exact ((alloc_below _ _).trans ((alloc_below _ _).mono (by simp))).trans ((alloc_below _ _).mono (by simp; omega))
  have hpA : wA.heap[w.heap.size + 1 + 1]? = some (.cells #[.int .i64 0, .int .i64 0] 47 (0, 0)) := by
    rw [hwA]
    have := World.alloc_heap_new ((w.alloc (Obj.cells #[.int .i64 a, .int .i64 b] 47)).alloc (Obj.cells #[.int .i64 c, .int .i64 d] 47)) (Obj.cells #[.int .i64 0, .int .i64 0] 47)
    simpa using this
  rw [← hwA]
  clear hwA
  refine (HM.out wA).mono ?_
  rintro e w1 ⟨rfl, hb1⟩
  have hp1 := (hb1.block _ (lt_of_some hpA)).trans hpA
  obtain ⟨c0, c1, f0, f1⟩ := two_cells hp1
  have hbw1 := hbA.trans (hb1.mono hbA.size)
  have hpz := two_set1 (.int .i64 y) (two_set0 (.int .i64 x) hp1)
  obtain ⟨q0, q1, _, _⟩ := two_cells hpz
  have Q0 := Lib.hid q0
  have Q1 := Lib.hid q1
  clear hp1 hpA hpz q0 q1
  go_wp2
  have q0 := Q0.out
  have q1 := Q1.out
  refine bodyPost_ret (v := .agg #[.int .i64 x, .int .i64 y]) (by simp [results, Tryz.results50, go_sem, q0, q1]) rfl ⟨rfl, ?_⟩
  exact (hbw1.setCell (p := ⟨w.heap.size + 1 + 1, 0, none⟩) (by simp; omega) _).setCell (p := ⟨w.heap.size + 1 + 1, 1, none⟩) (by simp; omega) _
set_option maxHeartbeats 1000000 in
theorem ref_Sub_walk (a b c d x y : Int) (w : World) (l0 : -1000000000000000000 ≤ a * d) (u0 : a * d ≤ 1000000000000000000) (l1 : -1000000000000000000 ≤ c * b) (u1 : c * b ≤ 1000000000000000000) (l2 : -1000000000000000000 ≤ a * d - c * b) (u2 : a * d - c * b ≤ 1000000000000000000) (l3 : -1000000000000000000 ≤ b * d) (u3 : b * d ≤ 1000000000000000000)
    (hM : ∀ W : World, Calls Tryz.prog 26 #[.int .i64 (a * d - c * b), .int .i64 (b * d)] W fun e w' => e = .returned (.agg #[.int .i64 x, .int .i64 y]) ∧ Below W.heap.size W w') :
    Calls Tryz.prog 79 #[.agg #[.int .i64 a, .int .i64 b], .agg #[.int .i64 c, .int .i64 d]] w fun e w' => e = .returned (.agg #[.int .i64 x, .int .i64 y]) ∧ Below w.heap.size w w' := by
  have HM := Lib.hid hM
  clear hM
  go_enter Tryz.func79, Tryz.ntmps79
  go_wp2_with fail
  obtain ⟨wA, hwA⟩ : ∃ wA, wA = ((w.alloc (Obj.cells #[.int .i64 a, .int .i64 b] 47)).alloc (Obj.cells #[.int .i64 c, .int .i64 d] 47)).alloc (Obj.cells #[.int .i64 0, .int .i64 0] 47) := ⟨_, rfl⟩
  have hbA : Below w.heap.size w wA := by rw [hwA]; exact ((alloc_below _ _).trans ((alloc_below _ _).mono (by simp))).trans ((alloc_below _ _).mono (by simp; omega))
  have hpA : wA.heap[w.heap.size + 1 + 1]? = some (.cells #[.int .i64 0, .int .i64 0] 47 (0, 0)) := by
    rw [hwA]
    have := World.alloc_heap_new ((w.alloc (Obj.cells #[.int .i64 a, .int .i64 b] 47)).alloc (Obj.cells #[.int .i64 c, .int .i64 d] 47)) (Obj.cells #[.int .i64 0, .int .i64 0] 47)
    simpa using this
  rw [← hwA]
  clear hwA
  refine (HM.out wA).mono ?_
  rintro e w1 ⟨rfl, hb1⟩
  have hp1 := (hb1.block _ (lt_of_some hpA)).trans hpA
  obtain ⟨c0, c1, f0, f1⟩ := two_cells hp1
  have hbw1 := hbA.trans (hb1.mono hbA.size)
  have hpz := two_set1 (.int .i64 y) (two_set0 (.int .i64 x) hp1)
  obtain ⟨q0, q1, _, _⟩ := two_cells hpz
  have Q0 := Lib.hid q0
  have Q1 := Lib.hid q1
  clear hp1 hpA hpz q0 q1
  go_wp2
  have q0 := Q0.out
  have q1 := Q1.out
  refine bodyPost_ret (v := .agg #[.int .i64 x, .int .i64 y]) (by simp [results, Tryz.results79, go_sem, q0, q1]) rfl ⟨rfl, ?_⟩
  exact (hbw1.setCell (p := ⟨w.heap.size + 1 + 1, 0, none⟩) (by simp; omega) _).setCell (p := ⟨w.heap.size + 1 + 1, 1, none⟩) (by simp; omega) _
set_option maxHeartbeats 1000000 in
theorem ref_Mul_walk (a b c d x y : Int) (w : World) (l0 : -1000000000000000000 ≤ a * c) (u0 : a * c ≤ 1000000000000000000) (l1 : -1000000000000000000 ≤ b * d) (u1 : b * d ≤ 1000000000000000000)
    (hM : ∀ W : World, Calls Tryz.prog 26 #[.int .i64 (a * c), .int .i64 (b * d)] W fun e w' => e = .returned (.agg #[.int .i64 x, .int .i64 y]) ∧ Below W.heap.size W w') :
    Calls Tryz.prog 78 #[.agg #[.int .i64 a, .int .i64 b], .agg #[.int .i64 c, .int .i64 d]] w fun e w' => e = .returned (.agg #[.int .i64 x, .int .i64 y]) ∧ Below w.heap.size w w' := by
  have HM := Lib.hid hM
  clear hM
  go_enter Tryz.func78, Tryz.ntmps78
  go_wp2_with fail
  obtain ⟨wA, hwA⟩ : ∃ wA, wA = ((w.alloc (Obj.cells #[.int .i64 a, .int .i64 b] 47)).alloc (Obj.cells #[.int .i64 c, .int .i64 d] 47)).alloc (Obj.cells #[.int .i64 0, .int .i64 0] 47) := ⟨_, rfl⟩
  have hbA : Below w.heap.size w wA := by rw [hwA]; exact ((alloc_below _ _).trans ((alloc_below _ _).mono (by simp))).trans ((alloc_below _ _).mono (by simp; omega))
  have hpA : wA.heap[w.heap.size + 1 + 1]? = some (.cells #[.int .i64 0, .int .i64 0] 47 (0, 0)) := by
    rw [hwA]
    have := World.alloc_heap_new ((w.alloc (Obj.cells #[.int .i64 a, .int .i64 b] 47)).alloc (Obj.cells #[.int .i64 c, .int .i64 d] 47)) (Obj.cells #[.int .i64 0, .int .i64 0] 47)
    simpa using this
  rw [← hwA]
  clear hwA
  refine (HM.out wA).mono ?_
  rintro e w1 ⟨rfl, hb1⟩
  have hp1 := (hb1.block _ (lt_of_some hpA)).trans hpA
  obtain ⟨c0, c1, f0, f1⟩ := two_cells hp1
  have hbw1 := hbA.trans (hb1.mono hbA.size)
  have hpz := two_set1 (.int .i64 y) (two_set0 (.int .i64 x) hp1)
  obtain ⟨q0, q1, _, _⟩ := two_cells hpz
  have Q0 := Lib.hid q0
  have Q1 := Lib.hid q1
  clear hp1 hpA hpz q0 q1
  go_wp2
  have q0 := Q0.out
  have q1 := Q1.out
  refine bodyPost_ret (v := .agg #[.int .i64 x, .int .i64 y]) (by simp [results, Tryz.results78, go_sem, q0, q1]) rfl ⟨rfl, ?_⟩
  exact (hbw1.setCell (p := ⟨w.heap.size + 1 + 1, 0, none⟩) (by simp; omega) _).setCell (p := ⟨w.heap.size + 1 + 1, 1, none⟩) (by simp; omega) _
set_option maxHeartbeats 1000000 in
theorem ref_Div_walk (a b c d x y : Int) (w : World) (l0 : -1000000000000000000 ≤ a * d) (u0 : a * d ≤ 1000000000000000000) (l1 : -1000000000000000000 ≤ b * c) (u1 : b * c ≤ 1000000000000000000)
    (hM : ∀ W : World, Calls Tryz.prog 26 #[.int .i64 (a * d), .int .i64 (b * c)] W fun e w' => e = .returned (.agg #[.int .i64 x, .int .i64 y]) ∧ Below W.heap.size W w') :
    Calls Tryz.prog 89 #[.agg #[.int .i64 a, .int .i64 b], .agg #[.int .i64 c, .int .i64 d]] w fun e w' => e = .returned (.agg #[.int .i64 x, .int .i64 y]) ∧ Below w.heap.size w w' := by
  have HM := Lib.hid hM
  clear hM
  go_enter Tryz.func89, Tryz.ntmps89
  go_wp2_with fail
  obtain ⟨wA, hwA⟩ : ∃ wA, wA = ((w.alloc (Obj.cells #[.int .i64 a, .int .i64 b] 47)).alloc (Obj.cells #[.int .i64 c, .int .i64 d] 47)).alloc (Obj.cells #[.int .i64 0, .int .i64 0] 47) := ⟨_, rfl⟩
  have hbA : Below w.heap.size w wA := by rw [hwA]; exact ((alloc_below _ _).trans ((alloc_below _ _).mono (by simp))).trans ((alloc_below _ _).mono (by simp; omega))
  have hpA : wA.heap[w.heap.size + 1 + 1]? = some (.cells #[.int .i64 0, .int .i64 0] 47 (0, 0)) := by
    rw [hwA]
    have := World.alloc_heap_new ((w.alloc (Obj.cells #[.int .i64 a, .int .i64 b] 47)).alloc (Obj.cells #[.int .i64 c, .int .i64 d] 47)) (Obj.cells #[.int .i64 0, .int .i64 0] 47)
    simpa using this
  rw [← hwA]
  clear hwA
  refine (HM.out wA).mono ?_
  rintro e w1 ⟨rfl, hb1⟩
  have hp1 := (hb1.block _ (lt_of_some hpA)).trans hpA
  obtain ⟨c0, c1, f0, f1⟩ := two_cells hp1
  have hbw1 := hbA.trans (hb1.mono hbA.size)
  have hpz := two_set1 (.int .i64 y) (two_set0 (.int .i64 x) hp1)
  obtain ⟨q0, q1, _, _⟩ := two_cells hpz
  have Q0 := Lib.hid q0
  have Q1 := Lib.hid q1
  clear hp1 hpA hpz q0 q1
  go_wp2
  have q0 := Q0.out
  have q1 := Q1.out
  refine bodyPost_ret (v := .agg #[.int .i64 x, .int .i64 y]) (by simp [results, Tryz.results89, go_sem, q0, q1]) rfl ⟨rfl, ?_⟩
  exact (hbw1.setCell (p := ⟨w.heap.size + 1 + 1, 0, none⟩) (by simp; omega) _).setCell (p := ⟨w.heap.size + 1 + 1, 1, none⟩) (by simp; omega) _
theorem ref_Add (p q : Rat) (N1 D1 N2 D2 : Nat) (w : World) (hp : Fr N1 D1 p) (hq : Fr N2 D2 q) (h1 : N1 * D2 + N2 * D1 ≤ 1000000000000000000) (h2 : D1 * D2 ≤ 1000000000000000000) :
    Calls Tryz.prog 50 #[fracV p, fracV q] w fun e w' => e = .returned (fracV (p + q)) ∧ Below w.heap.size w w' := by
  have a1 := abs_mul_le (a := p.num) (b := (q.den : Int)) hp.1 (B := D2) (by simpa using hq.2)
  have a2 := abs_mul_le (a := q.num) (b := (p.den : Int)) hq.1 (B := D1) (by simpa using hp.2)
  have a3 : p.den * q.den ≤ D1 * D2 := Nat.mul_le_mul hp.2 hq.2
  have a4 : (p.den : Int) * (q.den : Int) = ((p.den * q.den : Nat) : Int) := by simp
  have hpos := Nat.mul_pos p.den_pos q.den_pos
  refine ref_Add_walk p.num p.den q.num q.den (p + q).num (p + q).den w (by omega) (by omega) (by omega) (by omega) (by omega) (by omega) (by omega) (by omega) (fun W => ?_)
  have := ref_Make (p.num * q.den + q.num * p.den) (p.den * q.den) W (by omega) (by omega) hpos (by omega)
  rw [← Rat.add_def', ← a4] at this
  exact this
theorem ref_Sub (p q : Rat) (N1 D1 N2 D2 : Nat) (w : World) (hp : Fr N1 D1 p) (hq : Fr N2 D2 q) (h1 : N1 * D2 + N2 * D1 ≤ 1000000000000000000) (h2 : D1 * D2 ≤ 1000000000000000000) :
    Calls Tryz.prog 79 #[fracV p, fracV q] w fun e w' => e = .returned (fracV (p - q)) ∧ Below w.heap.size w w' := by
  have a1 := abs_mul_le (a := p.num) (b := (q.den : Int)) hp.1 (B := D2) (by simpa using hq.2)
  have a2 := abs_mul_le (a := q.num) (b := (p.den : Int)) hq.1 (B := D1) (by simpa using hp.2)
  have a3 : p.den * q.den ≤ D1 * D2 := Nat.mul_le_mul hp.2 hq.2
  have a4 : (p.den : Int) * (q.den : Int) = ((p.den * q.den : Nat) : Int) := by simp
  have hpos := Nat.mul_pos p.den_pos q.den_pos
  refine ref_Sub_walk p.num p.den q.num q.den (p - q).num (p - q).den w (by omega) (by omega) (by omega) (by omega) (by omega) (by omega) (by omega) (by omega) (fun W => ?_)
  have := ref_Make (p.num * q.den - q.num * p.den) (p.den * q.den) W (by omega) (by omega) hpos (by omega)
  rw [← Rat.sub_def', ← a4] at this
  exact this
theorem ref_Mul (p q : Rat) (N1 D1 N2 D2 : Nat) (w : World) (hp : Fr N1 D1 p) (hq : Fr N2 D2 q) (h1 : N1 * N2 ≤ 1000000000000000000) (h2 : D1 * D2 ≤ 1000000000000000000) :
    Calls Tryz.prog 78 #[fracV p, fracV q] w fun e w' => e = .returned (fracV (p * q)) ∧ Below w.heap.size w w' := by
  have a1 := abs_mul_le hp.1 hq.1
  have a3 : p.den * q.den ≤ D1 * D2 := Nat.mul_le_mul hp.2 hq.2
  have a4 : (p.den : Int) * (q.den : Int) = ((p.den * q.den : Nat) : Int) := by simp
  have hpos := Nat.mul_pos p.den_pos q.den_pos
  refine ref_Mul_walk p.num p.den q.num q.den (p * q).num (p * q).den w (by omega) (by omega) (by omega) (by omega) (fun W => ?_)
  have := ref_Make (p.num * q.num) (p.den * q.den) W (by omega) (by omega) hpos (by omega)
  rw [← Rat.mul_def', ← a4] at this
  exact this
theorem div_mkRat (p q : Rat) (hq : 0 < q.num) : p * q⁻¹ = mkRat (p.num * q.den) (p.den * q.num.natAbs) := by
  have h0 : q ≠ 0 := by rintro rfl; simp at hq
  have e : q⁻¹ = mkRat q.den q.num.natAbs := by
    have hn : q.num = ((q.num.natAbs : Nat) : Int) := by omega
    rw [Rat.inv_def]
    generalize q.num.natAbs = k at hn
    rw [hn]
    exact Rat.divInt_ofNat _ _
  rw [e]
  have := Rat.mkRat_mul_mkRat p.num (q.den : Int) p.den q.num.natAbs
  rw [Rat.mkRat_self] at this
  exact this
theorem Fr.div {N1 D1 N2 D2 : Nat} {p q : Rat} (h : Fr N1 D1 p) (k : Fr N2 D2 q) (hq : 0 < q.num) : Fr (N1 * D2) (D1 * N2) (p * q⁻¹) := by
  rw [div_mkRat p q hq]
  exact Fr.mkRat (Nat.mul_pos p.den_pos (by omega)) (abs_mul_le h.1 (by simpa using k.2)) (Nat.mul_le_mul h.2 k.1)
theorem ref_Div (p q : Rat) (N1 D1 N2 D2 : Nat) (w : World) (hp : Fr N1 D1 p) (hq : Fr N2 D2 q) (hpos : 0 < q.num) (h1 : N1 * D2 ≤ 1000000000000000000) (h2 : D1 * N2 ≤ 1000000000000000000) :
    Calls Tryz.prog 89 #[fracV p, fracV q] w fun e w' => e = .returned (fracV (p * q⁻¹)) ∧ Below w.heap.size w w' := by
  have a1 := abs_mul_le (a := p.num) (b := (q.den : Int)) hp.1 (B := D2) (by simpa using hq.2)
  have a3 : p.den * q.num.natAbs ≤ D1 * N2 := Nat.mul_le_mul hp.2 hq.1
  have a4 : (p.den : Int) * q.num = ((p.den * q.num.natAbs : Nat) : Int) := by
    rw [Int.natCast_mul]; congr 1; omega
  have hd := Nat.mul_pos p.den_pos (show 0 < q.num.natAbs by omega)
  refine ref_Div_walk p.num p.den q.num q.den (p * q⁻¹).num (p * q⁻¹).den w (by omega) (by omega) (by omega) (by omega) (fun W => ?_)
  have := ref_Make (p.num * q.den) (p.den * q.num.natAbs) W (by omega) (by omega) hd (by omega)
  rw [← div_mkRat p q hpos, ← a4] at this
  exact this
set_option maxHeartbeats 1000000 in
theorem ref_Less_walk (a b c d : Int) (w : World) (l0 : -1000000000000000000 ≤ a * d) (u0 : a * d ≤ 1000000000000000000) (l1 : -1000000000000000000 ≤ c * b) (u1 : c * b ≤ 1000000000000000000) :
    Calls Tryz.prog 49 #[.agg #[.int .i64 a, .int .i64 b], .agg #[.int .i64 c, .int .i64 d]] w fun e w' => e = .returned (.bool (decide (a * d < c * b))) ∧ Below w.heap.size w w' := by
  go_enter Tryz.func49, Tryz.ntmps49
  go_wp2
  go_ret
  exact ⟨rfl, (alloc_below _ _).trans ((alloc_below _ _).mono (by simp))⟩
theorem ref_Less (p q : Rat) (N1 D1 N2 D2 : Nat) (w : World) (hp : Fr N1 D1 p) (hq : Fr N2 D2 q) (h1 : N1 * D2 + N2 * D1 ≤ 1000000000000000000) :
    Calls Tryz.prog 49 #[fracV p, fracV q] w fun e w' => e = .returned (.bool (decide (p < q))) ∧ Below w.heap.size w w' := by
  have a1 := abs_mul_le (a := p.num) (b := (q.den : Int)) hp.1 (B := D2) (by simpa using hq.2)
  have a2 := abs_mul_le (a := q.num) (b := (p.den : Int)) hq.1 (B := D1) (by simpa using hp.2)
  refine (ref_Less_walk p.num p.den q.num q.den w (by omega) (by omega) (by omega) (by omega)).mono fun e w' ⟨he, hb⟩ => ⟨?_, hb⟩
  rw [he]
  exact ret_bool (decide_eq_decide.2 (Rat.lt_iff p q).symm)
end Go.Proofs.YtbogpbjddaoeiaaGreatDoor
namespace Go.Proofs.YtbogpbjddaoeiaaGreatDoor
open Go.RowKit
open Go.Lib (decDigits itoa nDigits)
theorem dig_byte (k : Nat) (hk : k < 10) : (((UInt8.ofNat (48 + k)).toNat : Nat) : Int) = 48 + (k : Int) := by
  rw [UInt8.toNat_ofNat_of_lt' (by simp only [UInt8.size]; omega)]; omega
theorem conv_byte (W : World) (c : UInt8) (v : Int) (hv : (c.toNat : Int) = v) :
    (convert 173 9 (.slice (some ⟨W.heap.size, 0, none⟩) 1 1)).run Tryz.prog (W.alloc (Obj.cells #[.int .u8 v] 5)) = .ok (.string ⟨#[c]⟩) (W.alloc (Obj.cells #[.int .u8 v] 5)) := by
  have h := run_convert_bytes_back (P := Tryz.prog) (W.alloc (Obj.cells #[.int .u8 v] 5)) 173 9 5 ⟨W.heap.size, 0, none⟩ 1 [c] Tryz.underlying173 Tryz.underlying5 Tryz.underlying9 (fun j hj => by
    have hj' : j = 0 := by simpa using hj
    subst hj'
    rw [adr_add, World.cell?_alloc_new]
    simp [hv])
  exact h
theorem dig_size {n x : Nat} {s : ByteArray} (hn : n ≤ 1000000000000000000) (h : decDigits x ++ s.data.toList = decDigits n) : s.size ≤ 30 := by
  have h1 := congrArg List.length h
  rw [List.length_append, decDigits_len n] at h1
  have h2 : nDigits n ≤ 19 := nDigits_le_of_lt (by omega) (by omega)
  rw [Lib.size_eq]
  omega
def DigSt (n x : Nat) (s : ByteArray) : Prop := x ≤ n ∧ decDigits x ++ s.data.toList = decDigits n
set_option maxRecDepth 100000 in
set_option maxHeartbeats 1000000 in
theorem ref_digits (n : Nat) (w : World) (hn : n ≤ 1000000000000000000) :
    Calls Tryz.prog 77 #[.int .i64 (n : Int)] w fun e w' => e = .returned (.string ⟨(decDigits n).toArray⟩) ∧ Below w.heap.size w w' := by
  have hst : DigSt n n ⟨#[]⟩ := ⟨Nat.le_refl _, by simp⟩
  have hbw := Below.refl w.heap.size w
  go_enter Tryz.func77, Tryz.ntmps77
  go_wp2_with fail
  go_loopw [0, 3] (fun nv sv wr => ∃ (x : Nat) (s : ByteArray), DigSt n x s ∧ nv = .int .i64 (x : Int) ∧ sv = .string s ∧ Below w.heap.size w wr) (fun nv _ _ => (intOf nv).toNat)
  case atStart => exact ⟨n, ⟨#[]⟩, hst, rfl, rfl, hbw⟩
  case round =>
    obtain ⟨x, s, hst, rfl, rfl, hbr⟩ := hrel
    have hxn := hst.1
    by_cases hx : 10 ≤ x
    · have e1 : decide ((10 : Int) ≤ (x : Int)) = true := decide_eq_true (by omega)
      have HST := Lib.hid hst
      have hk : x % 10 < 10 := Nat.mod_lt _ (by omega)
      have hsz := dig_size hn hst.2
      obtain ⟨c, hc⟩ : ∃ c : UInt8, c = UInt8.ofNat (48 + x % 10) := ⟨_, rfl⟩
      have HF := Lib.hid (show DigSt n (x / 10) (⟨#[c]⟩ ++ s) from ⟨by omega, by
        have h := hst.2
        rw [decDigits_big hx, ← hc] at h
        rw [← h]
        simp⟩)
      have hcv := conv_byte wr c (48 + (x : Int) % 10) (by rw [hc, dig_byte _ hk]; omega)
      clear hst hc
      go_wp2_with fail
      refine ⟨⟨x / 10, _, HF.out, by simp, rfl, hbr.trans ((alloc_below _ _).mono hbr.size)⟩, ?_⟩
      show ((x : Int) / 10).toNat < ((x : Int)).toNat
      omega
    · have e1 : decide ((10 : Int) ≤ (x : Int)) = false := decide_eq_false (by omega)
      have hsz := dig_size hn hst.2
      obtain ⟨c, hc⟩ : ∃ c : UInt8, c = UInt8.ofNat (48 + x) := ⟨_, rfl⟩
      have HF := Lib.hid (show (⟨#[c]⟩ : ByteArray) ++ s = ⟨(decDigits n).toArray⟩ from str_ext (by
        have h := hst.2
        rw [decDigits_small (by omega), ← hc] at h
        rw [← h]
        simp))
      have hcv := conv_byte wr c (48 + (x : Int)) (by rw [hc, dig_byte _ (by omega)])
      clear hst hc
      go_wp2
      go_ret
      exact ⟨ret_str HF.out, hbr.trans ((alloc_below _ _).mono hbr.size)⟩
def DigPost (n : Nat) (w : World) (e : Ending) (w' : World) : Prop := ∃ r : ByteArray, e = .returned (.string r) ∧ r.data.toList = decDigits n ∧ r.size ≤ 30 ∧ Below w.heap.size w w'
theorem ref_digits' (n : Nat) (w : World) (hn : n ≤ 1000000000000000000) : Calls Tryz.prog 77 #[.int .i64 (n : Int)] w (DigPost n w) :=
  (ref_digits n w hn).mono fun e w' ⟨he, hb⟩ => ⟨_, he, by simp, by
    have := dig_size (n := n) (x := n) (s := ⟨#[]⟩) hn (by simp)
    have h2 : nDigits n ≤ 19 := nDigits_le_of_lt (by omega) (by omega)
    rw [Lib.size_eq]
    simp only [decDigits_len]
    omega, hb⟩
theorem text_plain {q : Rat} (h0 : ¬ q.num < 0) (h1 : q.den = 1) : rtext q = decDigits q.num.natAbs := by
  unfold rtext rjoin
  rw [if_pos h1, itoa_nonneg (by omega)]
  congr 1; omega
theorem text_neg {q : Rat} (h0 : q.num < 0) (h1 : q.den = 1) : rtext q = 45 :: decDigits q.num.natAbs := by
  unfold rtext rjoin
  rw [if_pos h1, itoa_neg h0]
theorem text_frac {q : Rat} (h0 : ¬ q.num < 0) (h1 : q.den ≠ 1) : rtext q = decDigits q.num.natAbs ++ 47 :: decDigits q.den := by
  unfold rtext rjoin
  rw [if_neg h1, itoa_nonneg (by omega)]
  congr 2; omega
theorem text_nfrac {q : Rat} (h0 : q.num < 0) (h1 : q.den ≠ 1) : rtext q = 45 :: (decDigits q.num.natAbs ++ 47 :: decDigits q.den) := by
  unfold rtext rjoin
  rw [if_neg h1, itoa_neg h0]
  rfl
def TextPost (q : Rat) (w : World) (e : Ending) (w' : World) : Prop := ∃ r : ByteArray, e = .returned (.string r) ∧ IsR r q ∧ Below w.heap.size w w'
set_option maxRecDepth 100000 in
set_option maxHeartbeats 1000000 in
theorem ref_Text (q : Rat) (w : World) (hq : Fr 1000000000000000000 1000000000000000000 q) :
    Calls Tryz.prog 29 #[fracV q] w (TextPost q w) := by
  obtain ⟨b1, b2⟩ := hq
  have hpos := q.den_pos
  have HD1 := Lib.hid (fun w' => ref_digits' q.num.natAbs w' b1)
  have HD2 := Lib.hid (fun w' => ref_digits' q.den w' b2)
  have HM := Lib.hid (max_neg_natAbs q.num)
  have l1 : -1000000000000000000 ≤ q.num := by omega
  have l2 : q.num ≤ 1000000000000000000 := by omega
  unfold fracV
  by_cases h0 : q.num < 0
  · have e1 : decide (q.num < 0) = true := decide_eq_true h0
    by_cases h1 : q.den = 1
    · have e2 : decide ((1 : Int) < (q.den : Int)) = false := decide_eq_false (by omega)
      have HF := Lib.hid (text_neg h0 h1)
      clear h0 h1 b1 b2 hpos
      go_enter Tryz.func29, Tryz.ntmps29
      go_wp2_with fail
      rw [HM.out]
      obtain ⟨wA, hwA⟩ : ∃ wA, wA = w.alloc (Obj.cells #[.int .i64 q.num, .int .i64 (q.den : Int)] 47) := ⟨_, rfl⟩
      have hbA : Below w.heap.size w wA := by rw [hwA]; exact alloc_below _ _
      have hpA : wA.heap[w.heap.size]? = some (.cells #[.int .i64 q.num, .int .i64 (q.den : Int)] 47 (0, 0)) := by rw [hwA]; exact World.alloc_heap_new _ _
      rw [← hwA]
      clear hwA
      refine (HD1.out wA).mono ?_
      rintro e w1 ⟨r1, rfl, hr1, hs1, hb1⟩
      have hp1 := (hb1.block _ (lt_of_some hpA)).trans hpA
      obtain ⟨c0, c1, _, _⟩ := two_cells hp1
      have hbw1 := hbA.trans (hb1.mono hbA.size)
      have HR := Lib.hid hr1
      clear hr1 hp1 hpA
      go_wp2
      go_ret
      exact ⟨_, rfl, by unfold IsR; rw [HF.out, ← HR.out]; simp, hbw1⟩
    · have e2 : decide ((1 : Int) < (q.den : Int)) = true := decide_eq_true (by omega)
      have HF := Lib.hid (text_nfrac h0 h1)
      clear h0 h1 b1 b2 hpos
      go_enter Tryz.func29, Tryz.ntmps29
      go_wp2_with fail
      rw [HM.out]
      obtain ⟨wA, hwA⟩ : ∃ wA, wA = w.alloc (Obj.cells #[.int .i64 q.num, .int .i64 (q.den : Int)] 47) := ⟨_, rfl⟩
      have hbA : Below w.heap.size w wA := by rw [hwA]; exact alloc_below _ _
      have hpA : wA.heap[w.heap.size]? = some (.cells #[.int .i64 q.num, .int .i64 (q.den : Int)] 47 (0, 0)) := by rw [hwA]; exact World.alloc_heap_new _ _
      rw [← hwA]
      clear hwA
      refine (HD1.out wA).mono ?_
      rintro e w1 ⟨r1, rfl, hr1, hs1, hb1⟩
      have hp1 := (hb1.block _ (lt_of_some hpA)).trans hpA
      obtain ⟨c0, c1, _, _⟩ := two_cells hp1
      have hbw1 := hbA.trans (hb1.mono hbA.size)
      have HR := Lib.hid hr1
      clear hr1 hp1 hpA
      go_wp2_with fail
      refine (HD2.out w1).mono ?_
      rintro e w2 ⟨r2, rfl, hr2, hs2, hb2⟩
      have HR2 := Lib.hid hr2
      clear hr2
      go_wp2
      go_ret
      exact ⟨_, rfl, by unfold IsR; rw [HF.out, ← HR.out, ← HR2.out]; simp, hbw1.trans (hb2.mono hbw1.size)⟩
  · have e1 : decide (q.num < 0) = false := decide_eq_false h0
    by_cases h1 : q.den = 1
    · have e2 : decide ((1 : Int) < (q.den : Int)) = false := decide_eq_false (by omega)
      have HF := Lib.hid (text_plain h0 h1)
      clear h0 h1 b1 b2 hpos
      go_enter Tryz.func29, Tryz.ntmps29
      go_wp2_with fail
      rw [HM.out]
      obtain ⟨wA, hwA⟩ : ∃ wA, wA = w.alloc (Obj.cells #[.int .i64 q.num, .int .i64 (q.den : Int)] 47) := ⟨_, rfl⟩
      have hbA : Below w.heap.size w wA := by rw [hwA]; exact alloc_below _ _
      have hpA : wA.heap[w.heap.size]? = some (.cells #[.int .i64 q.num, .int .i64 (q.den : Int)] 47 (0, 0)) := by rw [hwA]; exact World.alloc_heap_new _ _
      rw [← hwA]
      clear hwA
      refine (HD1.out wA).mono ?_
      rintro e w1 ⟨r1, rfl, hr1, hs1, hb1⟩
      have hp1 := (hb1.block _ (lt_of_some hpA)).trans hpA
      obtain ⟨c0, c1, _, _⟩ := two_cells hp1
      have hbw1 := hbA.trans (hb1.mono hbA.size)
      have HR := Lib.hid hr1
      clear hr1 hp1 hpA
      go_wp2
      go_ret
      exact ⟨_, rfl, by unfold IsR; rw [HF.out, ← HR.out], hbw1⟩
    · have e2 : decide ((1 : Int) < (q.den : Int)) = true := decide_eq_true (by omega)
      have HF := Lib.hid (text_frac h0 h1)
      clear h0 h1 b1 b2 hpos
      go_enter Tryz.func29, Tryz.ntmps29
      go_wp2_with fail
      rw [HM.out]
      obtain ⟨wA, hwA⟩ : ∃ wA, wA = w.alloc (Obj.cells #[.int .i64 q.num, .int .i64 (q.den : Int)] 47) := ⟨_, rfl⟩
      have hbA : Below w.heap.size w wA := by rw [hwA]; exact alloc_below _ _
      have hpA : wA.heap[w.heap.size]? = some (.cells #[.int .i64 q.num, .int .i64 (q.den : Int)] 47 (0, 0)) := by rw [hwA]; exact World.alloc_heap_new _ _
      rw [← hwA]
      clear hwA
      refine (HD1.out wA).mono ?_
      rintro e w1 ⟨r1, rfl, hr1, hs1, hb1⟩
      have hp1 := (hb1.block _ (lt_of_some hpA)).trans hpA
      obtain ⟨c0, c1, _, _⟩ := two_cells hp1
      have hbw1 := hbA.trans (hb1.mono hbA.size)
      have HR := Lib.hid hr1
      clear hr1 hp1 hpA
      go_wp2_with fail
      refine (HD2.out w1).mono ?_
      rintro e w2 ⟨r2, rfl, hr2, hs2, hb2⟩
      have HR2 := Lib.hid hr2
      clear hr2
      go_wp2
      go_ret
      exact ⟨_, rfl, by unfold IsR; rw [HF.out, ← HR.out, ← HR2.out]; simp, hbw1.trans (hb2.mono hbw1.size)⟩
end Go.Proofs.YtbogpbjddaoeiaaGreatDoor
