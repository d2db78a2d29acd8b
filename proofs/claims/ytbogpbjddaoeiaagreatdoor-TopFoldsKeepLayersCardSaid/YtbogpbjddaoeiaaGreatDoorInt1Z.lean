import Derived.Test.YtbogpbjddaoeiaaGreatDoorShelfZ
import Derived.Test.YtbogpbjddaoeiaaGreatDoorBaseZ
import Derived.Test.YtbogpbjddaoeiaaGreatDoorMathZ
import Derived.Handy
import Derived.Lib.AtoiErrMem
import Derived.BigQuiet
import Derived.Deep.QuietTactic
namespace Go.Proofs.YtbogpbjddaoeiaaGreatDoor
open Go.Lib (decDigits itoa nDigits compareBytes hasPrefix trimPrefix)
open Go.RowKit Go.Sort
theorem mag_itoa (n : Int) : magOf (itoa n) = itoa n.natAbs := by rw [magOf_itoa, itoa_nat]
theorem sh_HasPrefix (s : ByteArray) (n : Int) (h : IsI s n) (w : World) :
    Calls Tryz.prog 184 #[.string s, .string ⟨#[45]⟩] w fun e w' => e = .returned (.bool (decide (n < 0))) ∧ w = w' := by
  refine (Tryz.strings_HasPrefix s ⟨#[45]⟩ w).mono fun e w' he => ⟨?_, he.2.symm⟩
  rw [he.1]
  exact ret_bool (by rw [h]; exact hasPrefix_itoa n)
theorem sh_TrimPrefix (s : ByteArray) (n : Int) (h : IsI s n) (w : World) :
    Calls Tryz.prog 167 #[.string s, .string ⟨#[45]⟩] w fun e w' => ∃ r : ByteArray, e = .returned (.string r) ∧ IsI r n.natAbs ∧ w = w' := by
  refine (Tryz.strings_TrimPrefix s ⟨#[45]⟩ w).mono fun e w' he => ⟨_, he.1, IsI.mk ?_, he.2.symm⟩
  rw [h]
  exact (trimPrefix45 _).trans (mag_itoa n)
theorem sh_CutPrefix (s : ByteArray) (n : Int) (h : IsI s n) (w : World) :
    Calls Tryz.prog 166 #[.string s, .string ⟨#[45]⟩] w fun e w' => ∃ r : ByteArray, e = .returned (.tuple #[.string r, .bool (decide (n < 0))]) ∧ IsI r n.natAbs ∧ w = w' := by
  refine (Tryz.strings_CutPrefix s ⟨#[45]⟩ w).mono fun e w' he => ⟨⟨(itoa n.natAbs).toArray⟩, ?_, IsI.mk rfl, he.2.symm⟩
  rw [he.1, h]
  have e1 : trimPrefix (itoa n) (⟨#[45]⟩ : ByteArray).data.toList = itoa n.natAbs := (trimPrefix45 _).trans (mag_itoa n)
  have e2 : hasPrefix (itoa n) (⟨#[45]⟩ : ByteArray).data.toList = decide (n < 0) := hasPrefix_itoa n
  rw [e1, e2]

theorem integer_Sign (s : ByteArray) (n : Int) (h : IsI s n) (w : World) :
    Calls Tryz.prog 143 #[.string s] w fun e w' => e = .returned (.int .i64 (sgn n)) ∧ w = w' := by
  have h0 := h.zero
  go_enter Tryz.func143, Tryz.ntmps143
  go_wp2_with (go_at_call 184; refine (sh_HasPrefix s n h _).mono ?_; rintro e w' ⟨rfl, rfl⟩)
  · go_ret
    exact ⟨ret_int (sgn_zero (by assumption)).symm, rfl⟩
  · go_ret
    exact ⟨ret_int (sgn_neg (by assumption)).symm, rfl⟩
  · go_ret
    have h1 : ¬ n = 0 := by assumption
    have h2 : 0 ≤ n := by assumption
    exact ⟨ret_int (sgn_pos (by omega)).symm, rfl⟩
theorem neg_nonneg_text {s : ByteArray} {n : Int} (h : IsI s n) (hn : 0 < n) : IsI (⟨#[45]⟩ ++ s) (-n) := by
  unfold IsI
  have e : ((⟨#[45]⟩ : ByteArray) ++ s).data.toList = 45 :: s.data.toList := by simp
  rw [e, h, itoa_neg (n := -n) (by omega), itoa_nonneg (n := n) (by omega)]
  congr 2; omega
theorem neg_neg_text {s : ByteArray} {n : Int} (h : IsI s n) (hn : n < 0) : IsI (s.extract 1 s.size) (-n) := by
  unfold IsI
  rw [Lib.extract_data, h, itoa_neg hn, itoa_nonneg (n := -n) (by omega)]
  have : s.size = (decDigits n.natAbs).length + 1 := by rw [h.size, itoa_neg hn]; rfl
  rw [this]
  simp
  congr 1; omega
theorem sgn_one_iff {n : Int} : (sgn n == 1) = decide (0 < n) := by
  rcases sgn_cases n with ⟨h, e⟩ | ⟨h, e⟩ | ⟨h, e⟩ <;> rw [e] <;> simp <;> omega
theorem sgn_minus_iff {n : Int} : (sgn n == -1) = decide (n < 0) := by
  rcases sgn_cases n with ⟨h, e⟩ | ⟨h, e⟩ | ⟨h, e⟩ <;> rw [e] <;> simp <;> omega
theorem integer_Neg (s : ByteArray) (n : Int) (h : IsI s n) (w : World) (_hs : s.size ≤ 9000000000) :
    Calls Tryz.prog 132 #[.string s] w fun e w' => ∃ r : ByteArray, e = .returned (.string r) ∧ IsI r (-n) ∧ w = w' := by
  have h1 : (sgn n == 1) = decide (0 < n) := sgn_one_iff
  have h2 : (sgn n == -1) = decide (n < 0) := sgn_minus_iff
  have hp := h.pos
  have H := Lib.hid h
  clear h
  go_enter Tryz.func132, Tryz.ntmps132
  go_wp2_with (go_at_call 143; refine (integer_Sign s n H.out _).mono ?_; rintro e w' ⟨rfl, rfl⟩)
  · go_ret
    exact ⟨_, rfl, neg_nonneg_text H.out (by assumption), rfl⟩
  · go_ret
    exact ⟨_, rfl, neg_neg_text H.out (by assumption), rfl⟩
  · go_ret
    have h1 : n ≤ 0 := by assumption
    have h2 : 0 ≤ n := by assumption
    obtain rfl : n = 0 := by omega
    exact ⟨_, rfl, H.out, rfl⟩
theorem below_grown (w : World) (k : Nat) (os : Array Obj) : Below w.heap.size w (grow (w.drewN k) os) :=
  ⟨rfl, rfl, rfl, by simp [grow, World.drewN], fun i hi => by simp [grow, World.drewN, Array.getElem?_append, hi]⟩
theorem integer_Of (n : Int) (h0 : -9223372036854775808 ≤ n) (h1 : n ≤ 9223372036854775807) (w : World) (hw : Good w) :
    Calls Tryz.prog 110 #[.int .i64 n] w fun e w' => ∃ r : ByteArray, e = .returned (.string r) ∧ IsI r n ∧ Below w.heap.size w w' := by
  go_enter Tryz.func110, Tryz.ntmps110
  go_wp2_with (go_at_call 142; refine (Tryz.strconv_Itoa n h0 h1 _ hw.pow).mono ?_; rintro e w' ⟨rfl, k, os, rfl⟩)
  go_ret
  exact ⟨_, rfl, isI_itoa n, below_grown _ _ _⟩
end Go.Proofs.YtbogpbjddaoeiaaGreatDoor
namespace Go.Proofs.YtbogpbjddaoeiaaGreatDoor
open Go.Lib (decDigits itoa nDigits compareBytes hasPrefix trimPrefix)
open Go.RowKit
theorem sgn_range (n : Int) : -1 ≤ sgn n ∧ sgn n ≤ 1 := by rcases sgn_cases n with ⟨_, e⟩ | ⟨_, e⟩ | ⟨_, e⟩ <;> omega
theorem cmpI_range (a b : Int) : -1 ≤ cmpI a b ∧ cmpI a b ≤ 1 := by unfold cmpI; split <;> (try split) <;> omega
theorem IsI.mag_size {s : ByteArray} {n : Int} (h : IsI s (n.natAbs : Int)) : s.size = (decDigits n.natAbs).length := by rw [h.size, itoa_nat]
theorem mag_size_le {s t : ByteArray} {n : Int} (h : IsI s n) (k : IsI t (n.natAbs : Int)) : t.size ≤ s.size := by
  rw [k.mag_size, h.size, itoa_length, decDigits_len]; omega
theorem cmp_text {s t : ByteArray} {m n : Int} (hs : IsI s (m.natAbs : Int)) (ht : IsI t (n.natAbs : Int)) : compareBytes s.data.toList t.data.toList = compareBytes (decDigits m.natAbs) (decDigits n.natAbs) := by
  rw [hs, ht, itoa_nat, itoa_nat]
theorem integer_Compare (a b : ByteArray) (m n : Int) (ha : IsI a m) (hb : IsI b n) (_hs : a.size ≤ 9000000000) (_ht : b.size ≤ 9000000000) (w : World) :
    Calls Tryz.prog 128 #[.string a, .string b] w fun e w' => e = .returned (.int .i64 (cmpI m n)) ∧ w = w' := by
  obtain ⟨r1, r2⟩ := sgn_range m
  obtain ⟨r3, r4⟩ := sgn_range n
  by_cases hss : sgn m = sgn n
  · have h1 : (sgn m != sgn n) = false := by simp [hss]
    have HSS := Lib.hid hss
    clear hss
    go_enter Tryz.func128, Tryz.ntmps128
    go_wp2_with (first | (go_at_call 143; refine (integer_Sign _ _ (by assumption) _).mono ?_; rintro e w' ⟨rfl, rfl⟩) | (go_at_call 167; fail))
    refine (sh_TrimPrefix a m ha _).mono ?_
    rintro e w' ⟨s, rfl, hs, rfl⟩
    go_wp2_with fail
    refine (sh_TrimPrefix b n hb _).mono ?_
    rintro e w' ⟨t, rfl, ht, rfl⟩
    have zs := hs.mag_size
    have zt := ht.mag_size
    have hns : s.size ≤ a.size := by rw [zs, ha.size, itoa_length, decDigits_len]; omega
    have hnt : t.size ≤ b.size := by rw [zt, hb.size, itoa_length, decDigits_len]; omega
    by_cases hl : s.size = t.size
    · have h2 : ((s.size : Int) != (t.size : Int)) = false := by simp [hl]
      have h3 : (s.size != t.size) = false := by simp [hl]
      have HF := Lib.hid (cmp_len_eq HSS.out (by rw [← zs, ← zt]; exact hl))
      have HC := Lib.hid (cmp_text hs ht)
      have hb1 := cmpI_range m n
      have HP := Lib.hid (show sgn m * compareBytes s.data.toList t.data.toList = cmpI m n by rw [HC.out, HF.out])
      have hp1 : -1 ≤ sgn m * compareBytes s.data.toList t.data.toList := by rw [HP.out]; exact hb1.1
      have hp2 : sgn m * compareBytes s.data.toList t.data.toList ≤ 1 := by rw [HP.out]; exact hb1.2
      clear hl zs zt
      go_wp2_with (go_at_call 168; refine (Tryz.strings_Compare s t _).mono ?_; rintro e w' ⟨rfl, rfl⟩)
      go_ret
      exact ⟨ret_int HP.out, rfl⟩
    · have h2 : ((s.size : Int) != (t.size : Int)) = true := by simp; omega
      have h3 : (s.size != t.size) = true := by simpa using hl
      have HL := Lib.hid (fun h => cmp_len_lt HSS.out (show (decDigits m.natAbs).length < (decDigits n.natAbs).length by rw [← zs, ← zt]; exact h))
      have HG := Lib.hid (fun h => cmp_len_gt HSS.out (show (decDigits n.natAbs).length < (decDigits m.natAbs).length by rw [← zs, ← zt]; exact h))
      clear zs zt
      go_wp2
      · go_ret
        exact ⟨ret_int (HL.out (by assumption)).symm, rfl⟩
      · go_ret
        have h : ¬ s.size < t.size := by first | assumption | (intro h; omega)
        exact ⟨ret_int (HG.out (by omega)).symm, rfl⟩
  · have h1 : (sgn m != sgn n) = true := by simpa using hss
    have HL := Lib.hid (fun h => @cmp_sgn_lt m n h)
    have HG := Lib.hid (fun h => @cmp_sgn_gt m n h)
    go_enter Tryz.func128, Tryz.ntmps128
    go_wp2_with (first | (go_at_call 143; refine (integer_Sign _ _ (by assumption) _).mono ?_; rintro e w' ⟨rfl, rfl⟩))
    · go_ret
      exact ⟨ret_int (HL.out (by assumption)).symm, rfl⟩
    · go_ret
      have h : sgn n ≤ sgn m := by assumption
      exact ⟨ret_int (HG.out (by omega)).symm, rfl⟩
/-- quick: an integer of at most so many bytes is an int. -/
theorem integer_quick_short (s : ByteArray) (n : Int) (most : Int) (h : IsI s n) (hm : (s.size : Int) ≤ most) (hm2 : most ≤ 18) (w : World) :
    Calls Tryz.prog 145 #[.string s, .int .i64 most] w fun e w' => e = .returned (.tuple #[.int .i64 n, .bool true]) ∧ Below w.heap.size w w' := by
  have hn : n.natAbs < 10 ^ 18 := natAbs_lt_of_itoa_length (k := 18) (by rw [← h.size]; omega)
  go_enter Tryz.func145, Tryz.ntmps145
  go_wp2_with (go_at_call 185; refine (Tryz.strconv_Atoi_ok s (by omega) n (by rw [h]; exact atoiAll_itoa hn) _).mono ?_; rintro e w' ⟨rfl, hw'⟩)
  have hb : Below w.heap.size w w' := by
    rcases hw' with rfl | ⟨t, rfl⟩
    · exact Below.refl _ _
    · exact Lib.bytesWorld_below _ _ _
  clear hw'
  go_quiet (fail)
  go_wp2
  go_ret2
  exact ⟨rfl, below_drewN hb _⟩
theorem integer_quick_long (s : ByteArray) (most : Int) (hm : most < (s.size : Int)) (w : World) :
    Calls Tryz.prog 145 #[.string s, .int .i64 most] w fun e w' => e = .returned (.tuple #[.int .i64 0, .bool false]) ∧ w = w' := by
  go_enter Tryz.func145, Tryz.ntmps145
  go_wp2
  go_ret2
  exact ⟨rfl, rfl⟩
/-- Check: whatever the text. -/
def ChkPost (l : List UInt8) (w : World) (e : Ending) (w' : World) : Prop := e = .returned (.int .i64 (if intOk l then 0 else 2)) ∧ w = w'
theorem chk_bad {l : List UInt8} {w : World} (h : intOk l = false) : ChkPost l w (.returned (.int .i64 2)) w := ⟨by rw [h]; rfl, rfl⟩
theorem chk_ok {l : List UInt8} {w : World} (h : intOk l = true) : ChkPost l w (.returned (.int .i64 0)) w := ⟨by rw [h]; rfl, rfl⟩
/-- intOk, in the tests that Check makes. -/
theorem intOk_tests {l : List UInt8} {t : ByteArray} (ht : t.data.toList = magOf l) : intOk l = (!(decide (t.size = 0) || decide (200 < t.size) || (t.data.toList.head? == some 48 && (decide (1 < t.size) || hasPrefix l [45]))) && t.data.toList.all isDig) := by
  unfold intOk
  have e1 : hasPrefix l [45] = (l.head? == some 45) := by
    rw [Bool.eq_iff_iff, hasPrefix45]
    cases l <;> simp
  have e2 : (magOf l).length = t.size := by rw [Lib.size_eq, ht]
  have e3 : (magOf l).isEmpty = decide (t.size = 0) := by
    rw [← e2, Bool.eq_iff_iff]; simp
  simp only [ht, e1, e2, e3]
theorem head48 {t : ByteArray} (h : 0 < t.size) : (t.data.toList.head? == some 48) = ((t[0].toNat : Int) == 48) := by
  obtain ⟨r, hr⟩ := first_byte t h
  rw [hr, Bool.eq_iff_iff]
  simp only [List.head?_cons, beq_iff_eq, Option.some.injEq]
  constructor
  · intro e; rw [e]; rfl
  · intro e; apply UInt8.toNat_inj.1; show t[0].toNat = 48; omega
theorem isDig_at {t : ByteArray} {k : Nat} (h : k < t.size) : isDig t[k] = true ↔ 48 ≤ (t[k].toNat : Int) ∧ (t[k].toNat : Int) ≤ 57 := by
  unfold isDig; simp; omega
theorem all_dig_false {t : ByteArray} {k : Nat} (h : k < t.size) (hd : (t[k].toNat : Int) < 48 ∨ 57 < (t[k].toNat : Int)) : t.data.toList.all isDig = false := by
  rw [List.all_eq_false]
  refine ⟨t[k], ?_, ?_⟩
  · have : t[k] = t.data.toList[k]'(by rw [← Lib.size_eq]; exact h) := rfl
    rw [this]; exact List.getElem_mem _
  · rw [isDig_at h]; omega
def DigTo (t : ByteArray) (k : Nat) : Prop := ∀ j (h : j < t.size), j < k → isDig t[j] = true
theorem digTo_all {t : ByteArray} (h : DigTo t t.size) : t.data.toList.all isDig = true := by
  rw [List.all_eq_true]
  intro c hc
  obtain ⟨j, hj, rfl⟩ := List.mem_iff_getElem.1 hc
  have hj' : j < t.size := by rw [Lib.size_eq]; exact hj
  exact h j hj' hj'
set_option maxHeartbeats 400000 in
set_option maxRecDepth 100000 in
theorem integer_Check (s : ByteArray) (hs : s.size ≤ 9000000000) (w : World) :
    Calls Tryz.prog 127 #[.string s] w (ChkPost s.data.toList w) := by
  obtain ⟨t, hT⟩ : ∃ t : ByteArray, t = ⟨(trimPrefix s.data.toList (⟨#[45]⟩ : ByteArray).data.toList).toArray⟩ := ⟨_, rfl⟩
  have ht : t.data.toList = magOf s.data.toList := by rw [hT]; exact trimPrefix45 _
  obtain ⟨mi, hM⟩ : ∃ mi : Bool, mi = hasPrefix s.data.toList (⟨#[45]⟩ : ByteArray).data.toList := ⟨_, rfl⟩
  have hcut : ∀ w, Calls Tryz.prog 166 #[.string s, .string ⟨#[45]⟩] w fun e w' => e = .returned (.tuple #[.string t, .bool mi]) ∧ w = w' := fun w =>
    (Tryz.strings_CutPrefix s ⟨#[45]⟩ w).mono fun e w' he => ⟨by rw [he.1, hT, hM], he.2.symm⟩
  have HCUT := Lib.hid hcut
  have HOK := Lib.hid (intOk_tests ht)
  have hsz : t.size ≤ 9000000000 := by
    have h1 : (magOf s.data.toList).length ≤ s.data.toList.length := by
      unfold magOf; split
      · rename_i h; rw [h]; simp
      · exact Nat.le_refl _
    rw [← Lib.size_eq, ← ht, ← Lib.size_eq] at h1; omega
  have hM' : hasPrefix s.data.toList [45] = mi := hM.symm
  clear hcut ht hT hM
  by_cases h0 : t.size = 0
  · have he : t.toList.isEmpty = true := by rw [Lib.toList_data, List.isEmpty_iff_length_eq_zero, ← Lib.size_eq]; exact h0
    have HB := Lib.hid (show intOk s.data.toList = false by rw [HOK.out]; simp [h0])
    go_enter Tryz.func127, Tryz.ntmps127
    go_wp2_with (go_at_call 166; refine (HCUT.out _).mono ?_; rintro e w' ⟨rfl, rfl⟩)
    go_ret
    exact chk_bad HB.out
  have h0' : 0 < t.size := by omega
  have he : t.toList.isEmpty = false := by
    rw [Lib.toList_data, List.isEmpty_eq_false_iff]
    intro hh
    rw [Lib.size_eq, hh] at h0; exact h0 rfl
  by_cases h2 : 200 < t.size
  · have hd : decide (200 < t.size) = true := by simpa using h2
    have hd2 : decide (200 < (t.size : Int)) = true := by simp; omega
    have HB := Lib.hid (show intOk s.data.toList = false by rw [HOK.out]; simp [h2])
    go_enter Tryz.func127, Tryz.ntmps127
    go_wp2_with (go_at_call 166; refine (HCUT.out _).mono ?_; rintro e w' ⟨rfl, rfl⟩)
    go_ret
    exact chk_bad HB.out
  have hd : decide (200 < t.size) = false := by simpa using h2
  have hd2 : decide (200 < (t.size : Int)) = false := by simp; omega
  have HH := Lib.hid (head48 h0')
  by_cases h3 : ((t[0].toNat : Int) == 48) = true ∧ (1 < t.size ∨ mi = true)
  · have HB := Lib.hid (show intOk s.data.toList = false by
      rw [HOK.out, HH.out, hM', h3.1]
      rcases h3.2 with h | h
      · simp [h]
      · simp [h])
    obtain ⟨h4, h5⟩ := h3
    rcases h5 with h5 | rfl
    · have hd3 : decide (1 < t.size) = true := by simpa using h5
      have hd4 : decide (1 < (t.size : Int)) = true := by simp; omega
      go_enter Tryz.func127, Tryz.ntmps127
      go_wp2_with (go_at_call 166; refine (HCUT.out _).mono ?_; rintro e w' ⟨rfl, rfl⟩)
      go_ret
      exact chk_bad HB.out
    · by_cases h5 : 1 < t.size
      · have hd3 : decide (1 < t.size) = true := by simpa using h5
        have hd4 : decide (1 < (t.size : Int)) = true := by simp; omega
        go_enter Tryz.func127, Tryz.ntmps127
        go_wp2_with (go_at_call 166; refine (HCUT.out _).mono ?_; rintro e w' ⟨rfl, rfl⟩)
        go_ret
        exact chk_bad HB.out
      · have hd3 : decide (1 < t.size) = false := by simpa using h5
        have hd4 : decide (1 < (t.size : Int)) = false := by simp; omega
        go_enter Tryz.func127, Tryz.ntmps127
        go_wp2_with (go_at_call 166; refine (HCUT.out _).mono ?_; rintro e w' ⟨rfl, rfl⟩)
        go_ret
        exact chk_bad HB.out
  · have HF := Lib.hid (show intOk s.data.toList = t.data.toList.all isDig by
      rw [HOK.out, HH.out, hM']
      have e0 : decide (t.size = 0) = false := by simpa using h0
      rw [e0, hd]
      have : (((t[0].toNat : Int) == 48) && (decide (1 < t.size) || mi)) = false := by
        rw [Bool.eq_false_iff]
        intro hh
        simp only [Bool.and_eq_true, Bool.or_eq_true, decide_eq_true_iff] at hh
        exact h3 hh
      rw [this]; simp)
    by_cases h4 : ((t[0].toNat : Int) == 48) = true
    · have h5 : ¬ 1 < t.size := fun h => h3 ⟨h4, .inl h⟩
      have h6 : mi = false := by
        cases mi
        · rfl
        · exact (h3 ⟨h4, .inr rfl⟩).elim
      subst h6
      have hd3 : decide (1 < t.size) = false := by simpa using h5
      have hd4 : decide (1 < (t.size : Int)) = false := by simp; omega
      go_enter Tryz.func127, Tryz.ntmps127
      go_wp2_with (go_at_call 166; refine (HCUT.out _).mono ?_; rintro e w' ⟨rfl, rfl⟩)
      go_loop [33] (fun iv => ∃ k : Nat, k ≤ t.size ∧ iv = .int .i64 k ∧ DigTo t k) (fun iv => t.size - (intOf iv).toNat)
      case atStart => exact ⟨0, Nat.zero_le _, rfl, fun j _ h => by omega⟩
      case round =>
        obtain ⟨k, hk, rfl, hdig⟩ := hrel
        have HD := Lib.hid hdig
        clear hdig
        by_cases hlt : k < t.size
        · by_cases hc : (t[k].toNat : Int) < 48
          · have hc1 : decide ((t[k].toNat : Int) < 48) = true := by simpa using hc
            have HB := Lib.hid (show intOk s.data.toList = false by rw [HF.out]; exact all_dig_false hlt (.inl hc))
            go_wp2
            go_ret
            exact chk_bad HB.out
          · have hc1 : decide ((t[k].toNat : Int) < 48) = false := by simpa using hc
            by_cases hc2 : 57 < (t[k].toNat : Int)
            · have hc3 : decide (57 < (t[k].toNat : Int)) = true := by simpa using hc2
              have HB := Lib.hid (show intOk s.data.toList = false by rw [HF.out]; exact all_dig_false hlt (.inr hc2))
              go_wp2
              go_ret
              exact chk_bad HB.out
            · have hc3 : decide (57 < (t[k].toNat : Int)) = false := by simpa using hc2
              have HI := Lib.hid ((isDig_at hlt).2 ⟨by omega, by omega⟩)
              clear hc hc2
              go_wp2
              go_round
              case rel => exact ⟨k + 1, by omega, by go_num, fun j hj hjk => by
                by_cases e : j = k
                · subst e; exact HI.out
                · exact HD.out j hj (by omega)⟩
              case measure => simp [intOf]; omega
        · obtain rfl : k = t.size := by omega
          have HB := Lib.hid (show intOk s.data.toList = true by rw [HF.out]; exact digTo_all HD.out)
          go_wp2
          go_ret
          exact chk_ok HB.out
    · have h5 : ((t[0].toNat : Int) == 48) = false := by simpa using h4
      clear h4
      go_enter Tryz.func127, Tryz.ntmps127
      go_wp2_with (go_at_call 166; refine (HCUT.out _).mono ?_; rintro e w' ⟨rfl, rfl⟩)
      go_loop [33] (fun iv => ∃ k : Nat, k ≤ t.size ∧ iv = .int .i64 k ∧ DigTo t k) (fun iv => t.size - (intOf iv).toNat)
      case atStart => exact ⟨0, Nat.zero_le _, rfl, fun j _ h => by omega⟩
      case round =>
        obtain ⟨k, hk, rfl, hdig⟩ := hrel
        have HD := Lib.hid hdig
        clear hdig
        by_cases hlt : k < t.size
        · by_cases hc : (t[k].toNat : Int) < 48
          · have hc1 : decide ((t[k].toNat : Int) < 48) = true := by simpa using hc
            have HB := Lib.hid (show intOk s.data.toList = false by rw [HF.out]; exact all_dig_false hlt (.inl hc))
            go_wp2
            go_ret
            exact chk_bad HB.out
          · have hc1 : decide ((t[k].toNat : Int) < 48) = false := by simpa using hc
            by_cases hc2 : 57 < (t[k].toNat : Int)
            · have hc3 : decide (57 < (t[k].toNat : Int)) = true := by simpa using hc2
              have HB := Lib.hid (show intOk s.data.toList = false by rw [HF.out]; exact all_dig_false hlt (.inr hc2))
              go_wp2
              go_ret
              exact chk_bad HB.out
            · have hc3 : decide (57 < (t[k].toNat : Int)) = false := by simpa using hc2
              have HI := Lib.hid ((isDig_at hlt).2 ⟨by omega, by omega⟩)
              clear hc hc2
              go_wp2
              go_round
              case rel => exact ⟨k + 1, by omega, by go_num, fun j hj hjk => by
                by_cases e : j = k
                · subst e; exact HI.out
                · exact HD.out j hj (by omega)⟩
              case measure => simp [intOf]; omega
        · obtain rfl : k = t.size := by omega
          have HB := Lib.hid (show intOk s.data.toList = true by rw [HF.out]; exact digTo_all HD.out)
          go_wp2
          go_ret
          exact chk_ok HB.out
end Go.Proofs.YtbogpbjddaoeiaaGreatDoor
