import Derived.Test.YtbogpbjddaoeiaaGreatDoorDiv4Z
import Derived.Test.YtbogpbjddaoeiaaGreatDoorMathZ
import Derived.Deep.LoopGhost
namespace Go.Proofs.YtbogpbjddaoeiaaGreatDoor
open Go.RowKit
theorem integer_divide (va vb : Value) (m n : Nat) (w : World) (hn0 : n ≠ 0) (hlen : (pcs m).length ≤ 549755813888) (ha : U64s w va (pcs m)) (hb : U64s w vb (pcs n)) :
    Calls Tryz.prog 169 #[va, vb] w (DivPost m n w) := by
  rcases Nat.lt_or_ge m n with h | h
  · exact integer_divide_lt va vb m n w h ha hb
  · rcases Nat.lt_or_ge n 1000000000 with h1 | h1
    · exact integer_divide_one va vb m n w hn0 h1 (by omega) ha hb
    · have hl : 2 ≤ (pcs n).length := by
        rcases Nat.lt_or_ge (pcs n).length 2 with h2 | h2
        · have h3 := lt_of_pcs_len n
          have h4 : 1000000000 ^ (pcs n).length ≤ 1000000000 ^ 1 := Nat.pow_le_pow_right (by decide) (by omega)
          omega
        · exact h2
      exact integer_divide_long va vb m n ((pcs n).length - 2) w (by omega) h hlen ha hb
theorem number_field (neg : Bool) (p : Option Addr) (n c : Nat) (w : World) : (Instr.field 192 (.agg #[.bool neg, .slice p n c]) 1).run Tryz.prog w = .ok (.slice p n c) w := by kernel_rfl
theorem gcd_max (x : Int) : max x (-x) = (x.natAbs : Int) := by omega
set_option maxHeartbeats 1000000 in
set_option maxRecDepth 100000 in
theorem integer_Gcd (a b : ByteArray) (m n : Int) (ha : IsI a m) (hb : IsI b n) (hsa : a.size ≤ 9000000000) (hsb : b.size ≤ 9000000000) (w : World) (hw : Good w) :
    Calls Tryz.prog 129 #[.string a, .string b] w fun e w' => ∃ r : ByteArray, e = .returned (.string r) ∧ IsI r ((Int.gcd m n : Nat) : Int) ∧ Below w.heap.size w w' := by
  have hfld := number_field
  have HA := Lib.hid ha
  have HB := Lib.hid hb
  have hlm := Nat.le_trans (pcs_len_size ha) hsa
  have hln := Nat.le_trans (pcs_len_size hb) hsb
  clear ha hb
  by_cases hq : a.size ≤ 18 ∧ b.size ≤ 18
  · obtain ⟨q1, q2⟩ := hq
    have hx := natAbs_lt_of_itoa_length (k := 18) (n := m) (by rw [← HA.out.size]; exact q1)
    have hy := natAbs_lt_of_itoa_length (k := 18) (n := n) (by rw [← HB.out.size]; exact q2)
    have hx' : m.natAbs < 1000000000000000000 := by simpa using hx
    have hy' : n.natAbs < 1000000000000000000 := by simpa using hy
    clear hx hy
    go_enter Tryz.func129, Tryz.ntmps129
    go_wp2_with fail
    refine (integer_quick_short a m 18 HA.out (by omega) (by omega) _).mono ?_
    rintro e w1 ⟨rfl, hb1⟩
    go_wp2_with fail
    refine (integer_quick_short b n 18 HB.out (by omega) (by omega) _).mono ?_
    rintro e w2 ⟨rfl, hb2⟩
    have hb12 := hb1.trans (hb2.mono hb1.size)
    go_wp2
    go_loopw [5, 7] (fun xv yv wr => ∃ x y : Int, xv = .int .i64 x ∧ yv = .int .i64 y ∧ Nat.gcd x.natAbs y.natAbs = Int.gcd m n ∧ x.natAbs < 1000000000000000000 ∧ y.natAbs < 1000000000000000000 ∧ Below w.heap.size w wr) (fun _ yv _ => (intOf yv).natAbs)
    case atStart => exact ⟨m, n, rfl, rfl, (Int.gcd_eq_natAbs_gcd_natAbs m n).symm, hx', hy', hb12⟩
    case round =>
      obtain ⟨x, y, rfl, rfl, hg, hxl, hyl, hbr⟩ := hrel
      have HG := Lib.hid hg
      clear hg
      by_cases hy0 : y = 0
      · subst hy0
        have hz : ((0 : Int) != 0) = false := rfl
        have hx1 : -999999999999999999 ≤ x := by omega
        have hx2 : x ≤ 999999999999999999 := by omega
        go_wp2_with fail
        rw [gcd_max]
        refine (integer_Of (x.natAbs : Int) (by omega) (by omega) _ ((hw.below hbr))).mono ?_
        rintro e w3 ⟨r, rfl, hr, hb3⟩
        go_wp2
        go_ret
        refine ⟨_, rfl, ?_, hbr.trans (hb3.mono hbr.size)⟩
        rw [← HG.out]
        simpa using hr
      · have hz : (y != 0) = true := by simpa using hy0
        have hz2 : (y == 0) = false := by simpa using hy0
        have hs := gcd_step x y
        have ht := tmod_lt (a := x) hy0
        have HS := Lib.hid hs
        have HT := Lib.hid ht
        clear hs ht
        go_wp2_with fail
        go_quiet (fail)
        go_wp2
        exact ⟨⟨y, x.tmod y, rfl, rfl, by rw [HS.out]; exact HG.out, hyl, by have := HT.out; omega, ⟨hbr.os, hbr.tape, hbr.output, hbr.size, hbr.block⟩⟩, by simpa [intOf] using HT.out⟩
  · have HL := Lib.hid hq
    clear hq
    by_cases h1 : a.size ≤ 18
    · have h2 : (18 : Int) < (b.size : Int) := by have := HL.out; omega
      clear HL
      go_enter Tryz.func129, Tryz.ntmps129
      go_wp2_with fail
      refine (integer_quick_short a m 18 HA.out (by omega) (by omega) _).mono ?_
      rintro e w1 ⟨rfl, hb1⟩
      go_wp2_with fail
      refine (integer_quick_long b 18 h2 _).mono ?_
      rintro e w1' ⟨rfl, rfl⟩
      go_wp2_with fail
      refine (integer_open a m HA.out hsa _).mono ?_
      rintro e w2 ⟨p, rfl, hp2, hb2⟩
      obtain ⟨p, cp, rfl, _, _⟩ := hp2.slice
      go_wp2_with fail
      refine (integer_open b n HB.out hsb _).mono ?_
      rintro e w3 ⟨q, rfl, hq3, hb3⟩
      have hp3 := hp2.below hb3
      obtain ⟨q, cq, rfl, _, _⟩ := hq3.slice
      have hb13 := (hb1.trans (hb2.mono hb1.size)).trans (hb3.mono (Nat.le_trans hb1.size hb2.size))
      go_wp2_with fail
      go_loopg [9, 10] n.natAbs (fun k xv yv wr => ∃ X : Nat, U64s wr xv (pcs X) ∧ U64s wr yv (pcs k) ∧ Nat.gcd X k = Int.gcd m n ∧ (pcs X).length ≤ 9000000000 ∧ (pcs k).length ≤ 9000000000 ∧ Below w.heap.size w wr)
      case atStart => exact ⟨m.natAbs, hp3, hq3, (Int.gcd_eq_natAbs_gcd_natAbs m n).symm, hlm, hln, hb13⟩
      case round =>
        obtain ⟨X, hX, hY, hg, hXl, hYl, hbr⟩ := hrel
        have HG := Lib.hid hg
        have HX := Lib.hid hX
        have HY := Lib.hid hY
        clear hg
        obtain ⟨px, cx, rfl, _, _⟩ := hX.slice
        obtain ⟨py, cy, rfl, _, _⟩ := hY.slice
        clear hX hY
        by_cases hk0 : gk = 0
        · have hl0 : (pcs gk).length = 0 := by rw [hk0, pcs_zero]; rfl
          have hd0 : decide (0 < (pcs gk).length) = false := by rw [hl0]; rfl
          have HK0 := Lib.hid hk0
          clear hk0 hl0
          go_wp2_with fail
          refine (integer_close false _ X (by omega) _ (hw.below hbr) HX.out).mono ?_
          rintro e w4 ⟨r, rfl, hr, hb4⟩
          go_wp2
          go_ret
          refine ⟨_, rfl, ?_, hbr.trans (hb4.mono hbr.size)⟩
          have h1 := HG.out
          rw [HK0.out, Nat.gcd_zero_right] at h1
          rw [← h1]
          simpa [signedOf] using hr
        · have hlp := pcs_length_pos hk0
          have hd0 : decide (0 < (pcs gk).length) = true := by simpa using hlp
          go_wp2_with fail
          refine (integer_divide _ _ X gk _ hk0 (by omega) HX.out HY.out).mono ?_
          rintro e w4 ⟨q4, r4, rfl, hq4, hr4, hb4, -⟩
          obtain ⟨pq4, cq4, rfl, _, _⟩ := hq4.slice
          obtain ⟨pr4, cr4, rfl, _, _⟩ := hr4.slice
          have hml := Nat.mod_lt X (Nat.pos_of_ne_zero hk0)
          have HQ4 := Lib.hid hq4
          have HR4 := Lib.hid hr4
          have hml2 := pcs_len_mono (Nat.le_of_lt hml)
          have HML := Lib.hid hml
          clear hq4 hr4 hml
          go_wp2
          go_roundg (X % gk)
          case rel =>
            exact ⟨gk, HY.out.below hb4, HR4.out, by rw [Nat.gcd_comm, ← Nat.gcd_rec, Nat.gcd_comm]; exact HG.out, hYl, by omega, hbr.trans (hb4.mono hbr.size)⟩
          case measure => exact HML.out
    · have h2 : (18 : Int) < (a.size : Int) := by omega
      clear HL
      go_enter Tryz.func129, Tryz.ntmps129
      go_wp2_with fail
      refine (integer_quick_long a 18 h2 _).mono ?_
      rintro e w1 ⟨rfl, rfl⟩
      have hb1 := Below.refl w.heap.size w
      go_wp2_with fail
      refine (integer_open a m HA.out hsa _).mono ?_
      rintro e w2 ⟨p, rfl, hp2, hb2⟩
      obtain ⟨p, cp, rfl, _, _⟩ := hp2.slice
      go_wp2_with fail
      refine (integer_open b n HB.out hsb _).mono ?_
      rintro e w3 ⟨q, rfl, hq3, hb3⟩
      have hp3 := hp2.below hb3
      obtain ⟨q, cq, rfl, _, _⟩ := hq3.slice
      have hb13 := (hb1.trans (hb2.mono hb1.size)).trans (hb3.mono (Nat.le_trans hb1.size hb2.size))
      go_wp2_with fail
      go_loopg [9, 10] n.natAbs (fun k xv yv wr => ∃ X : Nat, U64s wr xv (pcs X) ∧ U64s wr yv (pcs k) ∧ Nat.gcd X k = Int.gcd m n ∧ (pcs X).length ≤ 9000000000 ∧ (pcs k).length ≤ 9000000000 ∧ Below w.heap.size w wr)
      case atStart => exact ⟨m.natAbs, hp3, hq3, (Int.gcd_eq_natAbs_gcd_natAbs m n).symm, hlm, hln, hb13⟩
      case round =>
        obtain ⟨X, hX, hY, hg, hXl, hYl, hbr⟩ := hrel
        have HG := Lib.hid hg
        have HX := Lib.hid hX
        have HY := Lib.hid hY
        clear hg
        obtain ⟨px, cx, rfl, _, _⟩ := hX.slice
        obtain ⟨py, cy, rfl, _, _⟩ := hY.slice
        clear hX hY
        by_cases hk0 : gk = 0
        · have hl0 : (pcs gk).length = 0 := by rw [hk0, pcs_zero]; rfl
          have hd0 : decide (0 < (pcs gk).length) = false := by rw [hl0]; rfl
          have HK0 := Lib.hid hk0
          clear hk0 hl0
          go_wp2_with fail
          refine (integer_close false _ X (by omega) _ (hw.below hbr) HX.out).mono ?_
          rintro e w4 ⟨r, rfl, hr, hb4⟩
          go_wp2
          go_ret
          refine ⟨_, rfl, ?_, hbr.trans (hb4.mono hbr.size)⟩
          have h1 := HG.out
          rw [HK0.out, Nat.gcd_zero_right] at h1
          rw [← h1]
          simpa [signedOf] using hr
        · have hlp := pcs_length_pos hk0
          have hd0 : decide (0 < (pcs gk).length) = true := by simpa using hlp
          go_wp2_with fail
          refine (integer_divide _ _ X gk _ hk0 (by omega) HX.out HY.out).mono ?_
          rintro e w4 ⟨q4, r4, rfl, hq4, hr4, hb4, -⟩
          obtain ⟨pq4, cq4, rfl, _, _⟩ := hq4.slice
          obtain ⟨pr4, cr4, rfl, _, _⟩ := hr4.slice
          have hml := Nat.mod_lt X (Nat.pos_of_ne_zero hk0)
          have HQ4 := Lib.hid hq4
          have HR4 := Lib.hid hr4
          have hml2 := pcs_len_mono (Nat.le_of_lt hml)
          have HML := Lib.hid hml
          clear hq4 hr4 hml
          go_wp2
          go_roundg (X % gk)
          case rel =>
            exact ⟨gk, HY.out.below hb4, HR4.out, by rw [Nat.gcd_comm, ← Nat.gcd_rec, Nat.gcd_comm]; exact HG.out, hYl, by omega, hbr.trans (hb4.mono hbr.size)⟩
          case measure => exact HML.out
end Go.Proofs.YtbogpbjddaoeiaaGreatDoor
