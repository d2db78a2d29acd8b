import Derived.Test.YtbogpbjddaoeiaaGreatDoorU64Z
import Derived.Test.YtbogpbjddaoeiaaGreatDoorInt1Z
import Derived.Deep.RegionLaw
namespace Go.Proofs.YtbogpbjddaoeiaaGreatDoor
open Go.Lib (decDigits itoa nDigits compareBytes hasPrefix trimPrefix parseUintB)
open Go.RowKit
/-- after some rounds: the first j digits are still to come -/
structure OpenInv (l : List UInt8) (N j : Nat) (os : List Nat) : Prop where
  le : j ≤ l.length
  small : ∀ x ∈ os, x < 1000000000
  eq : natOf (l.take j) * 1000000000 ^ os.length + val os = N
  room : 9 * os.length ≤ l.length - j ∨ j = 0
  len : os.length ≤ l.length / 9 + 1
theorem natOf_nine {l : List UInt8} (h : ∀ c ∈ l, isDig c = true) (hl : l.length ≤ 9) : natOf l < 1000000000 := by
  have := natOf_lt h
  have h2 : 10 ^ l.length ≤ 10 ^ 9 := Nat.pow_le_pow_right (by decide) hl
  omega
theorem OpenInv.step {l : List UInt8} {N j : Nat} {os : List Nat} (hd : ∀ c ∈ l, isDig c = true) (h : OpenInv l N j os) (hj : 0 < j) : OpenInv l N (j - 9) (os ++ [natOf ((l.take j).drop (j - 9))]) := by
  obtain ⟨h1, h2, h3, h4, h5⟩ := h
  have hlen : ((l.take j).drop (j - 9)).length = min 9 j := by simp; omega
  have hdd : ∀ c ∈ (l.take j).drop (j - 9), isDig c = true := fun c hc => hd c (List.mem_of_mem_take (List.mem_of_mem_drop hc))
  have hsm := natOf_nine hdd (by omega)
  have hsp : natOf (l.take j) = natOf (l.take (j - 9)) * 10 ^ (min 9 j) + natOf ((l.take j).drop (j - 9)) := by
    have e : l.take j = l.take (j - 9) ++ (l.take j).drop (j - 9) := by
      have := (List.take_append_drop (j - 9) (l.take j)).symm
      rwa [List.take_take, Nat.min_eq_left (by omega)] at this
    conv => lhs; rw [e]
    rw [natOf_append, hlen]
  generalize natOf ((l.take j).drop (j - 9)) = p at *
  refine ⟨by omega, ?_, ?_, ?_, ?_⟩
  · intro x hx
    rcases List.mem_append.1 hx with hx | hx
    · exact h2 x hx
    · simp at hx; omega
  · rw [val_snoc, List.length_append, List.length_singleton, Nat.pow_succ, ← h3, hsp, Nat.add_mul]
    by_cases h9 : 9 ≤ j
    · rw [Nat.min_eq_left h9, show (10 : Nat) ^ 9 = 1000000000 from rfl, Nat.mul_comm (1000000000 ^ os.length) 1000000000, ← Nat.mul_assoc, Nat.mul_comm p]
      omega
    · have e0 : j - 9 = 0 := by omega
      rw [e0]
      simp
      rw [Nat.mul_comm p]; omega
  · simp; omega
  · simp; omega
theorem OpenInv.start {l : List UInt8} : OpenInv l (natOf l) l.length [] := ⟨Nat.le_refl _, by simp, by simp, by simp, by simp⟩
theorem OpenInv.fin {l : List UInt8} {N : Nat} {os : List Nat} (h : OpenInv l N 0 os) : val os = N := by
  have := h.eq; simpa using this
def strLen : Value → Nat | .string x => x.size | _ => 0
set_option maxHeartbeats 400000 in
set_option maxRecDepth 100000 in
theorem integer_open (s : ByteArray) (n : Int) (h : IsI s n) (hs : s.size ≤ 9000000000) (w : World) :
    Calls Tryz.prog 146 #[.string s] w fun e w' => ∃ p, e = .returned (.agg #[.bool (decide (n < 0)), p]) ∧ U64s w' p (pcs n.natAbs) ∧ Below w.heap.size w w' := by
  obtain ⟨i0, hi, hz0, hz1, hz2⟩ := info_parts sl64.info
  go_enter Tryz.func146, Tryz.ntmps146
  go_wp2_with fail
  refine (sh_CutPrefix s n h _).mono ?_
  rintro e w' ⟨t, rfl, ht, rfl⟩
  have hz : t.size ≤ 9000000000 := Nat.le_trans (mag_size_le h ht) hs
  have HT := Lib.hid ht
  have hdd : t.data.toList = decDigits n.natAbs := by rw [ht, itoa_nat]
  have HD := Lib.hid hdd
  have HDIG := Lib.hid (show ∀ c ∈ t.data.toList, isDig c = true by rw [hdd]; exact decDigits_dig _)
  have HN := Lib.hid (show natOf t.data.toList = n.natAbs by rw [hdd]; exact natOf_decDigits _)
  have HSZ := Lib.hid (Lib.size_eq t)
  clear ht hdd h
  obtain ⟨w1, hmk, hown, hgr⟩ := run_make_own (P := Tryz.prog) (w.alloc (Obj.cells #[Value.bool false, Value.slice none 0 0] 192)) (w.heap.size + 1) 190 231 i0 (.int .u64 0) 1 Tryz.underlying190 hi hz0 hz1 .i64 .i64 (t.size / 9 + 1) (by rw [hz2]; omega) (by unfold maxLen; omega) (by simp)
  rw [show ((t.size / 9 + 1 : Nat) : Int) = (t.size : Int) / 9 + 1 from by omega] at hmk
  have hbx : Below (w.heap.size + 1) (w.alloc (Obj.cells #[Value.bool false, Value.slice none 0 0] 192)) w1 := (Below.refl _ _).grown hgr (by simp) (fun k h => by simp at h)
  clear hgr
  have Hown := Lib.hid hown
  clear hown
  go_wp2
  go_loopw [3, 5] (fun sv pv wr => ∃ (j : Nat) (x : ByteArray) (os : List Nat), sv = .string x ∧ x.data.toList = t.data.toList.take j ∧ OpenInv t.data.toList n.natAbs j os ∧ wr.ownsRow (w.heap.size + 1) 231 1 pv os.length (os.map pc64) ∧ Below (w.heap.size + 1) (w.alloc (Obj.cells #[Value.bool false, Value.slice none 0 0] 192)) wr) (fun sv _ _ => strLen sv)
  case atStart => exact ⟨t.data.toList.length, t, [], rfl, by rw [List.take_length], by rw [← HN.out]; exact OpenInv.start, by have := Hown.out; rw [World.size_alloc] at this; exact this, hbx⟩
  case round =>
    obtain ⟨j, x, os, rfl, hx, hinv, hown, hbw⟩ := hrel
    have hxs : x.size = j := by rw [Lib.size_eq, hx, List.length_take]; exact Nat.min_eq_left hinv.le
    have hjl : j ≤ t.size := by rw [HSZ.out]; exact hinv.le
    have HI := Lib.hid hinv
    have HO := Lib.hid hown
    have HX := Lib.hid hx
    have hz8 : os.length ≤ 1000000001 := by have := hinv.len; rw [← HSZ.out] at this; omega
    clear hinv hown hx
    by_cases hj : 0 < j
    · obtain ⟨k, hk⟩ : ∃ k : Nat, k = j - 9 := ⟨_, rfl⟩
      have hmx : max ((x.size : Int) - 9) 0 = (k : Int) := by omega
      have hkx : k ≤ x.size := by omega
      have hx0 : 0 < x.size := by omega
      have hxl : x.size ≤ 9000000000 := by omega
      have HP := Lib.hid (show (x.extract k x.size).data.toList = (t.data.toList.take j).drop (j - 9) by
        rw [Lib.extract_data, HX.out, hxs, ← hk, List.take_of_length_le]
        simp; omega)
      have HPU := Lib.hid (show parseUintB 64 (x.extract k x.size).data.toList = .ok (natOf ((t.data.toList.take j).drop (j - 9))) by
        rw [HP.out]
        refine parseUintB_digits ?_ (fun c hc => HDIG.out c (List.mem_of_mem_take (List.mem_of_mem_drop hc))) ?_
        · rw [← List.length_pos_iff, List.length_drop, List.length_take, Nat.min_eq_left HI.out.le]; omega
        · rw [List.length_drop, List.length_take, Nat.min_eq_left HI.out.le]; omega)
      have HSS := Lib.hid (show (x.extract k x.size).size ≤ 9223372036854775806 by rw [Lib.size_eq, HP.out, List.length_drop, List.length_take, Nat.min_eq_left HI.out.le]; omega)
      have HK := Lib.hid hk
      have HXS := Lib.hid hxs
      clear hxs hk
      have HSTEP := Lib.hid (HI.out.step HDIG.out hj)
      go_wp2_with fail
      refine (Tryz.strconv_ParseUint_10_at64_ok _ HSS.out _ HPU.out _).mono ?_
      rintro e w2 ⟨rfl, hw2⟩
      have hb2 : Below wr.heap.size wr w2 := by
        rcases hw2 with rfl | rfl
        · exact Below.refl _ _
        · exact Lib.bytesWorld_below _ _ _
      clear hw2
      have hsz : w.heap.size + 1 ≤ wr.heap.size := by have := hbw.size; rwa [World.size_alloc] at this
      have hsz2 : w.heap.size + 1 ≤ w2.heap.size := Nat.le_trans hsz hb2.size
      have HO2 := Lib.hid (owns_below HO.out hb2)
      have hbw2 := hbw.trans (hb2.mono hsz)
      generalize natOf ((t.data.toList.take j).drop (j - 9)) = y at HSTEP ⊢
      have h08 : 0 < 8 := by decide
      have hk8 : (os.length + 1) * 8 ≤ 140737488355328 := by omega
      clear hb2 hmx
      go_wp2_with fail
      go_region_law (refine step_app_drew sl64 rfl _ _ rfl (w.heap.size + 1) _ os.length _ rfl HO2.out 1 1 _ rfl rfl oneCell_int hk8 h08 hsz2 _ (snoc_u64 rfl) ?_; intro v1 w3 hown3 hb3)
      have HO3 := Lib.hid hown3
      clear hown3
      have HE := Lib.hid (show (x.extract 0 k).data.toList = t.data.toList.take (j - 9) by
        rw [Lib.extract_data, List.drop_zero, Nat.sub_zero, HX.out, List.take_take, HK.out, Nat.min_eq_left (by omega)])
      go_simp
      go_wp2
      go_roundw
      case rel => exact ⟨j - 9, _, os ++ [y], rfl, HE.out, HSTEP.out, by simpa using HO3.out, hbw2.trans hb3⟩
      case measure =>
        have : (x.extract 0 k).size = j - 9 := by rw [Lib.size_eq, HE.out, List.length_take]; have := HI.out.le; omega
        simp [strLen, HXS.out, this]
        omega
    · obtain rfl : j = 0 := by omega
      have hx0 : x.size = 0 := hxs
      have hF := HI.out.fin
      have HF := Lib.hid hF
      have HSM := Lib.hid HI.out.small
      clear hF hxs hjl
      go_wp2_with fail
      refine (integer_trim _ _ (by omega) HSM.out _ (U64s.of_owns HO.out rfl)).mono ?_
      rintro e w3 ⟨v', rfl, hv', rfl, hfr, -⟩
      have HFR := Lib.hid (hfr (w.heap.size + 1) (From.of_owns HO.out))
      clear hfr
      have hc0 : wr.cell? ⟨w.heap.size, 0, none⟩ = some (.bool false) := by rw [hbw.cell (by simp)]; simp [World.cell?_alloc_new]
      have hc1 : wr.cell? ⟨w.heap.size, 1, none⟩ = some (.slice none 0 0) := by rw [hbw.cell (by simp)]; simp [World.cell?_alloc_new]
      have hf0 : wr.frozen? ⟨w.heap.size, 0, none⟩ = false := by rw [hbw.frozen (by simp)]; simp
      have hf1 : wr.frozen? ⟨w.heap.size, 1, none⟩ = false := by rw [hbw.frozen (by simp)]; simp
      obtain ⟨p, c, rfl, _, _⟩ := hv'.slice
      have HV := Lib.hid hv'
      clear hv'
      go_wp2
      refine bodyPost_ret (v := .agg #[.bool (decide (n < 0)), .slice p (pcs (val os)).length c]) (by simp [results, Tryz.results146, go_sem, hc0, hc1]) rfl ⟨_, rfl, ?_, ?_⟩
      · rw [← HF.out]
        exact (HV.out.setCell HFR.out (by simp) _).setCell HFR.out (by simp) _
      · refine Below.setCell (p := ⟨w.heap.size, 1, none⟩) (Below.setCell (p := ⟨w.heap.size, 0, none⟩) ?_ (Nat.le_refl _) _) (Nat.le_refl _) _
        exact ((Below.refl _ _).alloc (Nat.le_refl _) _).trans (hbw.mono (by omega))
end Go.Proofs.YtbogpbjddaoeiaaGreatDoor
