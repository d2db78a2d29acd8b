import Derived.Test.YtbogpbjddaoeiaaGreatDoorIntgZ
import Derived.Test.YtbogpbjddaoeiaaGreatDoorJoinZ
namespace Go.Proofs.YtbogpbjddaoeiaaGreatDoor
open Go.RowKit
open Go.Lib (decDigits itoa nDigits)
theorem law_less (a b : ByteArray) (p q : Rat) (ha : IsR a p) (hb : IsR b q) (hsa : a.size ≤ 1000000000) (hsb : b.size ≤ 1000000000) (w : World) (hw : Good w) :
    Calls Tryz.prog 19 #[.string a, .string b] w fun e w' => e = .returned (.bool (decide (p < q))) ∧ Below w.heap.size w w' := by
  have HA := Lib.hid ha
  have HB := Lib.hid hb
  clear ha hb
  have HC := Lib.hid (cmpR_lt_iff p q)
  go_enter Tryz.func19, Tryz.ntmps19
  go_wp2_with fail
  refine (rational_Compare a b p q HA.out HB.out hsa hsb _ hw).mono ?_
  rintro e w1 ⟨rfl, hb1⟩
  generalize cmpR p q = cm at HC ⊢
  go_wp2
  go_ret
  exact ⟨ret_bool HC.out, hb1⟩
theorem law_wrong (s : ByteArray) (hs : s.size ≤ 4000000000) (w : World) (hw : Good w) :
    Calls Tryz.prog 18 #[.string s] w fun e w' => e = .returned (.bool (!ratB s.data.toList)) ∧ Below w.heap.size w w' := by
  cases hr : ratB s.data.toList
  · have HR := Lib.hid hr
    clear hr
    go_enter Tryz.func18, Tryz.ntmps18
    go_wp2_with fail
    refine (rational_Check s hs _ hw).mono ?_
    rintro e w1 ⟨rfl, hb1⟩
    rw [HR.out]
    go_wp2
    go_ret
    exact ⟨rfl, hb1⟩
  · have HR := Lib.hid hr
    clear hr
    go_enter Tryz.func18, Tryz.ntmps18
    go_wp2_with fail
    refine (rational_Check s hs _ hw).mono ?_
    rintro e w1 ⟨rfl, hb1⟩
    rw [HR.out]
    go_wp2
    go_ret
    exact ⟨rfl, hb1⟩
def OrdT (w : World) (pa : Addr) (a : Value) (pb : Addr) (c : Value) (W : World) : Prop := W.cell? pa = some a ∧ W.cell? pb = some c ∧ Below w.heap.size w W
set_option maxHeartbeats 4000000 in
theorem law_checkKnots (v : Value) (L : List Pair) (w : World) (hw : Good w) (hv : Pairs w v L) (hsz : SzOk L) :
    Calls Tryz.prog 60 #[v] w fun e w' => e = .returned (.int .i64 (knotsErr L)) ∧ Below w.heap.size w w' := by
  obtain ⟨p, c, rfl, hc, hm, hx⟩ := hv
  by_cases h0 : L.length = 0
  · have HE := Lib.hid (show knotsErr L = 13 by unfold knotsErr; rw [if_pos h0])
    rw [h0] at hc ⊢
    clear hx hsz
    go_enter Tryz.func60, Tryz.ntmps60
    go_wp2
    go_ret
    exact ⟨ret_int HE.out.symm, Below.refl _ _⟩
  · by_cases h1 : 100 < L.length
    · have HE := Lib.hid (show knotsErr L = 4 by unfold knotsErr; rw [if_neg h0, if_pos h1])
      have e1 : decide ((L.length : Int) = 0) = false := decide_eq_false (by omega)
      have e2 : decide ((100 : Int) < (L.length : Int)) = true := decide_eq_true (by omega)
      have e3 : ((L.length : Int) == 0) = false := e1
      generalize L.length = n at hc e1 e2 e3 ⊢
      clear hx hsz
      go_enter Tryz.func60, Tryz.ntmps60
      go_wp2
      go_ret
      exact ⟨ret_int HE.out.symm, Below.refl _ _⟩
    · obtain ⟨b, off, rfl, hbl, hcell⟩ := hx (by omega)
      have HE := Lib.hid (show knotsErr L = knErr none L by unfold knotsErr; rw [if_neg h0, if_neg h1])
      have e1 : ((L.length : Int) == 0) = false := beq_eq_false_iff_ne.2 (by omega)
      have e2 : decide ((100 : Int) < (L.length : Int)) = false := decide_eq_false (by omega)
      have hst := KnSt.zero L
      have hbw := Below.refl w.heap.size w
      go_enter Tryz.func60, Tryz.ntmps60
      go_wp2_with fail
      go_loopw [3, 2] (fun iv rv wr => ∃ k : Nat, KnSt L k ∧ iv = .int .i64 (k : Int) ∧ rv = .int .i64 0 ∧ Below w.heap.size w wr) (fun iv _ _ => L.length - (intOf iv).toNat)
      case atStart => exact ⟨0, hst, rfl, rfl, hbw⟩
      case round =>
        obtain ⟨k, hst, rfl, rfl, hbr⟩ := hrel
        by_cases hk : k < L.length
        · obtain ⟨c0, c1⟩ := hcell k hk
          rw [← hbr.cell (p := ⟨b, off + k * 2, none⟩) hbl] at c0
          rw [← hbr.cell (p := ⟨b, off + k * 2 + 1, none⟩) hbl] at c1
          have hkn : decide ((k : Int) < (L.length : Int)) = true := decide_eq_true (by omega)
          have hblr : b < wr.heap.size := Nat.lt_of_lt_of_le hbl hbr.size
          have HST := Lib.hid hst
          clear hst
          obtain ⟨hs1, hs2⟩ := hsz _ (List.getElem_mem hk)
          cases ha : ratB L[k].1.data.toList
          · have HF := Lib.hid (KnSt.bad HST.out hk (by rw [ha]; rfl))
            have HA := Lib.hid ha
            clear ha
            go_wp2_with fail
            refine (law_wrong L[k].1 (by omega) _ (hw.below hbr)).mono ?_
            rintro e w1 ⟨rfl, hb1⟩
            rw [HA.out]
            go_wp2
            go_ret
            exact ⟨ret_int (by rw [HE.out, HF.out]), hbr.trans (hb1.mono hbr.size)⟩
          · have HA := Lib.hid ha
            clear ha
            cases hbb : ratB L[k].2.data.toList
            · have HF := Lib.hid (KnSt.bad HST.out hk (by rw [hbb]; simp))
              have HB := Lib.hid hbb
              clear hbb
              go_wp2_with fail
              refine (law_wrong L[k].1 (by omega) _ (hw.below hbr)).mono ?_
              rintro e w1 ⟨rfl, hb1⟩
              rw [HA.out]
              have hb01 := hbr.trans (hb1.mono hbr.size)
              rw [← hb1.cell (p := ⟨b, off + k * 2 + 1, none⟩) hblr] at c1
              go_wp2_with fail
              refine (law_wrong L[k].2 (by omega) _ (hw.below hb01)).mono ?_
              rintro e w2 ⟨rfl, hb2⟩
              rw [HB.out]
              have hb02 := hb01.trans (hb2.mono hb01.size)
              go_wp2
              go_ret
              exact ⟨ret_int (by rw [HE.out, HF.out]), hb02⟩
            · have HB := Lib.hid hbb
              clear hbb
              by_cases hk0 : 0 < k
              · have hg : decide (0 < (k : Int)) = true := decide_eq_true (by omega)
                obtain ⟨d0, d1⟩ := hcell (k - 1) (by omega)
                obtain ⟨hs3, hs4⟩ := hsz _ (List.getElem_mem (show k - 1 < L.length by omega))
                have HP := Lib.hid (HST.out.2.2 ⟨hk0, by omega⟩)
                obtain ⟨lt, hlt⟩ : ∃ lt : Bool, lt = decide (ratV L[k - 1].1 < ratV L[k].1) := ⟨_, rfl⟩
                have HLT := Lib.hid hlt
                clear hlt d1
                cases lt
                · have HF := Lib.hid (KnSt.order HST.out hk HA.out HB.out hk0 HLT.out.symm)
                  go_wp2_with fail
                  refine (law_wrong L[k].1 (by omega) _ (hw.below hbr)).mono ?_
                  rintro e w1 ⟨rfl, hb1⟩
                  rw [HA.out]
                  have hb01 := hbr.trans (hb1.mono hbr.size)
                  rw [← hb1.cell (p := ⟨b, off + k * 2, none⟩) hblr] at c0
                  rw [← hb1.cell (p := ⟨b, off + k * 2 + 1, none⟩) hblr] at c1
                  have hbl1 : b < w1.heap.size := Nat.lt_of_lt_of_le hblr hb1.size
                  go_wp2_with fail
                  refine (law_wrong L[k].2 (by omega) _ (hw.below hb01)).mono ?_
                  rintro e w2 ⟨rfl, hb2⟩
                  rw [HB.out]
                  have hb02 := hb01.trans (hb2.mono hb01.size)
                  rw [← hb2.cell (p := ⟨b, off + k * 2, none⟩) hbl1] at c0
                  obtain ⟨m, hm'⟩ : ∃ m, m = k - 1 := ⟨_, rfl⟩
                  have d2 : w2.cell? ⟨b, off + m * 2, none⟩ = some (.string L[k - 1].1) := by rw [hm', hb02.cell (p := ⟨b, off + (k - 1) * 2, none⟩) hbl]; exact d0
                  obtain ⟨M, hM⟩ : ∃ M : Int, M = (m : Int) := ⟨_, rfl⟩
                  have i1 : IntKind.i64.wrap ((k : Int) - 1) = M := (IntWalk.i64_in _ (by omega)).trans (by omega)
                  have i2 : 0 ≤ M := by omega
                  have i3 : M.toNat = m := by omega
                  have i4 : M < (L.length : Int) := by omega
                  have i5 : (k : Int) < (L.length : Int) := by omega
                  have b2 : b < w2.heap.size := Nat.lt_of_lt_of_le hbl hb02.size
                  clear d0 c1 hM hm'
                  go_wp2_with fail
                  go_region_held3 (fun W => W.cell? ⟨b, off + m * 2, none⟩ = some (.string L[k - 1].1) ∧ W.cell? ⟨b, off + k * 2, none⟩ = some (.string L[k].1) ∧ Below w2.heap.size w2 W)
                    (first | exact ord_drew d2 c0 | (refine ord_keep b2 b2 (by assumption) ?_; first | assumption | (go_split_ands; refine ⟨?_, ?_, ?_⟩ <;> assumption)))
                    ((go_at_call 19; refine (law_less _ _ _ _ (ratV_isR HP.out) (ratV_isR HA.out) (by omega) (by omega) _ ?_).mono ?_; exact hw.below (hb02.trans ((OrdS.low (by assumption)).mono hb02.size)); rintro e w' ⟨rfl, hb3⟩; rw [← HLT.out]))
                  go_wp2
                  go_ret
                  exact ⟨ret_int (by rw [HE.out, HF.out]), hb02.trans ((OrdS.low (by assumption)).mono hb02.size)⟩
                · have HF := Lib.hid (KnSt.step HST.out hk HA.out HB.out (fun _ => HLT.out.symm))
                  go_wp2_with fail
                  refine (law_wrong L[k].1 (by omega) _ (hw.below hbr)).mono ?_
                  rintro e w1 ⟨rfl, hb1⟩
                  rw [HA.out]
                  have hb01 := hbr.trans (hb1.mono hbr.size)
                  rw [← hb1.cell (p := ⟨b, off + k * 2, none⟩) hblr] at c0
                  rw [← hb1.cell (p := ⟨b, off + k * 2 + 1, none⟩) hblr] at c1
                  have hbl1 : b < w1.heap.size := Nat.lt_of_lt_of_le hblr hb1.size
                  go_wp2_with fail
                  refine (law_wrong L[k].2 (by omega) _ (hw.below hb01)).mono ?_
                  rintro e w2 ⟨rfl, hb2⟩
                  rw [HB.out]
                  have hb02 := hb01.trans (hb2.mono hb01.size)
                  rw [← hb2.cell (p := ⟨b, off + k * 2, none⟩) hbl1] at c0
                  obtain ⟨m, hm'⟩ : ∃ m, m = k - 1 := ⟨_, rfl⟩
                  have d2 : w2.cell? ⟨b, off + m * 2, none⟩ = some (.string L[k - 1].1) := by rw [hm', hb02.cell (p := ⟨b, off + (k - 1) * 2, none⟩) hbl]; exact d0
                  obtain ⟨M, hM⟩ : ∃ M : Int, M = (m : Int) := ⟨_, rfl⟩
                  have i1 : IntKind.i64.wrap ((k : Int) - 1) = M := (IntWalk.i64_in _ (by omega)).trans (by omega)
                  have i2 : 0 ≤ M := by omega
                  have i3 : M.toNat = m := by omega
                  have i4 : M < (L.length : Int) := by omega
                  have i5 : (k : Int) < (L.length : Int) := by omega
                  have b2 : b < w2.heap.size := Nat.lt_of_lt_of_le hbl hb02.size
                  clear d0 c1 hM hm'
                  go_wp2_with fail
                  go_region_held3 (fun W => W.cell? ⟨b, off + m * 2, none⟩ = some (.string L[k - 1].1) ∧ W.cell? ⟨b, off + k * 2, none⟩ = some (.string L[k].1) ∧ Below w2.heap.size w2 W)
                    (first | exact ord_drew d2 c0 | (refine ord_keep b2 b2 (by assumption) ?_; first | assumption | (go_split_ands; refine ⟨?_, ?_, ?_⟩ <;> assumption)))
                    ((go_at_call 19; refine (law_less _ _ _ _ (ratV_isR HP.out) (ratV_isR HA.out) (by omega) (by omega) _ ?_).mono ?_; exact hw.below (hb02.trans ((OrdS.low (by assumption)).mono hb02.size)); rintro e w' ⟨rfl, hb3⟩; rw [← HLT.out]))
                  go_wp2
                  refine ⟨⟨k + 1, HF.out, int_succ k, rfl, hb02.trans ((OrdS.low (by assumption)).mono hb02.size)⟩, ?_⟩
                  show L.length - ((k : Int) + 1).toNat < L.length - ((k : Int)).toNat
                  omega
              · have hg : decide (0 < (k : Int)) = false := decide_eq_false (by omega)
                have HF := Lib.hid (KnSt.step HST.out hk HA.out HB.out (fun h => absurd h hk0))
                go_wp2_with fail
                refine (law_wrong L[k].1 (by omega) _ (hw.below hbr)).mono ?_
                rintro e w1 ⟨rfl, hb1⟩
                rw [HA.out]
                have hb01 := hbr.trans (hb1.mono hbr.size)
                rw [← hb1.cell (p := ⟨b, off + k * 2 + 1, none⟩) hblr] at c1
                go_wp2_with fail
                refine (law_wrong L[k].2 (by omega) _ (hw.below hb01)).mono ?_
                rintro e w2 ⟨rfl, hb2⟩
                rw [HB.out]
                have hb02 := hb01.trans (hb2.mono hb01.size)
                go_wp2_with fail
                go_quiet (fail)
                go_wp2
                refine ⟨⟨k + 1, HF.out, int_succ k, rfl, hb02.trans ((below_drewN w2 _).mono hb02.size)⟩, ?_⟩
                show L.length - ((k : Int) + 1).toNat < L.length - ((k : Int)).toNat
                omega
        · have hkn : decide ((k : Int) < (L.length : Int)) = false := decide_eq_false (by omega)
          obtain rfl : k = L.length := by have := hst.1; omega
          have HF := Lib.hid (KnSt.done hst)
          clear hst
          go_wp2
          go_ret
          exact ⟨ret_int (by rw [HE.out, HF.out]), hbr⟩
end Go.Proofs.YtbogpbjddaoeiaaGreatDoor
namespace Go.Proofs.YtbogpbjddaoeiaaGreatDoor
open Go.RowKit
open Go.Lib (decDigits itoa nDigits)
theorem partErr_two {lo hi : ByteArray} (h : (ratB lo.data.toList && ratB hi.data.toList) = false) : partErr lo hi = 2 := by unfold partErr; rw [h]; rfl
theorem partErr_seven {lo hi : ByteArray} (h1 : ratB lo.data.toList = true) (h2 : ratB hi.data.toList = true) (h : decide (ratV lo < ratV hi) = false) : partErr lo hi = 7 := by unfold partErr; rw [h1, h2, Bool.and_self, if_pos rfl, if_neg (of_decide_eq_false h)]
theorem partErr_null {lo hi : ByteArray} (h1 : ratB lo.data.toList = true) (h2 : ratB hi.data.toList = true) (h : decide (ratV lo < ratV hi) = true) : partErr lo hi = 0 := by unfold partErr; rw [h1, h2, Bool.and_self, if_pos rfl, if_pos (of_decide_eq_true h)]
def ShLoop (L : List Pair) (k : Nat) : Prop := k ≤ L.length ∧ ∀ j (h : j < L.length), j < k → L[j].1.size ≤ 20 ∧ L[j].2.size ≤ 20
open Classical in
noncomputable def shortB (L : List Pair) : Bool := decide ((∀ p ∈ L, p.1.size ≤ 20 ∧ p.2.size ≤ 20) ∧ (L.length ≤ 8 ∨ (199 ≤ L.length ∧ L.length ≤ 202)))
theorem shortB_sz {L : List Pair} (h : shortB L = true) : SzOk L := fun p hp => by
  have := (of_decide_eq_true h).1 p hp
  omega
theorem shortB_len {L : List Pair} (h : shortB L = true) : L.length ≤ 202 := by
  have := (of_decide_eq_true h).2
  omega
theorem ShLoop.step {L : List Pair} {k : Nat} (h : ShLoop L k) (hk : k < L.length) (h1 : L[k].1.size ≤ 20) (h2 : L[k].2.size ≤ 20) : ShLoop L (k + 1) := by
  refine ⟨hk, fun j hj hjk => ?_⟩
  rcases Nat.lt_or_ge j k with h' | h'
  · exact h.2 j hj h'
  · obtain rfl : j = k := by omega
    exact ⟨h1, h2⟩
theorem short_no {L : List Pair} {k : Nat} (hk : k < L.length) (h : 20 < L[k].1.size ∨ 20 < L[k].2.size) : shortB L = false := decide_eq_false (fun h' => by
  have := h'.1 _ (List.getElem_mem hk)
  omega)
theorem short_end {L : List Pair} (h : ShLoop L L.length) (b : Bool) (hb : b = decide (L.length ≤ 8 ∨ (199 ≤ L.length ∧ L.length ≤ 202))) : shortB L = b := by
  rw [hb]
  unfold shortB
  rw [decide_eq_decide]
  constructor
  · exact fun h' => h'.2
  · refine fun h' => ⟨fun p hp => ?_, h'⟩
    obtain ⟨j, hj, rfl⟩ := List.mem_iff_getElem.1 hp
    exact h.2 j hj hj
set_option maxRecDepth 100000 in
set_option maxHeartbeats 4000000 in
theorem law_short (v : Value) (L : List Pair) (w : World) (hv : Pairs w v L) :
    Calls Tryz.prog 16 #[v] w fun e w' => e = .returned (.bool (shortB L)) ∧ Below w.heap.size w w' := by
  obtain ⟨p, c, rfl, hc, hm, hx⟩ := hv
  have hmx : L.length ≤ 9223372036854775807 := by unfold maxLen at hm; omega
  have hst : ShLoop L 0 := ⟨Nat.zero_le _, fun j _ hj => by omega⟩
  have hbw := Below.refl w.heap.size w
  go_enter Tryz.func16, Tryz.ntmps16
  go_wp2_with fail
  go_loopw [3, 2] (fun iv rv wr => ∃ k : Nat, ShLoop L k ∧ iv = .int .i64 (k : Int) ∧ rv = .bool false ∧ Below w.heap.size w wr) (fun iv _ _ => L.length - (intOf iv).toNat)
  case atStart => exact ⟨0, hst, rfl, rfl, hbw⟩
  case round =>
    obtain ⟨k, hst, rfl, rfl, hbr⟩ := hrel
    by_cases hk : k < L.length
    · obtain ⟨b, off, rfl, hbl, hcell⟩ := hx (by omega)
      obtain ⟨c0, c1⟩ := hcell k hk
      rw [← hbr.cell (p := ⟨b, off + k * 2, none⟩) hbl] at c0
      rw [← hbr.cell (p := ⟨b, off + k * 2 + 1, none⟩) hbl] at c1
      have hkn : decide ((k : Int) < (L.length : Int)) = true := decide_eq_true (by omega)
      have HST := Lib.hid hst
      clear hst
      by_cases z1 : 20 < L[k].1.size
      · have y1 : decide ((20 : Int) < (L[k].1.size : Int)) = true := decide_eq_true (by omega)
        have HF := Lib.hid (short_no hk (.inl z1))
        go_wp2
        go_ret
        exact ⟨ret_bool HF.out.symm, hbr⟩
      · have y1 : decide ((20 : Int) < (L[k].1.size : Int)) = false := decide_eq_false (by omega)
        by_cases z2 : 20 < L[k].2.size
        · have y2 : decide ((20 : Int) < (L[k].2.size : Int)) = true := decide_eq_true (by omega)
          have HF := Lib.hid (short_no hk (.inr z2))
          go_wp2
          go_ret
          exact ⟨ret_bool HF.out.symm, hbr⟩
        · have y2 : decide ((20 : Int) < (L[k].2.size : Int)) = false := decide_eq_false (by omega)
          have HF := Lib.hid (HST.out.step hk (by omega) (by omega))
          go_wp2
          refine ⟨⟨k + 1, HF.out, int_succ k, rfl, hbr⟩, ?_⟩
          show L.length - ((k : Int) + 1).toNat < L.length - ((k : Int)).toNat
          omega
    · have hkn : decide ((k : Int) < (L.length : Int)) = false := decide_eq_false (by omega)
      obtain rfl : k = L.length := by have := hst.1; omega
      have HEND := Lib.hid (fun b hb => short_end hst b hb)
      clear hst hx
      by_cases z1 : L.length ≤ 8
      · have y1 : decide ((L.length : Int) ≤ (8 : Int)) = true := decide_eq_true (by omega)
        have HF := Lib.hid (HEND.out true (decide_eq_true (by omega)).symm)
        go_wp2
        go_ret
        exact ⟨ret_bool HF.out.symm, hbr⟩
      · have y1 : decide ((L.length : Int) ≤ (8 : Int)) = false := decide_eq_false (by omega)
        by_cases z2 : 199 ≤ L.length
        · have y2 : decide ((199 : Int) ≤ (L.length : Int)) = true := decide_eq_true (by omega)
          by_cases z3 : L.length ≤ 202
          · have y3 : decide ((L.length : Int) ≤ (202 : Int)) = true := decide_eq_true (by omega)
            have HF := Lib.hid (HEND.out true (decide_eq_true (by omega)).symm)
            go_wp2
            go_ret
            exact ⟨ret_bool HF.out.symm, hbr⟩
          · have y3 : decide ((L.length : Int) ≤ (202 : Int)) = false := decide_eq_false (by omega)
            have HF := Lib.hid (HEND.out false (decide_eq_false (by omega)).symm)
            go_wp2
            go_ret
            exact ⟨ret_bool HF.out.symm, hbr⟩
        · have y2 : decide ((199 : Int) ≤ (L.length : Int)) = false := decide_eq_false (by omega)
          have HF := Lib.hid (HEND.out false (decide_eq_false (by omega)).symm)
          go_wp2
          go_ret
          exact ⟨ret_bool HF.out.symm, hbr⟩
set_option maxRecDepth 100000 in
set_option maxHeartbeats 4000000 in
theorem law_check (v : Value) (L : List Pair) (w : World) (hw : Good w) (hv : Pairs w v L) (hsz : SzOk L) :
    Calls Tryz.prog 59 #[v] w fun e w' => e = .returned (.int .i64 (checkErr L)) ∧ Below w.heap.size w w' := by
  obtain ⟨p, c, rfl, hc, hm, hx⟩ := hv
  by_cases h1 : 200 < L.length
  · have HE := Lib.hid (show checkErr L = 4 by unfold checkErr; rw [if_pos h1])
    have e2 : decide ((200 : Int) < (L.length : Int)) = true := decide_eq_true (by omega)
    generalize L.length = n at hc e2 ⊢
    clear hx hsz
    go_enter Tryz.func59, Tryz.ntmps59
    go_wp2
    go_ret
    exact ⟨ret_int HE.out.symm, Below.refl _ _⟩
  · have HE := Lib.hid (show checkErr L = ckErr none L by unfold checkErr; rw [if_neg h1])
    have e2 : decide ((200 : Int) < (L.length : Int)) = false := decide_eq_false (by omega)
    have hst := CkSt.zero L
    have hbw := Below.refl w.heap.size w
    go_enter Tryz.func59, Tryz.ntmps59
    go_wp2_with fail
    go_loopw [3, 2] (fun iv rv wr => ∃ k : Nat, CkSt L k ∧ iv = .int .i64 (k : Int) ∧ rv = .int .i64 0 ∧ Below w.heap.size w wr) (fun iv _ _ => L.length - (intOf iv).toNat)
    case atStart => exact ⟨0, hst, rfl, rfl, hbw⟩
    case round =>
      obtain ⟨k, hst, rfl, rfl, hbr⟩ := hrel
      by_cases hk : k < L.length
      · obtain ⟨b, off, rfl, hbl, hcell⟩ := hx (by omega)
        obtain ⟨c0, c1⟩ := hcell k hk
        rw [← hbr.cell (p := ⟨b, off + k * 2, none⟩) hbl] at c0
        rw [← hbr.cell (p := ⟨b, off + k * 2 + 1, none⟩) hbl] at c1
        have hkn : decide ((k : Int) < (L.length : Int)) = true := decide_eq_true (by omega)
        have hblr : b < wr.heap.size := Nat.lt_of_lt_of_le hbl hbr.size
        have HST := Lib.hid hst
        clear hst
        obtain ⟨hs1, hs2⟩ := hsz _ (List.getElem_mem hk)
        cases ha : ratB L[k].1.data.toList
        · have HF := Lib.hid (HST.out.bad hk (by rw [partErr_two (by rw [ha]; rfl)]; decide))
          have HG := Lib.hid (partErr_two (lo := L[k].1) (hi := L[k].2) (by rw [ha]; rfl))
          have HA := Lib.hid ha
          clear ha
          go_wp2_with fail
          refine (law_wrong L[k].1 (by omega) _ (hw.below hbr)).mono ?_
          rintro e w1 ⟨rfl, hb1⟩
          rw [HA.out]
          go_wp2
          go_ret
          exact ⟨ret_int (by rw [HE.out, HF.out, HG.out]), hbr.trans (hb1.mono hbr.size)⟩
        · have HA := Lib.hid ha
          cases hbb : ratB L[k].2.data.toList
          · have HF := Lib.hid (HST.out.bad hk (by rw [partErr_two (by rw [hbb]; simp)]; decide))
            have HG := Lib.hid (partErr_two (lo := L[k].1) (hi := L[k].2) (by rw [hbb]; simp))
            have HB := Lib.hid hbb
            clear hbb ha
            go_wp2_with fail
            refine (law_wrong L[k].1 (by omega) _ (hw.below hbr)).mono ?_
            rintro e w1 ⟨rfl, hb1⟩
            rw [HA.out]
            have hb01 := hbr.trans (hb1.mono hbr.size)
            rw [← hb1.cell (p := ⟨b, off + k * 2 + 1, none⟩) hblr] at c1
            go_wp2_with fail
            refine (law_wrong L[k].2 (by omega) _ (hw.below hb01)).mono ?_
            rintro e w2 ⟨rfl, hb2⟩
            rw [HB.out]
            have hb02 := hb01.trans (hb2.mono hb01.size)
            go_wp2
            go_ret
            exact ⟨ret_int (by rw [HE.out, HF.out, HG.out]), hb02⟩
          · have HB := Lib.hid hbb
            obtain ⟨lt, hlt⟩ : ∃ lt : Bool, lt = decide (ratV L[k].1 < ratV L[k].2) := ⟨_, rfl⟩
            have HLT := Lib.hid hlt
            have i5 : (k : Int) < (L.length : Int) := by omega
            have i6 : (0 : Int) ≤ (k : Int) := by omega
            clear hlt hbb ha
            cases lt
            · have HG := Lib.hid (partErr_seven HA.out HB.out HLT.out.symm)
              have HF := Lib.hid (HST.out.bad hk (by rw [HG.out]; decide))
              go_wp2_with fail
              refine (law_wrong L[k].1 (by omega) _ (hw.below hbr)).mono ?_
              rintro e w1 ⟨rfl, hb1⟩
              rw [HA.out]
              have hb01 := hbr.trans (hb1.mono hbr.size)
              rw [← hb1.cell (p := ⟨b, off + k * 2, none⟩) hblr] at c0
              rw [← hb1.cell (p := ⟨b, off + k * 2 + 1, none⟩) hblr] at c1
              have hbl1 : b < w1.heap.size := Nat.lt_of_lt_of_le hblr hb1.size
              go_wp2_with fail
              refine (law_wrong L[k].2 (by omega) _ (hw.below hb01)).mono ?_
              rintro e w2 ⟨rfl, hb2⟩
              rw [HB.out]
              have hb02 := hb01.trans (hb2.mono hb01.size)
              rw [← hb2.cell (p := ⟨b, off + k * 2, none⟩) hbl1] at c0
              rw [← hb2.cell (p := ⟨b, off + k * 2 + 1, none⟩) hbl1] at c1
              have bl2 : b < w2.heap.size := Nat.lt_of_lt_of_le hbl hb02.size
              go_wp2_with fail
              go_region_held3 (fun W => W.cell? ⟨b, off + k * 2, none⟩ = some (.string L[k].1) ∧ W.cell? ⟨b, off + k * 2 + 1, none⟩ = some (.string L[k].2) ∧ Below w2.heap.size w2 W)
                (first | exact ord_drew c0 c1 | (refine ord_keep bl2 bl2 (by assumption) ?_; first | assumption | (go_split_ands; refine ⟨?_, ?_, ?_⟩ <;> assumption)))
                ((go_at_call 19; refine (law_less _ _ _ _ (ratV_isR HA.out) (ratV_isR HB.out) (by omega) (by omega) _ ?_).mono ?_; exact hw.below (hb02.trans ((OrdS.low (by assumption)).mono hb02.size)); rintro e w3 ⟨rfl, hb3⟩; rw [← HLT.out]))
              have hlow3 : Below w2.heap.size w2 w3 := OrdS.low (by assumption)
              have hb03 := hb02.trans (hlow3.mono hb02.size)
              go_wp2
              go_ret
              exact ⟨ret_int (by rw [HE.out, HF.out, HG.out]), hb03⟩
            · have HG := Lib.hid (partErr_null HA.out HB.out HLT.out.symm)
              by_cases hk0 : 0 < k
              · have hg : decide (0 < (k : Int)) = true := decide_eq_true (by omega)
                obtain ⟨d0, d1⟩ := hcell (k - 1) (by omega)
                obtain ⟨hs3, hs4⟩ := hsz _ (List.getElem_mem (show k - 1 < L.length by omega))
                have HP := Lib.hid (partErr_ok (HST.out.2.2 ⟨hk0, by omega⟩)).2.1
                obtain ⟨lt2, hlt2⟩ : ∃ lt : Bool, lt = decide (ratV L[k - 1].2 < ratV L[k].1) := ⟨_, rfl⟩
                have HLT2 := Lib.hid hlt2
                obtain ⟨m, hm'⟩ : ∃ m, m = k - 1 := ⟨_, rfl⟩
                have d2 : w.cell? ⟨b, off + m * 2 + 1, none⟩ = some (.string L[k - 1].2) := by rw [hm']; exact d1
                obtain ⟨M, hM⟩ : ∃ M : Int, M = (m : Int) := ⟨_, rfl⟩
                have i1 : IntKind.i64.wrap ((k : Int) - 1) = M := (IntWalk.i64_in _ (by omega)).trans (by omega)
                have i2 : 0 ≤ M := by omega
                have i3 : M.toNat = m := by omega
                have i4 : M < (L.length : Int) := by omega
                clear hlt2 d0 d1 hM hm'
                cases lt2
                · have HF := Lib.hid (HST.out.order hk HG.out hk0 HLT2.out.symm)
                  go_wp2_with fail
                  refine (law_wrong L[k].1 (by omega) _ (hw.below hbr)).mono ?_
                  rintro e w1 ⟨rfl, hb1⟩
                  rw [HA.out]
                  have hb01 := hbr.trans (hb1.mono hbr.size)
                  rw [← hb1.cell (p := ⟨b, off + k * 2, none⟩) hblr] at c0
                  rw [← hb1.cell (p := ⟨b, off + k * 2 + 1, none⟩) hblr] at c1
                  have hbl1 : b < w1.heap.size := Nat.lt_of_lt_of_le hblr hb1.size
                  go_wp2_with fail
                  refine (law_wrong L[k].2 (by omega) _ (hw.below hb01)).mono ?_
                  rintro e w2 ⟨rfl, hb2⟩
                  rw [HB.out]
                  have hb02 := hb01.trans (hb2.mono hb01.size)
                  rw [← hb2.cell (p := ⟨b, off + k * 2, none⟩) hbl1] at c0
                  rw [← hb2.cell (p := ⟨b, off + k * 2 + 1, none⟩) hbl1] at c1
                  have bl2 : b < w2.heap.size := Nat.lt_of_lt_of_le hbl hb02.size
                  go_wp2_with fail
                  go_region_held3 (fun W => W.cell? ⟨b, off + k * 2, none⟩ = some (.string L[k].1) ∧ W.cell? ⟨b, off + k * 2 + 1, none⟩ = some (.string L[k].2) ∧ Below w2.heap.size w2 W)
                    (first | exact ord_drew c0 c1 | (refine ord_keep bl2 bl2 (by assumption) ?_; first | assumption | (go_split_ands; refine ⟨?_, ?_, ?_⟩ <;> assumption)))
                    ((go_at_call 19; refine (law_less _ _ _ _ (ratV_isR HA.out) (ratV_isR HB.out) (by omega) (by omega) _ ?_).mono ?_; exact hw.below (hb02.trans ((OrdS.low (by assumption)).mono hb02.size)); rintro e w3 ⟨rfl, hb3⟩; rw [← HLT.out]))
                  have hlow3 : Below w2.heap.size w2 w3 := OrdS.low (by assumption)
                  have hb03 := hb02.trans (hlow3.mono hb02.size)
                  have d3 : w3.cell? ⟨b, off + m * 2 + 1, none⟩ = some (.string L[k - 1].2) := (hb03.cell (p := ⟨b, off + m * 2 + 1, none⟩) hbl).trans d2
                  have c3 : w3.cell? ⟨b, off + k * 2, none⟩ = some (.string L[k].1) := (hlow3.cell (p := ⟨b, off + k * 2, none⟩) bl2).trans c0
                  have bl3 : b < w3.heap.size := Nat.lt_of_lt_of_le hbl hb03.size
                  clear c0 c1 d2
                  go_wp2_with fail
                  go_region_held3 (fun W => W.cell? ⟨b, off + m * 2 + 1, none⟩ = some (.string L[k - 1].2) ∧ W.cell? ⟨b, off + k * 2, none⟩ = some (.string L[k].1) ∧ Below w3.heap.size w3 W)
                    (first | exact ord_drew d3 c3 | (refine ord_keep bl3 bl3 (by assumption) ?_; first | assumption | (go_split_ands; refine ⟨?_, ?_, ?_⟩ <;> assumption)))
                    ((go_at_call 19; refine (law_less _ _ _ _ (ratV_isR HP.out) (ratV_isR HA.out) (by omega) (by omega) _ ?_).mono ?_; exact hw.below (hb03.trans ((OrdS.low (by assumption)).mono hb03.size)); rintro e w4 ⟨rfl, hb4⟩; rw [← HLT2.out]))
                  have hlow4 : Below w3.heap.size w3 w4 := OrdS.low (by assumption)
                  have hb04 := hb03.trans (hlow4.mono hb03.size)
                  go_wp2
                  go_ret
                  exact ⟨ret_int (by rw [HE.out, HF.out]), hb04⟩
                · have HF := Lib.hid (HST.out.step hk HG.out (fun _ => HLT2.out.symm))
                  go_wp2_with fail
                  refine (law_wrong L[k].1 (by omega) _ (hw.below hbr)).mono ?_
                  rintro e w1 ⟨rfl, hb1⟩
                  rw [HA.out]
                  have hb01 := hbr.trans (hb1.mono hbr.size)
                  rw [← hb1.cell (p := ⟨b, off + k * 2, none⟩) hblr] at c0
                  rw [← hb1.cell (p := ⟨b, off + k * 2 + 1, none⟩) hblr] at c1
                  have hbl1 : b < w1.heap.size := Nat.lt_of_lt_of_le hblr hb1.size
                  go_wp2_with fail
                  refine (law_wrong L[k].2 (by omega) _ (hw.below hb01)).mono ?_
                  rintro e w2 ⟨rfl, hb2⟩
                  rw [HB.out]
                  have hb02 := hb01.trans (hb2.mono hb01.size)
                  rw [← hb2.cell (p := ⟨b, off + k * 2, none⟩) hbl1] at c0
                  rw [← hb2.cell (p := ⟨b, off + k * 2 + 1, none⟩) hbl1] at c1
                  have bl2 : b < w2.heap.size := Nat.lt_of_lt_of_le hbl hb02.size
                  go_wp2_with fail
                  go_region_held3 (fun W => W.cell? ⟨b, off + k * 2, none⟩ = some (.string L[k].1) ∧ W.cell? ⟨b, off + k * 2 + 1, none⟩ = some (.string L[k].2) ∧ Below w2.heap.size w2 W)
                    (first | exact ord_drew c0 c1 | (refine ord_keep bl2 bl2 (by assumption) ?_; first | assumption | (go_split_ands; refine ⟨?_, ?_, ?_⟩ <;> assumption)))
                    ((go_at_call 19; refine (law_less _ _ _ _ (ratV_isR HA.out) (ratV_isR HB.out) (by omega) (by omega) _ ?_).mono ?_; exact hw.below (hb02.trans ((OrdS.low (by assumption)).mono hb02.size)); rintro e w3 ⟨rfl, hb3⟩; rw [← HLT.out]))
                  have hlow3 : Below w2.heap.size w2 w3 := OrdS.low (by assumption)
                  have hb03 := hb02.trans (hlow3.mono hb02.size)
                  have d3 : w3.cell? ⟨b, off + m * 2 + 1, none⟩ = some (.string L[k - 1].2) := (hb03.cell (p := ⟨b, off + m * 2 + 1, none⟩) hbl).trans d2
                  have c3 : w3.cell? ⟨b, off + k * 2, none⟩ = some (.string L[k].1) := (hlow3.cell (p := ⟨b, off + k * 2, none⟩) bl2).trans c0
                  have bl3 : b < w3.heap.size := Nat.lt_of_lt_of_le hbl hb03.size
                  clear c0 c1 d2
                  go_wp2_with fail
                  go_region_held3 (fun W => W.cell? ⟨b, off + m * 2 + 1, none⟩ = some (.string L[k - 1].2) ∧ W.cell? ⟨b, off + k * 2, none⟩ = some (.string L[k].1) ∧ Below w3.heap.size w3 W)
                    (first | exact ord_drew d3 c3 | (refine ord_keep bl3 bl3 (by assumption) ?_; first | assumption | (go_split_ands; refine ⟨?_, ?_, ?_⟩ <;> assumption)))
                    ((go_at_call 19; refine (law_less _ _ _ _ (ratV_isR HP.out) (ratV_isR HA.out) (by omega) (by omega) _ ?_).mono ?_; exact hw.below (hb03.trans ((OrdS.low (by assumption)).mono hb03.size)); rintro e w4 ⟨rfl, hb4⟩; rw [← HLT2.out]))
                  have hlow4 : Below w3.heap.size w3 w4 := OrdS.low (by assumption)
                  have hb04 := hb03.trans (hlow4.mono hb03.size)
                  go_wp2
                  refine ⟨⟨k + 1, HF.out, int_succ k, rfl, hb04⟩, ?_⟩
                  show L.length - ((k : Int) + 1).toNat < L.length - ((k : Int)).toNat
                  omega
              · have hg : decide (0 < (k : Int)) = false := decide_eq_false (by omega)
                have HF := Lib.hid (HST.out.step hk HG.out (fun h => absurd h hk0))
                go_wp2_with fail
                refine (law_wrong L[k].1 (by omega) _ (hw.below hbr)).mono ?_
                rintro e w1 ⟨rfl, hb1⟩
                rw [HA.out]
                have hb01 := hbr.trans (hb1.mono hbr.size)
                rw [← hb1.cell (p := ⟨b, off + k * 2, none⟩) hblr] at c0
                rw [← hb1.cell (p := ⟨b, off + k * 2 + 1, none⟩) hblr] at c1
                have hbl1 : b < w1.heap.size := Nat.lt_of_lt_of_le hblr hb1.size
                go_wp2_with fail
                refine (law_wrong L[k].2 (by omega) _ (hw.below hb01)).mono ?_
                rintro e w2 ⟨rfl, hb2⟩
                rw [HB.out]
                have hb02 := hb01.trans (hb2.mono hb01.size)
                rw [← hb2.cell (p := ⟨b, off + k * 2, none⟩) hbl1] at c0
                rw [← hb2.cell (p := ⟨b, off + k * 2 + 1, none⟩) hbl1] at c1
                have bl2 : b < w2.heap.size := Nat.lt_of_lt_of_le hbl hb02.size
                go_wp2_with fail
                go_region_held3 (fun W => W.cell? ⟨b, off + k * 2, none⟩ = some (.string L[k].1) ∧ W.cell? ⟨b, off + k * 2 + 1, none⟩ = some (.string L[k].2) ∧ Below w2.heap.size w2 W)
                  (first | exact ord_drew c0 c1 | (refine ord_keep bl2 bl2 (by assumption) ?_; first | assumption | (go_split_ands; refine ⟨?_, ?_, ?_⟩ <;> assumption)))
                  ((go_at_call 19; refine (law_less _ _ _ _ (ratV_isR HA.out) (ratV_isR HB.out) (by omega) (by omega) _ ?_).mono ?_; exact hw.below (hb02.trans ((OrdS.low (by assumption)).mono hb02.size)); rintro e w3 ⟨rfl, hb3⟩; rw [← HLT.out]))
                have hlow3 : Below w2.heap.size w2 w3 := OrdS.low (by assumption)
                have hb03 := hb02.trans (hlow3.mono hb02.size)
                go_wp2_with fail
                go_quiet (fail)
                go_wp2
                refine ⟨⟨k + 1, HF.out, int_succ k, rfl, hb03.trans ((below_drewN w3 _).mono hb03.size)⟩, ?_⟩
                show L.length - ((k : Int) + 1).toNat < L.length - ((k : Int)).toNat
                omega
      · have hkn : decide ((k : Int) < (L.length : Int)) = false := decide_eq_false (by omega)
        obtain rfl : k = L.length := by have := hst.1; omega
        have HF := Lib.hid (CkSt.done hst)
        clear hst
        go_wp2
        go_ret
        exact ⟨ret_int (by rw [HE.out, HF.out]), hbr⟩
end Go.Proofs.YtbogpbjddaoeiaaGreatDoor
