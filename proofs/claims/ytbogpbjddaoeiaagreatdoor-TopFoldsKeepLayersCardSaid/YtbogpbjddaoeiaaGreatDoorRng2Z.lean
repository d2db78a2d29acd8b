import Derived.Test.YtbogpbjddaoeiaaGreatDoorPartsZ
import Derived.Test.YtbogpbjddaoeiaaGreatDoorCloseZ
namespace Go.Proofs.YtbogpbjddaoeiaaGreatDoor
open Go.RowKit
open Go.Lib (decDigits itoa nDigits)
abbrev Pair := ByteArray × ByteArray
/-- The slice v holds these pairs of texts. -/
def Pairs (w : World) (v : Value) (L : List Pair) : Prop :=
  ∃ p c, v = .slice p L.length c ∧ L.length ≤ c ∧ c ≤ maxLen ∧ (0 < L.length → ∃ b off, p = some ⟨b, off, none⟩ ∧ b < w.heap.size ∧ ∀ i (h : i < L.length), w.cell? ⟨b, off + i * 2, none⟩ = some (.string L[i].1) ∧ w.cell? ⟨b, off + i * 2 + 1, none⟩ = some (.string L[i].2))
theorem Pairs.below {w w' : World} {v : Value} {L : List Pair} (h : Pairs w v L) (hb : Below w.heap.size w w') : Pairs w' v L := by
  obtain ⟨p, c, hv, hc, hm, hx⟩ := h
  refine ⟨p, c, hv, hc, hm, fun h0 => ?_⟩
  obtain ⟨b, off, hp, hbl, hcell⟩ := hx h0
  refine ⟨b, off, hp, Nat.lt_of_lt_of_le hbl hb.size, fun i hi => ?_⟩
  rw [hb.cell (p := ⟨b, off + i * 2, none⟩) hbl, hb.cell (p := ⟨b, off + i * 2 + 1, none⟩) hbl]
  exact hcell i hi
open Classical in
/-- CheckKnots's error of the knots behind prev. -/
noncomputable def knErr : Option ByteArray → List Pair → Int
  | _, [] => 0
  | prev, (a, v) :: r => if ratB a.data.toList && ratB v.data.toList then (if (∃ p, prev = some p ∧ ¬ ratV p < ratV a) then 6 else knErr (some a) r) else 2
noncomputable def knotsErr (L : List Pair) : Int := if L.length = 0 then 13 else if 100 < L.length then 4 else knErr none L
/-- What holds at index k of the loop. -/
def KnSt (L : List Pair) (k : Nat) : Prop := k ≤ L.length ∧ knErr none L = knErr (if h : 0 < k ∧ k - 1 < L.length then some L[k - 1].1 else none) (L.drop k) ∧ ∀ (h : 0 < k ∧ k - 1 < L.length), ratB L[k - 1].1.data.toList = true
theorem KnSt.zero (L : List Pair) : KnSt L 0 := ⟨Nat.zero_le _, by simp, fun h => by omega⟩
theorem KnSt.drop {L : List Pair} {k : Nat} (hk : k < L.length) : L.drop k = (L[k].1, L[k].2) :: L.drop (k + 1) := by rw [List.drop_eq_getElem_cons hk]
theorem KnSt.bad {L : List Pair} {k : Nat} (h : KnSt L k) (hk : k < L.length) (hb : (ratB L[k].1.data.toList && ratB L[k].2.data.toList) = false) : knErr none L = 2 := by
  rw [h.2.1, KnSt.drop hk, knErr, hb]; rfl
theorem KnSt.order {L : List Pair} {k : Nat} (h : KnSt L k) (hk : k < L.length) (hb1 : ratB L[k].1.data.toList = true) (hb2 : ratB L[k].2.data.toList = true) (h0 : 0 < k) (hlt : decide (ratV L[k - 1].1 < ratV L[k].1) = false) : knErr none L = 6 := by
  rw [h.2.1, KnSt.drop hk, knErr, hb1, hb2, dif_pos ⟨h0, by omega⟩]
  simp only [Bool.and_self, if_true]
  rw [if_pos ⟨_, rfl, of_decide_eq_false hlt⟩]
theorem KnSt.step {L : List Pair} {k : Nat} (h : KnSt L k) (hk : k < L.length) (hb1 : ratB L[k].1.data.toList = true) (hb2 : ratB L[k].2.data.toList = true) (hlt : ∀ h0 : 0 < k, decide (ratV L[k - 1].1 < ratV L[k].1) = true) : KnSt L (k + 1) := by
  refine ⟨hk, ?_, fun _ => hb1⟩
  rw [h.2.1, KnSt.drop hk, knErr, hb1, hb2, dif_pos (show 0 < k + 1 ∧ k + 1 - 1 < L.length from ⟨by omega, by omega⟩)]
  simp only [Bool.and_self, if_true]
  rw [if_neg]
  · rfl
  · rintro ⟨p, hp, hn⟩
    split at hp
    · rename_i h0
      cases hp
      exact hn (of_decide_eq_true (hlt h0.1))
    · cases hp
theorem KnSt.done {L : List Pair} (h : KnSt L L.length) : knErr none L = 0 := by
  rw [h.2.1, List.drop_length]; rfl
theorem int_succ (k : Nat) : Value.int .i64 ((k : Int) + 1) = .int .i64 ((k + 1 : Nat) : Int) := by simp
def OrdS (w : World) (pa : Addr) (a : Value) (pb : Addr) (c : Value) (W : World) : Prop := W.cell? pa = some a ∧ W.cell? pb = some c ∧ Below w.heap.size w W
theorem OrdS.low {w W : World} {pa pb : Addr} {a c : Value} (h : OrdS w pa a pb c W) : Below w.heap.size w W := h.2.2
theorem ord_keep {w W W' : World} {pa pb : Addr} {a c : Value} (ha : pa.block < w.heap.size) (hc : pb.block < w.heap.size) (hb : Below W.heap.size W W') (h : W.cell? pa = some a ∧ W.cell? pb = some c ∧ Below w.heap.size w W) : W'.cell? pa = some a ∧ W'.cell? pb = some c ∧ Below w.heap.size w W' := by
  obtain ⟨h1, h2, h3⟩ := h
  refine ⟨?_, ?_, h3.trans (hb.mono h3.size)⟩
  · rw [hb.cell (Nat.lt_of_lt_of_le ha h3.size)]; exact h1
  · rw [hb.cell (Nat.lt_of_lt_of_le hc h3.size)]; exact h2
theorem ord_drew {w : World} {pa pb : Addr} {a c : Value} (h1 : w.cell? pa = some a) (h2 : w.cell? pb = some c) : w.drew.cell? pa = some a ∧ w.drew.cell? pb = some c ∧ Below w.heap.size w w.drew := ⟨h1, h2, rfl, rfl, rfl, Nat.le_refl _, fun _ _ => rfl⟩
set_option maxHeartbeats 4000000 in
theorem ranges_CheckKnots (v : Value) (L : List Pair) (w : World) (hw : Good w) (hv : Pairs w v L) (hsz : ∀ p ∈ L, p.1.size ≤ 1000000000 ∧ p.2.size ≤ 1000000000) :
    Calls Tryz.prog 61 #[v] w fun e w' => e = .returned (.int .i64 (knotsErr L)) ∧ Below w.heap.size w w' := by
  obtain ⟨p, c, rfl, hc, hm, hx⟩ := hv
  by_cases h0 : L.length = 0
  · have HE := Lib.hid (show knotsErr L = 13 by unfold knotsErr; rw [if_pos h0])
    rw [h0] at hc ⊢
    clear hx hsz
    go_enter Tryz.func61, Tryz.ntmps61
    go_wp2
    go_ret
    exact ⟨ret_int HE.out.symm, Below.refl _ _⟩
  · by_cases h1 : 100 < L.length
    · have HE := Lib.hid (show knotsErr L = 4 by unfold knotsErr; rw [if_neg h0, if_pos h1])
      have e1 : decide ((L.length : Int) = 0) = false := decide_eq_false (by omega)
      have e2 : decide ((100 : Int) < (L.length : Int)) = true := decide_eq_true (by omega)
      have e3 : ((L.length : Int) == 0) = false := e1
      generalize L.length = n at hc e1 e2 e3 ⊢
      clear hx hsz
      go_enter Tryz.func61, Tryz.ntmps61
      go_wp2
      go_ret
      exact ⟨ret_int HE.out.symm, Below.refl _ _⟩
    · obtain ⟨b, off, rfl, hbl, hcell⟩ := hx (by omega)
      have HE := Lib.hid (show knotsErr L = knErr none L by unfold knotsErr; rw [if_neg h0, if_neg h1])
      have e1 : ((L.length : Int) == 0) = false := beq_eq_false_iff_ne.2 (by omega)
      have e2 : decide ((100 : Int) < (L.length : Int)) = false := decide_eq_false (by omega)
      have hst := KnSt.zero L
      have hbw := Below.refl w.heap.size w
      go_enter Tryz.func61, Tryz.ntmps61
      go_wp2_with fail
      go_loopw [15, 2, 3, 4] (fun iv rv _ _ wr => ∃ k : Nat, KnSt L k ∧ iv = .int .i64 (k : Int) ∧ rv = .int .i64 0 ∧ Below w.heap.size w wr) (fun iv _ _ _ _ => L.length - (intOf iv).toNat)
      case atStart => exact ⟨0, hst, rfl, rfl, hbw⟩
      case round =>
        obtain ⟨k, hst, rfl, rfl, hbr⟩ := hrel
        by_cases hk : k < L.length
        · obtain ⟨c0, c1⟩ := hcell k hk
          rw [← hbr.cell (p := ⟨b, off + k * 2, none⟩) hbl] at c0
          rw [← hbr.cell (p := ⟨b, off + k * 2 + 1, none⟩) hbl] at c1
          have hkn : decide ((k : Int) < (L.length : Int)) = true := decide_eq_true (by omega)
          have HST := Lib.hid hst
          clear hst
          have hpa := PartAt.alloc L[k].1 L[k].2 wr 97
          have hba := alloc_below wr (Obj.cells #[.string L[k].1, .string L[k].2] 97)
          obtain ⟨hs1, hs2⟩ := hsz _ (List.getElem_mem hk)
          cases ha : ratB L[k].1.data.toList
          · have HF := Lib.hid (KnSt.bad HST.out hk (by rw [ha]; rfl))
            have HA := Lib.hid ha
            clear ha
            go_wp2_with fail
            generalize wr.alloc (Obj.cells #[.string L[k].1, .string L[k].2] 97) = wA at hba hpa ⊢
            have hb0 := hbr.trans (hba.mono hbr.size)
            refine (ranges_wrong L[k].1 (by omega) _ (hw.below hb0)).mono ?_
            rintro e w1 ⟨rfl, hb1⟩
            rw [HA.out]
            go_wp2
            go_ret
            exact ⟨ret_int (by rw [HE.out, HF.out]), hb0.trans (hb1.mono hb0.size)⟩
          · have HA := Lib.hid ha
            clear ha
            cases hbb : ratB L[k].2.data.toList
            · have HF := Lib.hid (KnSt.bad HST.out hk (by rw [hbb]; simp))
              have HB := Lib.hid hbb
              clear hbb
              go_wp2_with fail
              generalize wr.alloc (Obj.cells #[.string L[k].1, .string L[k].2] 97) = wA at hba hpa ⊢
              have hb0 := hbr.trans (hba.mono hbr.size)
              refine (ranges_wrong L[k].1 (by omega) _ (hw.below hb0)).mono ?_
              rintro e w1 ⟨rfl, hb1⟩
              rw [HA.out]
              have hb01 := hb0.trans (hb1.mono hb0.size)
              have hp1 := hpa.below hb1
              obtain ⟨p0, p1, p2⟩ := hp1
              go_wp2_with fail
              refine (ranges_wrong L[k].2 (by omega) _ (hw.below hb01)).mono ?_
              rintro e w2 ⟨rfl, hb2⟩
              rw [HB.out]
              have hb02 := hb01.trans (hb2.mono hb01.size)
              obtain ⟨q0, q1, q2⟩ := PartAt.below ⟨p0, p1, p2⟩ hb2
              go_wp2
              go_ret
              exact ⟨ret_int (by rw [HE.out, HF.out]), hb02⟩
            · have HB := Lib.hid hbb
              clear hbb
              by_cases hk0 : 0 < k
              · have hg : decide (0 < (k : Int)) = true := decide_eq_true (by omega)
                obtain ⟨d0, d1⟩ := hcell (k - 1) (by omega)
                obtain ⟨hs3, hs4⟩ := hsz _ (List.getElem_mem (show k - 1 < L.length by omega))
                have HP := Lib.hid (HST.out.2.2 ⟨hk0, by omega⟩)
                obtain ⟨lt, hlt⟩ : ∃ lt : Bool, lt = decide (ratV L[k - 1].1 < ratV L[k].1) := ⟨_, rfl⟩
                have HLT := Lib.hid hlt
                clear hlt
                cases lt
                · have HF := Lib.hid (KnSt.order HST.out hk HA.out HB.out hk0 HLT.out.symm)
                  go_wp2_with fail
                  generalize wr.alloc (Obj.cells #[.string L[k].1, .string L[k].2] 97) = wA at hba hpa ⊢
                  have hb0 := hbr.trans (hba.mono hbr.size)
                  refine (ranges_wrong L[k].1 (by omega) _ (hw.below hb0)).mono ?_
                  rintro e w1 ⟨rfl, hb1⟩
                  rw [HA.out]
                  have hb01 := hb0.trans (hb1.mono hb0.size)
                  have hp1 := hpa.below hb1
                  obtain ⟨p0, p1, p2⟩ := hp1
                  go_wp2_with fail
                  refine (ranges_wrong L[k].2 (by omega) _ (hw.below hb01)).mono ?_
                  rintro e w2 ⟨rfl, hb2⟩
                  rw [HB.out]
                  have hb02 := hb01.trans (hb2.mono hb01.size)
                  obtain ⟨q0, q1, q2⟩ := PartAt.below ⟨p0, p1, p2⟩ hb2
                  obtain ⟨m, hm'⟩ : ∃ m, m = k - 1 := ⟨_, rfl⟩
                  have d2 : w2.cell? ⟨b, off + m * 2, none⟩ = some (.string L[k - 1].1) := by rw [hm', hb02.cell (p := ⟨b, off + (k - 1) * 2, none⟩) hbl]; exact d0
                  obtain ⟨M, hM⟩ : ∃ M : Int, M = (m : Int) := ⟨_, rfl⟩
                  have i1 : IntKind.i64.wrap ((k : Int) - 1) = M := (IntWalk.i64_in _ (by omega)).trans (by omega)
                  have i2 : 0 ≤ M := by omega
                  have i3 : M.toNat = m := by omega
                  have i4 : M < (L.length : Int) := by omega
                  clear p0 p1 p2 d0 hM hm'
                  have b2 : b < w2.heap.size := Nat.lt_of_lt_of_le hbl hb02.size
                  go_wp2_with fail
                  go_region_held3 (fun W => W.cell? ⟨b, off + m * 2, none⟩ = some (.string L[k - 1].1) ∧ W.cell? ⟨wr.heap.size, 0, none⟩ = some (.string L[k].1) ∧ Below w2.heap.size w2 W)
                    (first | exact ord_drew d2 q1 | (refine ord_keep b2 q0 (by assumption) ?_; first | assumption | (go_split_ands; refine ⟨?_, ?_, ?_⟩ <;> assumption)))
                    ((go_at_call 71; refine (ranges_less _ _ _ _ (ratV_isR HP.out) (ratV_isR HA.out) (by omega) (by omega) _ ?_).mono ?_; exact hw.below (hb02.trans ((OrdS.low (by assumption)).mono hb02.size)); rintro e w' ⟨rfl, hb3⟩; rw [← HLT.out]))
                  go_wp2
                  go_ret
                  exact ⟨ret_int (by rw [HE.out, HF.out]), hb02.trans ((OrdS.low (by assumption)).mono hb02.size)⟩
                · have HF := Lib.hid (KnSt.step HST.out hk HA.out HB.out (fun _ => HLT.out.symm))
                  go_wp2_with fail
                  generalize wr.alloc (Obj.cells #[.string L[k].1, .string L[k].2] 97) = wA at hba hpa ⊢
                  have hb0 := hbr.trans (hba.mono hbr.size)
                  refine (ranges_wrong L[k].1 (by omega) _ (hw.below hb0)).mono ?_
                  rintro e w1 ⟨rfl, hb1⟩
                  rw [HA.out]
                  have hb01 := hb0.trans (hb1.mono hb0.size)
                  have hp1 := hpa.below hb1
                  obtain ⟨p0, p1, p2⟩ := hp1
                  go_wp2_with fail
                  refine (ranges_wrong L[k].2 (by omega) _ (hw.below hb01)).mono ?_
                  rintro e w2 ⟨rfl, hb2⟩
                  rw [HB.out]
                  have hb02 := hb01.trans (hb2.mono hb01.size)
                  obtain ⟨q0, q1, q2⟩ := PartAt.below ⟨p0, p1, p2⟩ hb2
                  obtain ⟨m, hm'⟩ : ∃ m, m = k - 1 := ⟨_, rfl⟩
                  have d2 : w2.cell? ⟨b, off + m * 2, none⟩ = some (.string L[k - 1].1) := by rw [hm', hb02.cell (p := ⟨b, off + (k - 1) * 2, none⟩) hbl]; exact d0
                  obtain ⟨M, hM⟩ : ∃ M : Int, M = (m : Int) := ⟨_, rfl⟩
                  have i1 : IntKind.i64.wrap ((k : Int) - 1) = M := (IntWalk.i64_in _ (by omega)).trans (by omega)
                  have i2 : 0 ≤ M := by omega
                  have i3 : M.toNat = m := by omega
                  have i4 : M < (L.length : Int) := by omega
                  clear p0 p1 p2 d0 hM hm'
                  have b2 : b < w2.heap.size := Nat.lt_of_lt_of_le hbl hb02.size
                  go_wp2_with fail
                  go_region_held3 (fun W => W.cell? ⟨b, off + m * 2, none⟩ = some (.string L[k - 1].1) ∧ W.cell? ⟨wr.heap.size, 0, none⟩ = some (.string L[k].1) ∧ Below w2.heap.size w2 W)
                    (first | exact ord_drew d2 q1 | (refine ord_keep b2 q0 (by assumption) ?_; first | assumption | (go_split_ands; refine ⟨?_, ?_, ?_⟩ <;> assumption)))
                    ((go_at_call 71; refine (ranges_less _ _ _ _ (ratV_isR HP.out) (ratV_isR HA.out) (by omega) (by omega) _ ?_).mono ?_; exact hw.below (hb02.trans ((OrdS.low (by assumption)).mono hb02.size)); rintro e w' ⟨rfl, hb3⟩; rw [← HLT.out]))
                  go_wp2
                  refine ⟨⟨k + 1, HF.out, int_succ k, rfl, hb02.trans ((OrdS.low (by assumption)).mono hb02.size)⟩, ?_⟩
                  show L.length - ((k : Int) + 1).toNat < L.length - ((k : Int)).toNat
                  omega
              · have hg : decide (0 < (k : Int)) = false := decide_eq_false (by omega)
                have HF := Lib.hid (KnSt.step HST.out hk HA.out HB.out (fun h => absurd h hk0))
                go_wp2_with fail
                generalize wr.alloc (Obj.cells #[.string L[k].1, .string L[k].2] 97) = wA at hba hpa ⊢
                have hb0 := hbr.trans (hba.mono hbr.size)
                refine (ranges_wrong L[k].1 (by omega) _ (hw.below hb0)).mono ?_
                rintro e w1 ⟨rfl, hb1⟩
                rw [HA.out]
                have hb01 := hb0.trans (hb1.mono hb0.size)
                have hp1 := hpa.below hb1
                obtain ⟨p0, p1, p2⟩ := hp1
                go_wp2_with fail
                refine (ranges_wrong L[k].2 (by omega) _ (hw.below hb01)).mono ?_
                rintro e w2 ⟨rfl, hb2⟩
                rw [HB.out]
                have hb02 := hb01.trans (hb2.mono hb01.size)
                obtain ⟨q0, q1, q2⟩ := PartAt.below ⟨p0, p1, p2⟩ hb2
                go_wp2_with fail
                go_quiet (fail)
                go_wp2
                refine ⟨⟨k + 1, HF.out, int_succ k, rfl, hb02.trans ((below_drewN w2 _).mono hb02.size)⟩, ?_⟩
                show L.length - ((k : Int) + 1).toNat < L.length - ((k : Int)).toNat
                omega
        · have hkn : decide ((k : Int) < (L.length : Int)) = false := decide_eq_false (by omega)
          obtain rfl : k = L.length := by have := hst.1; omega
          have HF := Lib.hid (KnSt.done hst)
          clear hst
          go_wp2
          go_ret
          exact ⟨ret_int (by rw [HE.out, HF.out]), hbr⟩
noncomputable def atErr (L : List Pair) (x : ByteArray) : Int := if knotsErr L = 0 then (if ratB x.data.toList then 0 else 2) else knotsErr L
theorem ranges_checkAt (v : Value) (L : List Pair) (x : ByteArray) (w : World) (hw : Good w) (hv : Pairs w v L) (hsz : ∀ p ∈ L, p.1.size ≤ 1000000000 ∧ p.2.size ≤ 1000000000) (hx : x.size ≤ 4000000000) :
    Calls Tryz.prog 82 #[v, .string x] w fun e w' => e = .returned (.int .i64 (atErr L x)) ∧ Below w.heap.size w w' := by
  have hck := ranges_CheckKnots v L w hw hv hsz
  obtain ⟨p, c, rfl, hc, hm, hxx⟩ := hv
  clear hxx
  have HCK := Lib.hid hck
  clear hck hsz
  by_cases h0 : knotsErr L = 0
  · cases hr : ratB x.data.toList
    · have HE := Lib.hid (show atErr L x = 2 by unfold atErr; rw [if_pos h0, hr]; rfl)
      have HR := Lib.hid hr
      have H0 := Lib.hid h0
      clear hr h0
      go_enter Tryz.func82, Tryz.ntmps82
      go_wp2_with fail
      refine HCK.out.mono ?_
      rintro e w1 ⟨rfl, hb1⟩
      rw [H0.out]
      go_wp2_with fail
      refine (ranges_wrong x hx _ (hw.below hb1)).mono ?_
      rintro e w2 ⟨rfl, hb2⟩
      rw [HR.out]
      go_wp2
      go_ret
      exact ⟨ret_int HE.out.symm, hb1.trans (hb2.mono hb1.size)⟩
    · have HE := Lib.hid (show atErr L x = 0 by unfold atErr; rw [if_pos h0, hr]; rfl)
      have HR := Lib.hid hr
      have H0 := Lib.hid h0
      clear hr h0
      go_enter Tryz.func82, Tryz.ntmps82
      go_wp2_with fail
      refine HCK.out.mono ?_
      rintro e w1 ⟨rfl, hb1⟩
      rw [H0.out]
      go_wp2_with fail
      refine (ranges_wrong x hx _ (hw.below hb1)).mono ?_
      rintro e w2 ⟨rfl, hb2⟩
      rw [HR.out]
      go_wp2
      go_ret
      exact ⟨ret_int HE.out.symm, hb1.trans (hb2.mono hb1.size)⟩
  · have HE := Lib.hid (show atErr L x = knotsErr L by unfold atErr; rw [if_neg h0])
    have hne : (knotsErr L != 0) = true := by simpa using h0
    clear h0
    go_enter Tryz.func82, Tryz.ntmps82
    go_wp2_with fail
    refine HCK.out.mono ?_
    rintro e w1 ⟨rfl, hb1⟩
    generalize knotsErr L = ke at hne HE ⊢
    go_wp2
    go_ret
    exact ⟨ret_int HE.out.symm, hb1⟩
end Go.Proofs.YtbogpbjddaoeiaaGreatDoor
namespace Go.Proofs.YtbogpbjddaoeiaaGreatDoor
open Go.RowKit
open Go.Lib (decDigits itoa nDigits)
def AllOk (L : List Pair) : Prop := ∀ p ∈ L, ratB p.1.data.toList = true ∧ ratB p.2.data.toList = true
theorem AllOk.at {L : List Pair} (h : AllOk L) {i : Nat} (hi : i < L.length) : IsR L[i].1 (ratV L[i].1) ∧ IsR L[i].2 (ratV L[i].2) ∧ L[i].1.size ≤ 402 ∧ L[i].2.size ≤ 402 := by
  obtain ⟨h1, h2⟩ := h _ (List.getElem_mem hi)
  exact ⟨ratV_isR h1, ratV_isR h2, ratB_size h1, ratB_size h2⟩
/-- The number of leading knots that are not behind x. -/
noncomputable def segN : List Pair → Rat → Nat
  | [], _ => 0
  | p :: r, x => if x < ratV p.1 then 0 else segN r x + 1
theorem segN_le (L : List Pair) (x : Rat) : segN L x ≤ L.length := by
  induction L with
  | nil => simp [segN]
  | cons p r ih => unfold segN; split <;> simp <;> omega
def SegSt (L : List Pair) (x : Rat) (n : Nat) : Prop := n ≤ L.length ∧ segN L x = n + segN (L.drop n) x
theorem SegSt.stop {L : List Pair} {x : Rat} {n : Nat} (h : SegSt L x n) (hn : n < L.length) (hlt : decide (x < ratV L[n].1) = true) : segN L x = n := by
  rw [h.2, KnSt.drop hn, segN, if_pos (of_decide_eq_true hlt)]; rfl
theorem SegSt.step {L : List Pair} {x : Rat} {n : Nat} (h : SegSt L x n) (hn : n < L.length) (hlt : decide (x < ratV L[n].1) = false) : SegSt L x (n + 1) := by
  refine ⟨hn, ?_⟩
  rw [h.2, KnSt.drop hn, segN, if_neg (of_decide_eq_false hlt)]; omega
theorem SegSt.done {L : List Pair} {x : Rat} (h : SegSt L x L.length) : segN L x = L.length := by
  rw [h.2, List.drop_length]; rfl
set_option maxHeartbeats 2000000 in
theorem ranges_segment (v : Value) (L : List Pair) (x : ByteArray) (q : Rat) (hx : IsR x q) (hxs : x.size ≤ 1000000000) (w : World) (hw : Good w) (hv : Pairs w v L) (hok : AllOk L) (hl : L.length ≤ 1000000) :
    Calls Tryz.prog 87 #[v, .string x] w fun e w' => e = .returned (.int .i64 ((segN L q : Nat) : Int)) ∧ Below w.heap.size w w' := by
  have hv0 := hv
  obtain ⟨p, c, rfl, hc, hm, hxx⟩ := hv
  have HX := Lib.hid hx
  clear hx
  have hbw := Below.refl w.heap.size w
  go_enter Tryz.func87, Tryz.ntmps87
  go_wp2_with fail
  go_loopw [5] (fun nv wr => ∃ n : Nat, SegSt L q n ∧ nv = .int .i64 (n : Int) ∧ Below w.heap.size w wr) (fun nv _ => L.length - (intOf nv).toNat)
  case atStart => exact ⟨0, ⟨Nat.zero_le _, by simp⟩, rfl, hbw⟩
  case round =>
    obtain ⟨n, hst, rfl, hbr⟩ := hrel
    by_cases hn : n < L.length
    · obtain ⟨b, off, rfl, hbl, hcell⟩ := hxx (by omega)
      obtain ⟨c0, c1⟩ := hcell n hn
      rw [← hbr.cell (p := ⟨b, off + n * 2, none⟩) hbl] at c0
      obtain ⟨r1, r2, s1, s2⟩ := hok.at hn
      have HR1 := Lib.hid r1
      have hkn : decide ((n : Int) < (L.length : Int)) = true := decide_eq_true (by omega)
      have HST := Lib.hid hst
      obtain ⟨lt, hlt⟩ : ∃ lt : Bool, lt = decide (q < ratV L[n].1) := ⟨_, rfl⟩
      have HLT := Lib.hid hlt
      clear hst hlt r1 r2
      cases lt
      · go_wp2_with fail
        refine (ranges_less x L[n].1 _ _ HX.out HR1.out (by omega) (by omega) _ (hw.below hbr)).mono ?_
        rintro e w1 ⟨rfl, hb1⟩
        rw [← HLT.out]
        go_wp2
        refine ⟨⟨n + 1, HST.out.step hn HLT.out.symm, int_succ n, hbr.trans (hb1.mono hbr.size)⟩, ?_⟩
        show L.length - ((n : Int) + 1).toNat < L.length - ((n : Int)).toNat
        omega
      · have HF := Lib.hid (HST.out.stop hn HLT.out.symm)
        go_wp2_with fail
        refine (ranges_less x L[n].1 _ _ HX.out HR1.out (by omega) (by omega) _ (hw.below hbr)).mono ?_
        rintro e w1 ⟨rfl, hb1⟩
        rw [← HLT.out]
        go_wp2
        go_ret
        exact ⟨ret_int (by rw [HF.out]), hbr.trans (hb1.mono hbr.size)⟩
    · have hkn : decide ((n : Int) < (L.length : Int)) = false := decide_eq_false (by omega)
      obtain rfl : n = L.length := by have := hst.1; omega
      have HF := Lib.hid (SegSt.done hst)
      clear hst
      go_wp2
      go_ret
      exact ⟨ret_int (by rw [HF.out]), hbr⟩
theorem rlen_neg (q : Rat) : (rtext (-q)).length ≤ (rtext q).length + 1 := by
  by_cases h0 : q = 0
  · rw [h0, Rat.neg_zero]; omega
  · by_cases h1 : q < 0
    · rw [rtext_neg_tail h1]; simp; omega
    · rw [rtext_neg h0 h1]; simp
theorem isR_sub_size {s t r : ByteArray} {p q : Rat} (h : IsR s p) (k : IsR t q) (hr : IsR r (p - q)) : r.size ≤ 2 * (s.size + t.size) + 6 := by
  rw [h.size, k.size, hr.size, Rat.sub_eq_add_neg]
  have := rlen_add p (-q)
  have := rlen_neg q
  omega
theorem isR_div_size {s t r : ByteArray} {p q : Rat} (h : IsR s p) (k : IsR t q) (hr : IsR r (p * q⁻¹)) : r.size ≤ s.size + t.size + 8 := by
  have h1 := isR_inv_size k (show IsR ⟨(rtext q⁻¹).toArray⟩ q⁻¹ by unfold IsR; simp)
  have h2 := isR_mul_size h (show IsR ⟨(rtext q⁻¹).toArray⟩ q⁻¹ by unfold IsR; simp) hr
  omega
def Asc (L : List Pair) : Prop := ∀ i (_ : 0 < i) (h : i < L.length), ratV L[i - 1].1 < ratV L[i].1
noncomputable def atV (L : List Pair) (i : Nat) : Rat := match L[i]? with | some p => ratV p.1 | none => 0
noncomputable def valV (L : List Pair) (i : Nat) : Rat := match L[i]? with | some p => ratV p.2 | none => 0
theorem atV_eq {L : List Pair} {i : Nat} (h : i < L.length) : atV L i = ratV L[i].1 := by unfold atV; rw [List.getElem?_eq_getElem h]
theorem valV_eq {L : List Pair} {i : Nat} (h : i < L.length) : valV L i = ratV L[i].2 := by unfold valV; rw [List.getElem?_eq_getElem h]
noncomputable def slopeV (L : List Pair) (n : Nat) : Rat := if n = 0 ∨ n = L.length then 0 else (valV L n - valV L (n - 1)) * (atV L n - atV L (n - 1))⁻¹
theorem sub_ne_zero_of_lt {p q : Rat} (h : p < q) : q - p ≠ 0 := by
  intro h0
  have : q = p := by
    have := congrArg (· + p) h0
    simp only [Rat.sub_add_cancel, Rat.zero_add] at this
    exact this
  rw [this] at h
  exact Rat.lt_irrefl h
def FourS (w : World) (p1 p2 p3 p4 : Addr) (a1 a2 a3 a4 : Value) (W : World) : Prop := W.cell? p1 = some a1 ∧ W.cell? p2 = some a2 ∧ W.cell? p3 = some a3 ∧ W.cell? p4 = some a4 ∧ Below w.heap.size w W
theorem FourS.low {w W : World} {p1 p2 p3 p4 : Addr} {a1 a2 a3 a4 : Value} (h : FourS w p1 p2 p3 p4 a1 a2 a3 a4 W) : Below w.heap.size w W := h.2.2.2.2
theorem FourS.keep {w W W' : World} {p1 p2 p3 p4 : Addr} {a1 a2 a3 a4 : Value} (l1 : p1.block < w.heap.size) (l2 : p2.block < w.heap.size) (l3 : p3.block < w.heap.size) (l4 : p4.block < w.heap.size) (hb : Below W.heap.size W W') (h : FourS w p1 p2 p3 p4 a1 a2 a3 a4 W) : FourS w p1 p2 p3 p4 a1 a2 a3 a4 W' := by
  obtain ⟨h1, h2, h3, h4, h5⟩ := h
  refine ⟨?_, ?_, ?_, ?_, h5.trans (hb.mono h5.size)⟩
  · rw [hb.cell (Nat.lt_of_lt_of_le l1 h5.size)]; exact h1
  · rw [hb.cell (Nat.lt_of_lt_of_le l2 h5.size)]; exact h2
  · rw [hb.cell (Nat.lt_of_lt_of_le l3 h5.size)]; exact h3
  · rw [hb.cell (Nat.lt_of_lt_of_le l4 h5.size)]; exact h4
theorem FourS.drew {w : World} {p1 p2 p3 p4 : Addr} {a1 a2 a3 a4 : Value} (h1 : w.cell? p1 = some a1) (h2 : w.cell? p2 = some a2) (h3 : w.cell? p3 = some a3) (h4 : w.cell? p4 = some a4) : FourS w p1 p2 p3 p4 a1 a2 a3 a4 w.drew := ⟨h1, h2, h3, h4, rfl, rfl, rfl, Nat.le_refl _, fun _ _ => rfl⟩
def SlopePost (x : Rat) (w : World) (e : Ending) (w' : World) : Prop := ∃ r : ByteArray, e = .returned (.string r) ∧ IsR r x ∧ r.size ≤ 10000 ∧ Below w.heap.size w w'
set_option maxRecDepth 100000 in
set_option maxHeartbeats 4000000 in
theorem ranges_slope (v : Value) (L : List Pair) (n : Nat) (w : World) (hw : Good w) (hv : Pairs w v L) (hok : AllOk L) (hasc : Asc L) (hl : L.length ≤ 1000000) (hn : n ≤ L.length) :
    Calls Tryz.prog 88 #[v, .int .i64 (n : Int)] w (SlopePost (slopeV L n) w) := by
  obtain ⟨p, c, rfl, hc, hm, hxx⟩ := hv
  have hbw := Below.refl w.heap.size w
  by_cases h0 : n = 0
  · subst h0
    have HF := Lib.hid (show slopeV L 0 = 0 by unfold slopeV; rw [if_pos (.inl rfl)])
    go_enter Tryz.func88, Tryz.ntmps88
    go_wp2
    go_ret
    exact ⟨_, rfl, by rw [HF.out]; exact isR_zero, by decide, hbw⟩
  · by_cases h1 : n = L.length
    · have HF := Lib.hid (show slopeV L n = 0 by unfold slopeV; rw [if_pos (.inr h1)])
      have e1 : ((n : Int) == 0) = false := beq_eq_false_iff_ne.2 (by omega)
      have e2 : ((n : Int) == (L.length : Int)) = true := beq_iff_eq.2 (by omega)
      clear h1 hxx
      generalize L.length = ll at e2 hc hl hn ⊢
      go_enter Tryz.func88, Tryz.ntmps88
      go_wp2
      go_ret
      exact ⟨_, rfl, by rw [HF.out]; exact isR_zero, by decide, hbw⟩
    · have HF := Lib.hid (show slopeV L n = (valV L n - valV L (n - 1)) * (atV L n - atV L (n - 1))⁻¹ by unfold slopeV; rw [if_neg (by omega)])
      have e0 : True := trivial
      have e1 : ((n : Int) == 0) = false := beq_eq_false_iff_ne.2 (by omega)
      have e2 : ((n : Int) == (L.length : Int)) = false := beq_eq_false_iff_ne.2 (by omega)
      have hn1 : n < L.length := by omega
      have hn2 : n - 1 < L.length := by omega
      obtain ⟨b, off, rfl, hbl, hcell⟩ := hxx (by omega)
      obtain ⟨c0, c1⟩ := hcell n hn1
      obtain ⟨d0, d1⟩ := hcell (n - 1) hn2
      obtain ⟨x1, x2, s1, s2⟩ := hok.at hn1
      obtain ⟨y1, y2, t1, t2⟩ := hok.at hn2
      have hne : ratV L[n].1 - ratV L[n - 1].1 ≠ 0 := sub_ne_zero_of_lt (hasc n (by omega) hn1)
      have X1 := Lib.hid x1
      have X2 := Lib.hid x2
      have Y1 := Lib.hid y1
      have Y2 := Lib.hid y2
      have HNE := Lib.hid hne
      have HV1 := Lib.hid (valV_eq hn1)
      have HV2 := Lib.hid (valV_eq hn2)
      have HA1 := Lib.hid (atV_eq hn1)
      have HA2 := Lib.hid (atV_eq hn2)
      have hq1 : n < 1000000 := by omega
      have hq2 : (n : Int) < (L.length : Int) := by omega
      have hcl : L.length ≤ c := hc
      clear x1 x2 y1 y2 hne hcell hxx hasc hok
      generalize L[n] = A at *
      generalize L[n - 1] = B at *
      obtain ⟨m, hm1⟩ : ∃ m, m = n - 1 := ⟨_, rfl⟩
      rw [← hm1] at d0 d1 hn2
      obtain ⟨N, hN⟩ : ∃ N : Int, N = (n : Int) := ⟨_, rfl⟩
      obtain ⟨M, hM⟩ : ∃ M : Int, M = (m : Int) := ⟨_, rfl⟩
      rw [← hN] at e1 e2 ⊢
      have i1 : IntKind.i64.wrap (N - 1) = M := (IntWalk.i64_in _ (by omega)).trans (by omega)
      have i2 : (0 : Int) ≤ M := by omega
      have i3 : M.toNat = m := by omega
      have i4 : M < (L.length : Int) := by omega
      have i5 : (0 : Int) ≤ N := by omega
      have i6 : N.toNat = n := by omega
      have i7 : N < (L.length : Int) := by omega
      clear hm1 hN hM hq1 hq2 hn hn1 hn2 h0 h1 e0
      go_enter Tryz.func88, Tryz.ntmps88
      go_wp2_with fail
      go_region_held3 (fun W => W.cell? ⟨b, off + n * 2, none⟩ = some (.string A.1) ∧ W.cell? ⟨b, off + n * 2 + 1, none⟩ = some (.string A.2) ∧ W.cell? ⟨b, off + m * 2, none⟩ = some (.string B.1) ∧ W.cell? ⟨b, off + m * 2 + 1, none⟩ = some (.string B.2) ∧ Below w.heap.size w W)
        (first | exact FourS.drew c0 c1 d0 d1 | (refine FourS.keep hbl hbl hbl hbl (by assumption) ?_; first | assumption | (go_split_ands; refine ⟨?_, ?_, ?_, ?_, ?_⟩ <;> assumption)))
        (first
          | (go_at_call 58; refine (rational_Sub A.2 B.2 _ _ X2.out Y2.out (by omega) (by omega) _ ?_).mono ?_; exact hw.below (FourS.low (by assumption)); rintro e w' ⟨r1, rfl, hr1, hb1⟩)
          | (go_at_call 58; refine (rational_Sub A.1 B.1 _ _ X1.out Y1.out (by omega) (by omega) _ ?_).mono ?_; exact hw.below (FourS.low (by assumption)); rintro e w' ⟨r2, rfl, hr2, hb2⟩)
          | (go_at_call 84; refine (rational_Div r1 r2 _ _ hr1 hr2 HNE.out (by have := isR_sub_size X2.out Y2.out hr1; omega) (by have := isR_sub_size X1.out Y1.out hr2; omega) _ ?_).mono ?_; exact hw.below (FourS.low (by assumption)); rintro e w' ⟨r3, rfl, hr3, hb3⟩))
      go_wp2
      go_ret
      have q1 := isR_sub_size X2.out Y2.out hr1
      have q2 := isR_sub_size X1.out Y1.out hr2
      have q3 := isR_div_size hr1 hr2 hr3
      exact ⟨_, rfl, by rw [HF.out, HV1.out, HV2.out, HA1.out, HA2.out]; exact hr3, by omega, FourS.low (by assumption)⟩
noncomputable def valueV (L : List Pair) (q : Rat) : Rat := if segN L q = 0 then valV L 0 else valV L (segN L q - 1) + slopeV L (segN L q) * (q - atV L (segN L q - 1))
def ValuePost (x : Rat) (k : Nat) (w : World) (e : Ending) (w' : World) : Prop := ∃ r : ByteArray, e = .returned (.string r) ∧ IsR r x ∧ r.size ≤ k ∧ Below w.heap.size w w'
set_option maxRecDepth 100000 in
set_option maxHeartbeats 4000000 in
theorem ranges_value (v : Value) (L : List Pair) (x : ByteArray) (q : Rat) (hx : IsR x q) (hxs : x.size ≤ 1000000) (w : World) (hw : Good w) (hv : Pairs w v L) (hok : AllOk L) (hasc : Asc L) (hl : L.length ≤ 1000000) (hl0 : 0 < L.length) :
    Calls Tryz.prog 74 #[v, .string x] w (ValuePost (valueV L q) (4 * x.size + 30000) w) := by
  have hseg := ranges_segment v L x q hx (by omega) w hw hv hok hl
  have hv0 := hv
  obtain ⟨p, c, rfl, hc, hm, hxx⟩ := hv
  obtain ⟨b, off, rfl, hbl, hcell⟩ := hxx (by omega)
  have hbw := Below.refl w.heap.size w
  have HSEG := Lib.hid hseg
  have HX := Lib.hid hx
  clear hx hxx hseg
  have hnl := segN_le L q
  by_cases h0 : segN L q = 0
  · have HF := Lib.hid (show valueV L q = valV L 0 by unfold valueV; rw [if_pos h0])
    have H0 := Lib.hid h0
    obtain ⟨c0, c1⟩ := hcell 0 hl0
    obtain ⟨x1, x2, s1, s2⟩ := hok.at hl0
    have X2 := Lib.hid x2
    have HV := Lib.hid (valV_eq hl0)
    have i1 : (0 : Int) < (L.length : Int) := by omega
    have c1' : w.cell? ⟨b, off + 1, none⟩ = some (.string L[0].2) := by simpa using c1
    clear x1 x2 h0 hnl hcell hok hasc c0 c1
    generalize L[0] = A at *
    go_enter Tryz.func74, Tryz.ntmps74
    go_wp2_with fail
    refine HSEG.out.mono ?_
    rintro e w1 ⟨rfl, hb1⟩
    rw [H0.out]
    rw [← hb1.cell (p := ⟨b, off + 1, none⟩) hbl] at c1'
    go_wp2
    go_ret
    exact ⟨_, rfl, by rw [HF.out, HV.out]; exact X2.out, by omega, hb1⟩
  · have HF := Lib.hid (show valueV L q = valV L (segN L q - 1) + slopeV L (segN L q) * (q - atV L (segN L q - 1)) by unfold valueV; rw [if_neg h0])
    have hsl := fun w' (hb : Below w.heap.size w w') => ranges_slope (.slice (some ⟨b, off, none⟩) L.length c) L (segN L q) w' (hw.below hb) (hv0.below hb) hok hasc hl hnl
    have HSL := Lib.hid hsl
    clear hsl
    have hn2 : segN L q - 1 < L.length := by omega
    obtain ⟨d0, d1⟩ := hcell _ hn2
    obtain ⟨y1, y2, t1, t2⟩ := hok.at hn2
    have Y1 := Lib.hid y1
    have Y2 := Lib.hid y2
    have HV := Lib.hid (valV_eq hn2)
    have HA := Lib.hid (atV_eq hn2)
    generalize hn : segN L q = n at *
    clear hn
    clear y1 y2 hcell hok hasc
    generalize L[n - 1] = B at *
    obtain ⟨m, hm1⟩ : ∃ m, m = n - 1 := ⟨_, rfl⟩
    rw [← hm1] at d0 d1 hn2
    obtain ⟨N, hN⟩ : ∃ N : Int, N = (n : Int) := ⟨_, rfl⟩
    obtain ⟨M, hM⟩ : ∃ M : Int, M = (m : Int) := ⟨_, rfl⟩
    rw [← hN] at HSEG HSL
    have e1 : (N == 0) = false := beq_eq_false_iff_ne.2 (by omega)
    have i1 : IntKind.i64.wrap (N - 1) = M := (IntWalk.i64_in _ (by omega)).trans (by omega)
    have i2 : (0 : Int) ≤ M := by omega
    have i3 : M.toNat = m := by omega
    have i4 : M < (L.length : Int) := by omega
    clear hm1 hN hM hn2 h0 hnl
    go_enter Tryz.func74, Tryz.ntmps74
    go_wp2_with fail
    refine HSEG.out.mono ?_
    rintro e w1 ⟨rfl, hb1⟩
    have hbl1 : b < w1.heap.size := Nat.lt_of_lt_of_le hbl hb1.size
    rw [← hb1.cell (p := ⟨b, off + m * 2, none⟩) hbl] at d0
    rw [← hb1.cell (p := ⟨b, off + m * 2 + 1, none⟩) hbl] at d1
    go_wp2_with fail
    go_region_held3 (fun W => W.cell? ⟨b, off + m * 2, none⟩ = some (.string B.1) ∧ W.cell? ⟨b, off + m * 2 + 1, none⟩ = some (.string B.2) ∧ Below w1.heap.size w1 W)
      (first | exact ord_drew d0 d1 | (refine ord_keep hbl1 hbl1 (by assumption) ?_; first | assumption | (go_split_ands; refine ⟨?_, ?_, ?_⟩ <;> assumption)))
      (first
        | (go_at_call 88; refine (HSL.out _ ?_).mono ?_; exact hb1.trans ((OrdS.low (by assumption)).mono hb1.size); rintro e w' ⟨r1, rfl, hr1, hr1s, hb2⟩)
        | (go_at_call 58; refine (rational_Sub x B.1 _ _ HX.out Y1.out (by omega) (by omega) _ ?_).mono ?_; exact hw.below (hb1.trans ((OrdS.low (by assumption)).mono hb1.size)); rintro e w' ⟨r2, rfl, hr2, hb3⟩)
        | (go_at_call 75; refine (rational_Mul r1 r2 _ _ hr1 hr2 (by omega) (by have := isR_sub_size HX.out Y1.out hr2; omega) _ ?_).mono ?_; exact hw.below (hb1.trans ((OrdS.low (by assumption)).mono hb1.size)); rintro e w' ⟨r3, rfl, hr3, hb4⟩)
        | (go_at_call 56; refine (rational_Add B.2 r3 _ _ Y2.out hr3 (by omega) (by have := isR_sub_size HX.out Y1.out hr2; have := isR_mul_size hr1 hr2 hr3; omega) _ ?_).mono ?_; exact hw.below (hb1.trans ((OrdS.low (by assumption)).mono hb1.size)); rintro e w' ⟨r4, rfl, hr4, hb5⟩))
    go_wp2
    go_ret
    have q1 := isR_sub_size HX.out Y1.out hr2
    have q2 := isR_mul_size hr1 hr2 hr3
    have q3 := isR_add_size Y2.out hr3 hr4
    exact ⟨_, rfl, by rw [HF.out, HV.out, HA.out]; exact hr4, by omega, hb1.trans ((OrdS.low (by assumption)).mono hb1.size)⟩
end Go.Proofs.YtbogpbjddaoeiaaGreatDoor
namespace Go.Proofs.YtbogpbjddaoeiaaGreatDoor
open Go.RowKit Go.Shelf
open Go.Lib (decDigits itoa nDigits)
attribute [local go_sem] Oper.semAt_some
/-- an interval with right ends -/
abbrev RP := { p : Pair // ratB p.1.data.toList = true ∧ ratB p.2.data.toList = true }
open Classical in
/-- the intervals that steps yields from f on -/
noncomputable def stepsP (hi : ByteArray) : ByteArray → List Pair → List Pair
  | f, [] => [(f, hi)]
  | f, k :: r => if ratV f < ratV k.1 then (if ratV k.1 < ratV hi then (f, k.1) :: stepsP hi k.1 r else [(f, hi)]) else stepsP hi f r
theorem stepsP_skip {hi f : ByteArray} {L : List Pair} {k : Nat} (hk : k < L.length) (h : false = decide (ratV f < ratV L[k].1)) : stepsP hi f (L.drop k) = stepsP hi f (L.drop (k + 1)) := by
  rw [KnSt.drop hk, stepsP, if_neg (of_decide_eq_false h.symm)]
theorem stepsP_stop {hi f : ByteArray} {L : List Pair} {k : Nat} (hk : k < L.length) (h : true = decide (ratV f < ratV L[k].1)) (h2 : false = decide (ratV L[k].1 < ratV hi)) : stepsP hi f (L.drop k) = [(f, hi)] := by
  rw [KnSt.drop hk, stepsP, if_pos (of_decide_eq_true h.symm), if_neg (of_decide_eq_false h2.symm)]
theorem stepsP_go {hi f : ByteArray} {L : List Pair} {k : Nat} (hk : k < L.length) (h : true = decide (ratV f < ratV L[k].1)) (h2 : true = decide (ratV L[k].1 < ratV hi)) : stepsP hi f (L.drop k) = (f, L[k].1) :: stepsP hi L[k].1 (L.drop (k + 1)) := by
  rw [KnSt.drop hk, stepsP, if_pos (of_decide_eq_true h.symm), if_pos (of_decide_eq_true h2.symm)]
/-- what a round must keep: the blocks below n₀, the iterator's two boxes, and all cells of a knot -/
def KeepC (n₀ B1 B2 : Nat) (W W' : World) : Prop := Below n₀ W W' ∧ (∀ k, (k = B1 ∨ k = B2) → W'.heap[k]? = W.heap[k]?) ∧ ∀ (k : Nat) (c : Array Value) (fz : Nat × Nat), W.heap[k]? = some (Obj.cells c 97 fz) → W'.heap[k]? = some (Obj.cells c 97 fz)
theorem KeepC.refl (n₀ B1 B2 : Nat) (W : World) : KeepC n₀ B1 B2 W W := ⟨Below.refl _ _, fun _ _ => rfl, fun _ _ _ h => h⟩
theorem KeepC.trans {n₀ B1 B2 : Nat} {A B C : World} (h : KeepC n₀ B1 B2 A B) (k : KeepC n₀ B1 B2 B C) : KeepC n₀ B1 B2 A C := ⟨h.1.trans k.1, fun i hi => (k.2.1 i hi).trans (h.2.1 i hi), fun i c fz hi => k.2.2 i c fz (h.2.2 i c fz hi)⟩
theorem KeepC.cell {n₀ B1 B2 : Nat} {A B : World} (h : KeepC n₀ B1 B2 A B) {a : Addr} (ha : a.block < n₀ ∨ a.block = B1 ∨ a.block = B2) : B.cell? a = A.cell? a := by
  rcases ha with ha | ha
  · exact World.cell?_of_block (h.1.block a.block ha)
  · exact World.cell?_of_block (h.2.1 a.block ha)
theorem lt_of_some {W : World} {k : Nat} {o : Obj} (h : W.heap[k]? = some o) : k < W.heap.size := (Array.getElem?_eq_some_iff.1 h).1
theorem KeepC.put {n₀ B1 B2 : Nat} {w : World} (h1 : n₀ ≤ w.heap.size) (h2 : B1 < w.heap.size) (h3 : B2 < w.heap.size) (W : World) (l : Nat) (o o' : Obj) (hl : w.heap.size ≤ l) (ho : W.heap[l]? = some o) (hc : o.isCells = false) (hwk : o.isWalk = false) : KeepC n₀ B1 B2 W (W.putObj l o') := by
  refine ⟨belowK_b h1 W l o o' hl ho hc hwk, fun k hk => ?_, fun k c fz hk => ?_⟩
  · simp only [World.putObj]
    rw [Array.getElem?_setIfInBounds, if_neg (by omega)]
  · simp only [World.putObj]
    rw [Array.getElem?_setIfInBounds, if_neg, hk]
    intro e
    subst e
    rw [hk] at ho
    cases ho
    simp [Obj.isCells] at hc
theorem KeepC.of_below {n₀ B1 B2 : Nat} {W W' : World} (h : Below W.heap.size W W') (h1 : n₀ ≤ W.heap.size) (h2 : B1 < W.heap.size) (h3 : B2 < W.heap.size) : KeepC n₀ B1 B2 W W' :=
  ⟨h.mono h1, fun k hk => h.block k (by omega), fun k c fz hk => (h.block k (lt_of_some hk)).trans hk⟩
theorem abides_below {β : Type} {B : Nat} {J : β → World → Prop} (h : AbidesFrom B J) {s : β} {W W' : World} (hs : J s W) (hb : Below W.heap.size W W') : J s W' :=
  h s W W' none hs ⟨hb.os, hb.tape, hb.output, hb.size, fun k hk _ => hb.block k hk⟩ (fun r e => by cases e)
theorem steps_in (n : Nat) (a : Option Addr) (len cap : Nat) (lo hi : ByteArray) (w : World) :
    CallsIn Fence.wide n Tryz.prog 73 #[.slice a len cap, .agg #[.string lo, .string hi]] w fun e w' => e = .returned (.func (.func 130) #[] #[.pointer (some ⟨w.heap.size + 1, 0, none⟩), .pointer (some ⟨w.heap.size, 0, none⟩)]) ∧ w' = (w.alloc (.cells #[.slice a len cap] 51)).alloc (.cells #[.string lo, .string hi] 33) := by
  refine callsIn_of_wp Tryz.func73 rfl trivial ?_ rfl
  simp only [Tryz.ntmps73, List.size_toArray, List.length_cons, List.length_nil, Nat.reduceAdd, Nat.reduceSub, Array.replicate_succ, Array.replicate_zero, List.push_toArray, List.append_toArray, List.nil_append, List.cons_append]
  gi_wp2
  go_ret
  exact ⟨rfl, rfl⟩
def StSt (L : List Pair) (lo hi : ByteArray) (J : List RP → World → Prop) (n₀ Bw Bf : Nat) (W : World) (k : Nat) (f : ByteArray) (pre : List RP) (wr : World) : Prop :=
  k ≤ L.length ∧ ratB f.data.toList = true ∧ pre.length ≤ k ∧ pre.map (·.1) ++ stepsP hi f (L.drop k) = stepsP hi lo L ∧ J pre wr ∧ KeepC n₀ Bw Bf W wr
set_option maxRecDepth 100000 in
set_option maxHeartbeats 4000000 in
theorem steps1_in (n : Nat) (_hn : 1 ≤ n) (l Bw Bf n₀ : Nat) (sv : Value) (lo hi : ByteArray) (L : List Pair) (hlo : ratB lo.data.toList = true) (hhi : ratB hi.data.toList = true) (hok : AllOk L) (hlen : L.length ≤ 1000000) (J Jx : List RP → World → Prop) (w0 : World) (hg0 : Good w0)
    (W : World) (hbW : Below w0.heap.size w0 W) (hJ : AbidesFrom W.heap.size J)
    (hY : ∀ pre (x : RP) W, J pre W → pre.length < L.length + 1 → YieldAt Fence.wide (n - 1) Tryz.prog l #[.agg #[.string x.1.1, .string x.1.2]] W fun e W' =>
      (e = .returned (.bool true) ∧ J (pre ++ [x]) W' ∧ KeepC n₀ Bw Bf W W') ∨ (e = .returned (.bool false) ∧ Jx (pre ++ [x]) W'))
    (hn0 : n₀ ≤ w0.heap.size) (hn1 : 6 ≤ n₀) (hbw1 : Bw < w0.heap.size) (hbf1 : Bf < w0.heap.size) (hB1 : W.cell? ⟨Bw, 0, none⟩ = some (.string lo)) (hB2 : W.cell? ⟨Bw, 1, none⟩ = some (.string hi)) (hBf : W.cell? ⟨Bf, 0, none⟩ = some sv) (hfr : ∀ a k c, sv = .slice (some a) k c → a.block < n₀) (hI : Pairs W sv L) (h0 : J [] W) :
    CallsIn Fence.wide n Tryz.prog 130 #[.func (.yield l) #[] #[], .pointer (some ⟨Bw, 0, none⟩), .pointer (some ⟨Bf, 0, none⟩)] W fun e W' => (∃ v, e = .returned v) ∧
      ((∃ ys : List RP, ys.map (·.1) = stepsP hi lo L ∧ J ys W') ∨ (∃ pre : List RP, True ∧ Jx pre W')) := by
  obtain ⟨p, c, rfl, hc, hm, hxx⟩ := hI
  have hst0 : StSt L lo hi J n₀ Bw Bf W 0 lo [] W := ⟨Nat.zero_le _, hlo, Nat.le_refl _, by simp, h0, KeepC.refl _ _ _ _⟩
  have HHI := Lib.hid hhi
  have HJ := Lib.hid hJ
  clear h0 hJ hlo hhi
  refine callsIn_of_wp Tryz.func130 rfl trivial ?_ rfl
  simp only [Tryz.ntmps130, List.size_toArray, List.length_cons, List.length_nil, Nat.reduceAdd, Nat.reduceSub, Array.replicate_succ, Array.replicate_zero, List.push_toArray, List.append_toArray, List.nil_append, List.cons_append]
  gi_wp2
  gi_loopw [4, 6, 11] (fun fv kv iv wr => ∃ (k : Nat) (f : ByteArray) (pre : List RP), fv = .string f ∧ iv = .int .i64 (k : Int) ∧ StSt L lo hi J n₀ Bw Bf W k f pre wr)
    (fun _ _ iv _ => L.length - (intOf iv).toNat)
  case atStart => exact ⟨0, lo, [], rfl, rfl, hst0⟩
  case round =>
    obtain ⟨k, f, pre, rfl, rfl, hst⟩ := hrel
    obtain ⟨hk, hrf, hpl, hmap, hJs, hnx⟩ := hst
    have hszw := hbW.size
    have hszr := hnx.1.size
    have hcw1 := (hnx.cell (a := ⟨Bw, 0, none⟩) (.inr (.inl rfl))).trans hB1
    have hcw2 := (hnx.cell (a := ⟨Bw, 1, none⟩) (.inr (.inl rfl))).trans hB2
    have HMAP := Lib.hid hmap
    have HRF := Lib.hid hrf
    have HNX := Lib.hid hnx
    have hfs := ratB_size hrf
    have hhs := ratB_size HHI.out
    have hgr : Good wr := hg0.mono ((hbW.mono hn0).trans hnx.1) hn1
    clear hmap hrf
    by_cases hkl : k < L.length
    · obtain ⟨b, off, rfl, hbl, hcell⟩ := hxx (by omega)
      have hbn : b < n₀ := hfr _ _ _ rfl
      obtain ⟨c0, c1⟩ := hcell k hkl
      replace c0 := (hnx.cell (a := ⟨b, off + k * 2, none⟩) (.inl hbn)).trans c0
      replace c1 := (hnx.cell (a := ⟨b, off + k * 2 + 1, none⟩) (.inl hbn)).trans c1
      obtain ⟨x1, x2, s1, s2⟩ := hok.at hkl
      have X1 := Lib.hid x1
      have HOK := Lib.hid (hok _ (List.getElem_mem hkl)).1
      have hkn : decide ((k : Int) < (L.length : Int)) = true := decide_eq_true (by omega)
      obtain ⟨wA, hwA⟩ : ∃ wA, wA = wr.alloc (Obj.cells #[.string L[k].1, .string L[k].2] 97) := ⟨_, rfl⟩
      have hkb : wA.heap[wr.heap.size]? = some (.cells #[.string L[k].1, .string L[k].2] 97 (0, 0)) := by rw [hwA]; exact World.alloc_heap_new _ _
      have hrA : Below wr.heap.size wr wA := by rw [hwA]; exact alloc_below _ _
      have hgA : Good wA := hgr.below hrA
      have hcw2A : wA.cell? ⟨Bw, 1, none⟩ = some (.string hi) := (hrA.cell (by simp; omega)).trans hcw2
      have hwAs : wA.heap.size = wr.heap.size + 1 := by rw [hwA]; simp
      clear hcell x1 x2 hnx
      obtain ⟨lt, hlt⟩ : ∃ lt : Bool, lt = decide (ratV f < ratV L[k].1) := ⟨_, rfl⟩
      have HLT := Lib.hid hlt
      clear hlt
      cases lt
      · have HEQ := Lib.hid (stepsP_skip (hi := hi) hkl HLT.out)
        gi_wp2
        refine ⟨trivial, ?_⟩
        rw [← hwA]
        refine (callsIn_wide.2 (ranges_less f L[k].1 _ _ (ratV_isR HRF.out) X1.out (by omega) (by omega) _ hgA)).mono ?_
        rintro e w1 ⟨rfl, hb1⟩
        have hg1 := hgA.below hb1
        have hcw21 : w1.cell? ⟨Bw, 1, none⟩ = some (.string hi) := (hb1.cell (by simp; omega)).trans hcw2A
        have hkb1 := (hb1.block _ (lt_of_some hkb)).trans hkb
        have hkc1 : w1.cell? ⟨wr.heap.size, 0, none⟩ = some (.string L[k].1) := by simp [World.cell?, hkb1]
        have hrw1 : Below wr.heap.size wr w1 := hrA.trans (hb1.mono hrA.size)
        rw [← HLT.out]
        have hJ2 : J pre w1 := abides_below (W := wr) (B := wr.heap.size) (fun s A B row hs hg hr => HJ.out s A B row hs hg (fun r e => ⟨Nat.le_trans hszr (hr r e).1, (hr r e).2⟩)) hJs hrw1
        have hK2 : KeepC n₀ Bw Bf W w1 := HNX.out.trans (KeepC.of_below hrw1 (by omega) (by omega) (by omega))
        gi_wp2
        go_roundw
        case rel => exact ⟨k + 1, f, pre, rfl, int_succ k, hkl, HRF.out, by omega, by rw [← HEQ.out]; exact HMAP.out, hJ2, hK2⟩
        case measure => show L.length - ((k : Int) + 1).toNat < L.length - ((k : Int)).toNat; omega
      · obtain ⟨lt2, hlt2⟩ : ∃ lt : Bool, lt = decide (ratV L[k].1 < ratV hi) := ⟨_, rfl⟩
        have HLT2 := Lib.hid hlt2
        clear hlt2
        cases lt2
        · have HEQ := Lib.hid (stepsP_stop (hi := hi) hkl HLT.out HLT2.out)
          gi_wp2
          refine ⟨trivial, ?_⟩
          rw [← hwA]
          refine (callsIn_wide.2 (ranges_less f L[k].1 _ _ (ratV_isR HRF.out) X1.out (by omega) (by omega) _ hgA)).mono ?_
          rintro e w1 ⟨rfl, hb1⟩
          have hg1 := hgA.below hb1
          have hcw21 : w1.cell? ⟨Bw, 1, none⟩ = some (.string hi) := (hb1.cell (by simp; omega)).trans hcw2A
          have hkb1 := (hb1.block _ (lt_of_some hkb)).trans hkb
          have hkc1 : w1.cell? ⟨wr.heap.size, 0, none⟩ = some (.string L[k].1) := by simp [World.cell?, hkb1]
          have hrw1 : Below wr.heap.size wr w1 := hrA.trans (hb1.mono hrA.size)
          rw [← HLT.out]
          gi_wp2
          refine ⟨trivial, ?_⟩
          refine (callsIn_wide.2 (ranges_less L[k].1 hi _ _ X1.out (ratV_isR HHI.out) (by omega) (by omega) _ hg1)).mono ?_
          rintro e w2 ⟨rfl, hb2⟩
          have hkb2 := (hb2.block _ (lt_of_some hkb1)).trans hkb1
          have hkc2 : w2.cell? ⟨wr.heap.size, 0, none⟩ = some (.string L[k].1) := by simp [World.cell?, hkb2]
          have hcw22 : w2.cell? ⟨Bw, 1, none⟩ = some (.string hi) := (hb2.cell (by simp; have := hb1.size; have := hrA.size; omega)).trans hcw21
          have hrw2 : Below wr.heap.size wr w2 := hrw1.trans (hb2.mono hrw1.size)
          have hJ2 : J pre w2 := abides_below (W := wr) (B := wr.heap.size) (fun s A B row hs hg hr => HJ.out s A B row hs hg (fun r e => ⟨Nat.le_trans hszr (hr r e).1, (hr r e).2⟩)) hJs hrw2
          have hK2 : KeepC n₀ Bw Bf W w2 := HNX.out.trans (KeepC.of_below hrw2 (by omega) (by omega) (by omega))
          rw [← HLT2.out]
          obtain ⟨fn, tmps, assign, body, hy, hR⟩ := hY pre ⟨(f, hi), HRF.out, HHI.out⟩ w2 hJ2 (by omega)
          dsimp only at hy
          have HEND := Lib.hid (show (pre ++ [(⟨(f, hi), HRF.out, HHI.out⟩ : RP)]).map (·.1) = stepsP hi lo L by rw [← HMAP.out, HEQ.out]; simp)
          clear hJs
          gi_wp2
          refine hR.mono ?_
          rintro e W9 (⟨rfl, hJ9, hk9⟩ | ⟨rfl, hJx9⟩)
          · gi_wp2
            go_end0
            exact ⟨⟨_, rfl⟩, .inl ⟨_, HEND.out, hJ9⟩⟩
          · gi_wp2
            go_end0
            exact ⟨⟨_, rfl⟩, .inr ⟨_, trivial, hJx9⟩⟩
        · have HEQ := Lib.hid (stepsP_go (hi := hi) hkl HLT.out HLT2.out)
          gi_wp2
          refine ⟨trivial, ?_⟩
          rw [← hwA]
          refine (callsIn_wide.2 (ranges_less f L[k].1 _ _ (ratV_isR HRF.out) X1.out (by omega) (by omega) _ hgA)).mono ?_
          rintro e w1 ⟨rfl, hb1⟩
          have hg1 := hgA.below hb1
          have hcw21 : w1.cell? ⟨Bw, 1, none⟩ = some (.string hi) := (hb1.cell (by simp; omega)).trans hcw2A
          have hkb1 := (hb1.block _ (lt_of_some hkb)).trans hkb
          have hkc1 : w1.cell? ⟨wr.heap.size, 0, none⟩ = some (.string L[k].1) := by simp [World.cell?, hkb1]
          have hrw1 : Below wr.heap.size wr w1 := hrA.trans (hb1.mono hrA.size)
          rw [← HLT.out]
          gi_wp2
          refine ⟨trivial, ?_⟩
          refine (callsIn_wide.2 (ranges_less L[k].1 hi _ _ X1.out (ratV_isR HHI.out) (by omega) (by omega) _ hg1)).mono ?_
          rintro e w2 ⟨rfl, hb2⟩
          have hkb2 := (hb2.block _ (lt_of_some hkb1)).trans hkb1
          have hkc2 : w2.cell? ⟨wr.heap.size, 0, none⟩ = some (.string L[k].1) := by simp [World.cell?, hkb2]
          have hcw22 : w2.cell? ⟨Bw, 1, none⟩ = some (.string hi) := (hb2.cell (by simp; have := hb1.size; have := hrA.size; omega)).trans hcw21
          have hrw2 : Below wr.heap.size wr w2 := hrw1.trans (hb2.mono hrw1.size)
          have hJ2 : J pre w2 := abides_below (W := wr) (B := wr.heap.size) (fun s A B row hs hg hr => HJ.out s A B row hs hg (fun r e => ⟨Nat.le_trans hszr (hr r e).1, (hr r e).2⟩)) hJs hrw2
          have hK2 : KeepC n₀ Bw Bf W w2 := HNX.out.trans (KeepC.of_below hrw2 (by omega) (by omega) (by omega))
          rw [← HLT2.out]
          obtain ⟨fn, tmps, assign, body, hy, hR⟩ := hY pre ⟨(f, L[k].1), HRF.out, HOK.out⟩ w2 hJ2 (by omega)
          dsimp only at hy
          clear hJs
          gi_wp2
          refine hR.mono ?_
          rintro e W9 (⟨rfl, hJ9, hk9⟩ | ⟨rfl, hJx9⟩)
          · have hkb9 := hk9.2.2 _ _ _ hkb2
            have hkc9 : W9.cell? ⟨wr.heap.size, 0, none⟩ = some (.string L[k].1) := by simp [World.cell?, hkb9]
            gi_wp2
            go_roundw
            case rel => exact ⟨k + 1, L[k].1, _, rfl, int_succ k, hkl, HOK.out, by simp; omega, by rw [← HMAP.out, HEQ.out]; simp, hJ9, hK2.trans hk9⟩
            case measure => show L.length - ((k : Int) + 1).toNat < L.length - ((k : Int)).toNat; omega
          · gi_wp2
            refine bodyPost_ret (results_none rfl _ _ _) rfl ?_
            exact ⟨⟨_, rfl⟩, .inr ⟨_, trivial, hJx9⟩⟩
    · obtain rfl : k = L.length := by omega
      have hkn : decide ((L.length : Int) < (L.length : Int)) = false := decide_eq_false (by omega)
      have HEQ := Lib.hid (show stepsP hi f (L.drop L.length) = [(f, hi)] by rw [List.drop_length]; rfl)
      obtain ⟨fn, tmps, assign, body, hy, hR⟩ := hY pre ⟨(f, hi), HRF.out, HHI.out⟩ wr hJs (by omega)
      dsimp only at hy
      have HEND := Lib.hid (show (pre ++ [(⟨(f, hi), HRF.out, HHI.out⟩ : RP)]).map (·.1) = stepsP hi lo L by rw [← HMAP.out, HEQ.out]; simp)
      clear hJs
      gi_wp2
      refine hR.mono ?_
      rintro e W9 (⟨rfl, hJ9, hk9⟩ | ⟨rfl, hJx9⟩)
      · gi_wp2
        go_end0
        exact ⟨⟨_, rfl⟩, .inl ⟨_, HEND.out, hJ9⟩⟩
      · gi_wp2
        go_end0
        exact ⟨⟨_, rfl⟩, .inr ⟨_, trivial, hJx9⟩⟩
theorem steps_stops (n : Nat) (hn : 1 ≤ n) (Bw Bf n₀ : Nat) (sv : Value) (lo hi : ByteArray) (L : List Pair) (hlo : ratB lo.data.toList = true) (hhi : ratB hi.data.toList = true) (hok : AllOk L) (hlen : L.length ≤ 1000000) (w : World) (hw : Good w)
    (hn0 : n₀ ≤ w.heap.size) (hn1 : 6 ≤ n₀) (hbw1 : Bw < w.heap.size) (hbf1 : Bf < w.heap.size) (hB1 : w.cell? ⟨Bw, 0, none⟩ = some (.string lo)) (hB2 : w.cell? ⟨Bw, 1, none⟩ = some (.string hi)) (hBf : w.cell? ⟨Bf, 0, none⟩ = some sv) (hfr : ∀ a k c, sv = .slice (some a) k c → a.block < n₀) (hI : Pairs w sv L) :
    SeqStopsK Fence.wide n Tryz.prog 130 #[.pointer (some ⟨Bw, 0, none⟩), .pointer (some ⟨Bf, 0, none⟩)] (fun x : RP => #[Value.agg #[.string x.1.1, .string x.1.2]]) (KeepC n₀ Bw Bf) (fun ys => ys.map (·.1) = stepsP hi lo L)
      (fun _ => True) (L.length + 1) w := fun l J Jx W hW hJ _ hY h0 =>
  steps1_in n hn l Bw Bf n₀ sv lo hi L hlo hhi hok hlen J Jx w hw W hW hJ hY hn0 hn1 hbw1 hbf1 ((hW.cell (p := ⟨Bw, 0, none⟩) hbw1).trans hB1) ((hW.cell (p := ⟨Bw, 1, none⟩) hbw1).trans hB2) ((hW.cell (p := ⟨Bf, 0, none⟩) hbf1).trans hBf) hfr (hI.below hW) h0
end Go.Proofs.YtbogpbjddaoeiaaGreatDoor
