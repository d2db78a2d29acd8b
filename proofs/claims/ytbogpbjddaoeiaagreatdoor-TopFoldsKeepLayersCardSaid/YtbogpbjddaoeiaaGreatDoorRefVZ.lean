import Derived.Test.YtbogpbjddaoeiaaGreatDoorRefAZ
import Derived.Test.YtbogpbjddaoeiaaGreatDoorPlainQZ
import Derived.Test.YtbogpbjddaoeiaaGreatDoorHeldInZ
namespace Go.Proofs.YtbogpbjddaoeiaaGreatDoor
open Go.RowKit
open Go.Lib (decDigits itoa nDigits)
/-- The slice v holds these knots of the reference: four cells each. -/
def Quads (w : World) (v : Value) (Q : List QP) : Prop :=
  ∃ p c, v = .slice p Q.length c ∧ Q.length ≤ c ∧ c ≤ maxLen ∧ (0 < Q.length → ∃ b off, p = some ⟨b, off, none⟩ ∧ b < w.heap.size ∧ ∀ i (h : i < Q.length), w.cell? ⟨b, off + i * 4, none⟩ = some (.int .i64 Q[i].1.num) ∧ w.cell? ⟨b, off + i * 4 + 1, none⟩ = some (.int .i64 (Q[i].1.den : Int)) ∧ w.cell? ⟨b, off + i * 4 + 2, none⟩ = some (.int .i64 Q[i].2.num) ∧ w.cell? ⟨b, off + i * 4 + 2 + 1, none⟩ = some (.int .i64 (Q[i].2.den : Int)))
theorem Quads.below {w w' : World} {v : Value} {Q : List QP} (h : Quads w v Q) (hb : Below w.heap.size w w') : Quads w' v Q := by
  obtain ⟨p, c, hv, hc, hm, hx⟩ := h
  refine ⟨p, c, hv, hc, hm, fun h0 => ?_⟩
  obtain ⟨b, off, hp, hbl, hcell⟩ := hx h0
  refine ⟨b, off, hp, Nat.lt_of_lt_of_le hbl hb.size, fun i hi => ?_⟩
  rw [hb.cell (p := ⟨b, off + i * 4, none⟩) hbl, hb.cell (p := ⟨b, off + i * 4 + 1, none⟩) hbl, hb.cell (p := ⟨b, off + i * 4 + 2, none⟩) hbl, hb.cell (p := ⟨b, off + i * 4 + 2 + 1, none⟩) hbl]
  exact hcell i hi
/-- the numbers of knots are small -/
def FrAll (Q : List QP) : Prop := ∀ p ∈ Q, Fr 1000 2 p.1 ∧ Fr 1000 2 p.2
theorem FrAll.at {Q : List QP} (h : FrAll Q) {i : Nat} (hi : i < Q.length) : Fr 1000 2 Q[i].1 ∧ Fr 1000 2 Q[i].2 := h _ (List.getElem_mem hi)
def cntQ : List QP → Rat → Nat
  | [], _ => 0
  | p :: r, x => cntQ r x + (if x < p.1 then 0 else 1)
theorem cntQ_append (A B : List QP) (x : Rat) : cntQ (A ++ B) x = cntQ A x + cntQ B x := by
  induction A with
  | nil => simp [cntQ]
  | cons p r ih => simp only [List.cons_append, cntQ, ih]; omega
theorem cntQ_take {Q : List QP} {k : Nat} (hk : k < Q.length) (x : Rat) : cntQ (Q.take (k + 1)) x = cntQ (Q.take k) x + (if x < Q[k].1 then 0 else 1) := by
  rw [List.take_add_one, List.getElem?_eq_getElem hk, cntQ_append]
  simp [cntQ]
theorem cntQ_le (Q : List QP) (x : Rat) : cntQ Q x ≤ Q.length := by
  induction Q with
  | nil => simp [cntQ]
  | cons p r ih => rw [cntQ, List.length_cons]; split <;> omega
theorem cntQ_zero {Q : List QP} {x : Rat} (h : ∀ p ∈ Q, x < p.1) : cntQ Q x = 0 := by
  induction Q with
  | nil => rfl
  | cons p r ih => rw [cntQ, ih (fun q hq => h q (List.mem_cons_of_mem _ hq)), if_pos (h p (List.mem_cons_self ..))]
/-- in ascending order the counting is the segment -/
theorem cntQ_seg {Q : List QP} (hp : Q.Pairwise (fun x y => x.1 < y.1)) (x : Rat) : cntQ Q x = segQ Q x := by
  induction Q with
  | nil => rfl
  | cons p r ih =>
    have hp' := List.pairwise_cons.1 hp
    rw [cntQ, segQ]
    by_cases h : x < p.1
    · rw [if_pos h, if_pos h, cntQ_zero (fun q hq => rat_lt_trans h (hp'.1 q hq))]
    · rw [if_neg h, if_neg h, ih hp'.2]
def SegLoop (Q : List QP) (x : Rat) (k n : Nat) : Prop := k ≤ Q.length ∧ n = cntQ (Q.take k) x ∧ n ≤ k
theorem SegLoop.yes {Q : List QP} {x : Rat} {k n : Nat} (h : SegLoop Q x k n) (hk : k < Q.length) (hx : decide (x < Q[k].1) = true) : SegLoop Q x (k + 1) n := by
  refine ⟨hk, ?_, by have := h.2.2; omega⟩
  rw [cntQ_take hk, if_pos (of_decide_eq_true hx), ← h.2.1]; rfl
theorem SegLoop.no {Q : List QP} {x : Rat} {k n : Nat} (h : SegLoop Q x k n) (hk : k < Q.length) (hx : decide (x < Q[k].1) = false) : SegLoop Q x (k + 1) (n + 1) := by
  refine ⟨hk, ?_, by have := h.2.2; omega⟩
  rw [cntQ_take hk, if_neg (of_decide_eq_false hx), ← h.2.1]
set_option maxRecDepth 100000 in
set_option maxHeartbeats 4000000 in
theorem ref_Segment (v : Value) (Q : List QP) (x : Rat) (w : World) (hv : Quads w v Q) (hQ : FrAll Q) (hx : Fr 40000 4 x) (hl : Q.length ≤ 1000) :
    Calls Tryz.prog 40 #[v, fracV x] w fun e w' => e = .returned (.int .i64 ((cntQ Q x : Nat) : Int)) ∧ Below w.heap.size w w' := by
  obtain ⟨p, c, rfl, hc, hm, hxx⟩ := hv
  have hst : SegLoop Q x 0 0 := ⟨Nat.zero_le _, by simp [cntQ], Nat.le_refl _⟩
  have HXF := Lib.hid hx
  unfold fracV
  obtain ⟨wA, hwA⟩ : ∃ wA, wA = w.alloc (Obj.cells #[.int .i64 x.num, .int .i64 (x.den : Int)] 47) := ⟨_, rfl⟩
  have hbA : Below w.heap.size w wA := by rw [hwA]; exact alloc_below _ _
  have hpA : wA.heap[w.heap.size]? = some (.cells #[.int .i64 x.num, .int .i64 (x.den : Int)] 47 (0, 0)) := by rw [hwA]; exact World.alloc_heap_new _ _
  have hltA := lt_of_some hpA
  obtain ⟨z0, z1, _, _⟩ := two_cells hpA
  clear hx
  go_enter Tryz.func40, Tryz.ntmps40
  go_wp2_with fail
  rw [← hwA]
  have HWA := Lib.hid hwA
  clear hwA
  go_loopw [5, 6] (fun nv iv wr => ∃ k n : Nat, SegLoop Q x k n ∧ iv = .int .i64 (k : Int) ∧ nv = .int .i64 (n : Int) ∧ Below wA.heap.size wA wr) (fun _ iv _ => Q.length - (intOf iv).toNat)
  case atStart => exact ⟨0, 0, hst, rfl, rfl, Below.refl _ _⟩
  case round =>
    obtain ⟨k, n, hst, rfl, rfl, hbr⟩ := hrel
    have hnk := hst.2.2
    by_cases hk : k < Q.length
    · obtain ⟨b, off, rfl, hbl, hcell⟩ := hxx (by omega)
      obtain ⟨c0, c1, _, _⟩ := hcell k hk
      have hbAl : b < wA.heap.size := Nat.lt_of_lt_of_le hbl hbA.size
      have hblr : b < wr.heap.size := Nat.lt_of_lt_of_le hbAl hbr.size
      have hBr : w.heap.size < wr.heap.size := Nat.lt_of_lt_of_le hltA hbr.size
      have d0 : wr.cell? ⟨b, off + k * 4, none⟩ = some (.int .i64 Q[k].1.num) := (hbr.cell (p := ⟨b, off + k * 4, none⟩) hbAl).trans ((hbA.cell (p := ⟨b, off + k * 4, none⟩) hbl).trans c0)
      have d1 : wr.cell? ⟨b, off + k * 4 + 1, none⟩ = some (.int .i64 (Q[k].1.den : Int)) := (hbr.cell (p := ⟨b, off + k * 4 + 1, none⟩) hbAl).trans ((hbA.cell (p := ⟨b, off + k * 4 + 1, none⟩) hbl).trans c1)
      have y0 : wr.cell? ⟨w.heap.size, 0, none⟩ = some (.int .i64 x.num) := (hbr.cell (p := ⟨w.heap.size, 0, none⟩) hltA).trans z0
      have y1 : wr.cell? ⟨w.heap.size, 1, none⟩ = some (.int .i64 (x.den : Int)) := (hbr.cell (p := ⟨w.heap.size, 1, none⟩) hltA).trans z1
      have hkn : decide ((k : Int) < (Q.length : Int)) = true := decide_eq_true (by omega)
      have i1 : (0 : Int) ≤ (k : Int) := by omega
      have i2 : (k : Int) < (Q.length : Int) := by omega
      have HST := Lib.hid hst
      have HQK := Lib.hid (hQ.at hk).1
      obtain ⟨lt, hlt⟩ : ∃ lt : Bool, lt = decide (x < Q[k].1) := ⟨_, rfl⟩
      have HLT := Lib.hid hlt
      have HLS := Lib.hid (fun w' => ref_Less x Q[k].1 40000 4 1000 2 w' HXF.out HQK.out (by omega))
      clear hst hlt c0 c1
      unfold fracV at HLS
      generalize Q[k].1.num = qn at d0 HLS
      generalize (Q[k].1.den : Int) = qd at d1 HLS
      generalize x.num = xn at y0 HLS
      generalize (x.den : Int) = xd at y1 HLS
      cases lt
      · have HF := Lib.hid (HST.out.no hk HLT.out.symm)
        go_wp2_with fail
        go_region_held3 (fun W => W.cell? ⟨b, off + k * 4, none⟩ = some (.int .i64 qn) ∧ W.cell? ⟨b, off + k * 4 + 1, none⟩ = some (.int .i64 qd) ∧ W.cell? ⟨w.heap.size, 0, none⟩ = some (.int .i64 xn) ∧ W.cell? ⟨w.heap.size, 1, none⟩ = some (.int .i64 xd) ∧ Below wr.heap.size wr W)
          (first | exact FourS.drew d0 d1 y0 y1 | (refine FourS.keep hblr hblr hBr hBr (by assumption) ?_; first | assumption | (go_split_ands; refine ⟨?_, ?_, ?_, ?_, ?_⟩ <;> assumption)))
          ((go_at_call 49; refine (HLS.out _).mono ?_; rintro e w3 ⟨rfl, hb3⟩; rw [← HLT.out]))
        have hlow3 : Below wr.heap.size wr w3 := FourS.low (by assumption)
        go_wp2
        refine ⟨⟨k + 1, n + 1, HF.out, int_succ k, int_succ n, hbr.trans (hlow3.mono hbr.size)⟩, ?_⟩
        show Q.length - ((k : Int) + 1).toNat < Q.length - ((k : Int)).toNat
        omega
      · have HF := Lib.hid (HST.out.yes hk HLT.out.symm)
        go_wp2_with fail
        go_region_held3 (fun W => W.cell? ⟨b, off + k * 4, none⟩ = some (.int .i64 qn) ∧ W.cell? ⟨b, off + k * 4 + 1, none⟩ = some (.int .i64 qd) ∧ W.cell? ⟨w.heap.size, 0, none⟩ = some (.int .i64 xn) ∧ W.cell? ⟨w.heap.size, 1, none⟩ = some (.int .i64 xd) ∧ Below wr.heap.size wr W)
          (first | exact FourS.drew d0 d1 y0 y1 | (refine FourS.keep hblr hblr hBr hBr (by assumption) ?_; first | assumption | (go_split_ands; refine ⟨?_, ?_, ?_, ?_, ?_⟩ <;> assumption)))
          ((go_at_call 49; refine (HLS.out _).mono ?_; rintro e w3 ⟨rfl, hb3⟩; rw [← HLT.out]))
        have hlow3 : Below wr.heap.size wr w3 := FourS.low (by assumption)
        go_wp2
        refine ⟨⟨k + 1, n, HF.out, int_succ k, rfl, hbr.trans (hlow3.mono hbr.size)⟩, ?_⟩
        show Q.length - ((k : Int) + 1).toNat < Q.length - ((k : Int)).toNat
        omega
    · have hkn : decide ((k : Int) < (Q.length : Int)) = false := decide_eq_false (by omega)
      obtain rfl : k = Q.length := by have := hst.1; omega
      have HF := Lib.hid (show (n : Int) = ((cntQ Q x : Nat) : Int) by have := hst.2.1; rw [List.take_length] at this; rw [this])
      clear hst
      go_wp2
      go_ret
      exact ⟨ret_int HF.out, hbA.trans (hbr.mono hbA.size)⟩
end Go.Proofs.YtbogpbjddaoeiaaGreatDoor
namespace Go.Proofs.YtbogpbjddaoeiaaGreatDoor
open Go.RowKit
open Go.Lib (decDigits itoa nDigits)
theorem num_pos_of_lt {p q : Rat} (h : p < q) : 0 < (q - p).num := by
  have h1 : 0 < q - p := by
    have h2 := Rat.add_lt_add_right (c := -p) |>.2 h
    rw [Rat.add_neg_cancel] at h2
    rw [Rat.sub_eq_add_neg]
    exact h2
  have h3 : ¬ (q - p).num < 0 := fun h => Rat.lt_irrefl (rat_lt_trans h1 (num_neg_iff.2 h))
  have h4 : (q - p).num ≠ 0 := fun h => by
    rw [Rat.num_eq_zero] at h
    rw [h] at h1
    exact Rat.lt_irrefl h1
  omega
theorem slopeQ_eq {Q : List QP} {n m : Nat} (h0 : 0 < n) (hn : n < Q.length) (hm : m = n - 1) : slopeQ Q n = (Q[n].2 - (Q[m]'(by omega)).2) * (Q[n].1 - (Q[m]'(by omega)).1)⁻¹ := by
  subst hm
  unfold slopeQ valQ atQ
  rw [if_neg (by omega), List.getElem?_eq_getElem hn, List.getElem?_eq_getElem (show n - 1 < Q.length by omega)]
def FracPost (q : Rat) (w : World) (e : Ending) (w' : World) : Prop := e = .returned (fracV q) ∧ Below w.heap.size w w'
theorem ref_Slope_out (v : Value) (Q : List QP) (n : Int) (w : World) (hv : Quads w v Q) (hn : n ≤ 0 ∨ (Q.length : Int) ≤ n) :
    Calls Tryz.prog 41 #[v, .int .i64 n] w (FracPost 0 w) := by
  obtain ⟨p, c, rfl, hc, hm, hxx⟩ := hv
  have HV := Lib.hid (show fracV 0 = .agg #[.int .i64 0, .int .i64 1] from rfl)
  clear hxx
  by_cases h0 : n ≤ 0
  · have e1 : decide (n ≤ 0) = true := decide_eq_true h0
    go_enter Tryz.func41, Tryz.ntmps41
    go_wp2
    refine bodyPost_ret (v := .agg #[.int .i64 0, .int .i64 1]) (by simp [results, Tryz.results41, go_sem]) rfl ⟨by rw [HV.out], ?_⟩
    exact alloc_below _ _
  · have e1 : decide (n ≤ 0) = false := decide_eq_false h0
    have e2 : decide ((Q.length : Int) ≤ n) = true := decide_eq_true (by omega)
    go_enter Tryz.func41, Tryz.ntmps41
    go_wp2
    refine bodyPost_ret (v := .agg #[.int .i64 0, .int .i64 1]) (by simp [results, Tryz.results41, go_sem]) rfl ⟨by rw [HV.out], ?_⟩
    exact alloc_below _ _
set_option maxRecDepth 100000 in
set_option maxHeartbeats 4000000 in
theorem ref_Slope_mid (v : Value) (Q : List QP) (n : Nat) (w : World) (hv : Quads w v Q) (hQ : FrAll Q) (hp : Q.Pairwise (fun x y => x.1 < y.1)) (h0 : 0 < n) (hn : n < Q.length) (hl : Q.length ≤ 1000) :
    Calls Tryz.prog 41 #[v, .int .i64 (n : Int)] w (FracPost (slopeQ Q n) w) := by
  obtain ⟨p, c, rfl, hc, hmx, hxx⟩ := hv
  obtain ⟨b, off, rfl, hbl, hcell⟩ := hxx (by omega)
  obtain ⟨m, hm⟩ : ∃ m, m = n - 1 := ⟨_, rfl⟩
  have hm2 : m < Q.length := by omega
  obtain ⟨c0, c1, c2, c3⟩ := hcell n hn
  obtain ⟨d0, d1, d2, d3⟩ := hcell m hm2
  obtain ⟨fa1, fa2⟩ := hQ.at hn
  obtain ⟨fb1, fb2⟩ := hQ.at hm2
  have hlt : Q[m].1 < Q[n].1 := List.pairwise_iff_getElem.1 hp m n hm2 hn (by omega)
  have hnum := num_pos_of_lt hlt
  have HQ := Lib.hid (slopeQ_eq h0 hn hm)
  have HS1 := Lib.hid (fun w' => ref_Sub Q[n].2 Q[m].2 1000 2 1000 2 w' fa2 fb2 (by omega) (by omega))
  have HS2 := Lib.hid (fun w' => ref_Sub Q[n].1 Q[m].1 1000 2 1000 2 w' fa1 fb1 (by omega) (by omega))
  have HS3 := Lib.hid (fun w' => ref_Div (Q[n].2 - Q[m].2) (Q[n].1 - Q[m].1) 4000 4 4000 4 w' (fa2.sub fb2) (fa1.sub fb1) hnum (by omega) (by omega))
  obtain ⟨N, hN⟩ : ∃ N : Int, N = (n : Int) := ⟨_, rfl⟩
  obtain ⟨M, hM⟩ : ∃ M : Int, M = (m : Int) := ⟨_, rfl⟩
  rw [← hN]
  have e1 : decide (N ≤ 0) = false := decide_eq_false (by omega)
  have e2 : decide ((Q.length : Int) ≤ N) = false := decide_eq_false (by omega)
  have i1 : IntKind.i64.wrap (N - 1) = M := (IntWalk.i64_in _ (by omega)).trans (by omega)
  have i2 : (0 : Int) ≤ M := by omega
  have i3 : M.toNat = m := by omega
  have i4 : M < (Q.length : Int) := by omega
  have i5 : (0 : Int) ≤ N := by omega
  have i6 : N.toNat = n := by omega
  have i7 : N < (Q.length : Int) := by omega
  unfold fracV at HS1 HS2 HS3
  generalize Q[n] = A at *
  generalize Q[m] = B at *
  rw [show (FracPost (slopeQ Q n) w) = (FracPost ((A.2 - B.2) * (A.1 - B.1)⁻¹) w) by rw [HQ.out]]
  have HV := Lib.hid (show fracV ((A.2 - B.2) * (A.1 - B.1)⁻¹) = .agg #[.int .i64 ((A.2 - B.2) * (A.1 - B.1)⁻¹).num, .int .i64 ((((A.2 - B.2) * (A.1 - B.1)⁻¹).den : Nat) : Int)] from rfl)
  generalize (A.2 - B.2) * (A.1 - B.1)⁻¹ = R at *
  generalize A.2 - B.2 = R1 at *
  generalize A.1 - B.1 = R2 at *
  generalize A.1.num = a0 at *
  generalize (A.1.den : Int) = a1 at *
  generalize A.2.num = a2 at *
  generalize (A.2.den : Int) = a3 at *
  generalize B.1.num = b0 at *
  generalize (B.1.den : Int) = b1 at *
  generalize B.2.num = b2 at *
  generalize (B.2.den : Int) = b3 at *
  generalize R.num = r0 at *
  generalize (R.den : Int) = r1 at *
  generalize R1.num = s0' at *
  generalize (R1.den : Int) = s1' at *
  generalize R2.num = t0 at *
  generalize (R2.den : Int) = t1 at *
  obtain ⟨wA, hwA⟩ : ∃ wA, wA = w.alloc (Obj.cells #[.int .i64 0, .int .i64 0] 47) := ⟨_, rfl⟩
  have hbA : Below w.heap.size w wA := by rw [hwA]; exact alloc_below _ _
  have hpA : wA.heap[w.heap.size]? = some (.cells #[.int .i64 0, .int .i64 0] 47 (0, 0)) := by rw [hwA]; exact World.alloc_heap_new _ _
  have hbl2 : b < wA.heap.size := Nat.lt_of_lt_of_le hbl hbA.size
  replace c0 := (hbA.cell (p := ⟨b, off + n * 4, none⟩) hbl).trans c0
  replace c1 := (hbA.cell (p := ⟨b, off + n * 4 + 1, none⟩) hbl).trans c1
  replace c2 := (hbA.cell (p := ⟨b, off + n * 4 + 2, none⟩) hbl).trans c2
  replace c3 := (hbA.cell (p := ⟨b, off + n * 4 + 2 + 1, none⟩) hbl).trans c3
  replace d0 := (hbA.cell (p := ⟨b, off + m * 4, none⟩) hbl).trans d0
  replace d1 := (hbA.cell (p := ⟨b, off + m * 4 + 1, none⟩) hbl).trans d1
  replace d2 := (hbA.cell (p := ⟨b, off + m * 4 + 2, none⟩) hbl).trans d2
  replace d3 := (hbA.cell (p := ⟨b, off + m * 4 + 2 + 1, none⟩) hbl).trans d3
  have HWA := Lib.hid hwA
  clear hwA hm hN hM h0 hn hm2 hlt hnum fa1 fa2 fb1 fb2 hcell hQ hp hxx HQ
  go_enter Tryz.func41, Tryz.ntmps41
  go_wp2_with fail
  rw [← HWA.out]
  refine wp_held_list (fun W' => Below wA.heap.size wA W') [0, 1, 2, 3, 4, 5, 6, 7, 8, 9, 10, 12, 13, 14, 15, 16, 17, 18, 19, 20, 21, 22] [11, 23, 24] 25 (by kernel_rfl) (by kernel_rfl) ⟨rfl, rfl, rfl, Nat.le_refl _, fun _ _ => rfl⟩ ?_
  iterate 22
    refine wpTakeL_step rfl ?_ rfl ?_ ?_
    rotate_left
    · intro W' hS'
      have s0 := (hS'.cell (p := ⟨b, off + n * 4, none⟩) hbl2).trans c0
      have s1 := (hS'.cell (p := ⟨b, off + n * 4 + 1, none⟩) hbl2).trans c1
      have s2 := (hS'.cell (p := ⟨b, off + n * 4 + 2, none⟩) hbl2).trans c2
      have s3 := (hS'.cell (p := ⟨b, off + n * 4 + 2 + 1, none⟩) hbl2).trans c3
      have u0 := (hS'.cell (p := ⟨b, off + m * 4, none⟩) hbl2).trans d0
      have u1 := (hS'.cell (p := ⟨b, off + m * 4 + 1, none⟩) hbl2).trans d1
      have u2 := (hS'.cell (p := ⟨b, off + m * 4 + 2, none⟩) hbl2).trans d2
      have u3 := (hS'.cell (p := ⟨b, off + m * 4 + 2 + 1, none⟩) hbl2).trans d3
      go_simp
      try with_reducible rfl
    try simp only [List.getElem_toArray, List.getElem_cons_zero, List.getElem_cons_succ, Act.put, List.setIfInBounds_toArray, List.set_cons_zero, List.set_cons_succ]
  have hH0 : Below wA.heap.size wA wA.drew := ⟨rfl, rfl, rfl, Nat.le_refl _, fun _ _ => rfl⟩
  clear c0 c1 c2 c3 d0 d1 d2 d3
  refine wpKeepL_step rfl rfl (fun K hK => ?_)
  go_simp
  refine (HS1.out _).mono ?_
  rintro e w1 ⟨rfl, hb1⟩
  have hH1 := hH0.trans (hb1.mono hH0.size)
  refine hK _ _ ⟨hH1, ?_⟩
  clear hK K
  try simp only [List.getElem_toArray, List.getElem_cons_zero, List.getElem_cons_succ, Act.put, List.setIfInBounds_toArray, List.set_cons_zero, List.set_cons_succ]
  refine wpKeepL_step rfl rfl (fun K hK => ?_)
  go_simp
  refine (HS2.out _).mono ?_
  rintro e w2 ⟨rfl, hb2⟩
  have hH2 := hH1.trans (hb2.mono hH1.size)
  refine hK _ _ ⟨hH2, ?_⟩
  clear hK K
  try simp only [List.getElem_toArray, List.getElem_cons_zero, List.getElem_cons_succ, Act.put, List.setIfInBounds_toArray, List.set_cons_zero, List.set_cons_succ]
  refine wpKeepL_step rfl rfl (fun K hK => ?_)
  go_simp
  refine (HS3.out _).mono ?_
  rintro e w3 ⟨rfl, hb3⟩
  have hH3 := hH2.trans (hb3.mono hH2.size)
  refine hK _ _ ⟨hH3, ?_⟩
  clear hK K
  unfold wpKeepL
  simp only [List.drop_succ_cons, List.drop_zero]
  try simp only [List.getElem_toArray, List.getElem_cons_zero, List.getElem_cons_succ, Act.put, List.setIfInBounds_toArray, List.set_cons_zero, List.set_cons_succ]
  have hp3 := (hH3.block _ (lt_of_some hpA)).trans hpA
  obtain ⟨k0, k1, k2, k3⟩ := two_cells hp3
  have hpz := two_set1 (.int .i64 r1) (two_set0 (.int .i64 r0) hp3)
  obtain ⟨q0, q1, _, _⟩ := two_cells hpz
  have Q0 := Lib.hid q0
  have Q1 := Lib.hid q1
  have hbw3 := hbA.trans (hH3.mono hbA.size)
  clear q0 q1 hpz hp3 hpA hH0 hH1 hH2
  refine wpKeep_step rfl (fun K hK => ?_)
  go_simp
  refine hK _ _ ⟨trivial, wpKeep_nil ?_⟩
  clear hK K
  try simp only [List.getElem_toArray, List.getElem_cons_zero, List.getElem_cons_succ, Act.put, List.setIfInBounds_toArray, List.set_cons_zero, List.set_cons_succ]
  refine NormalOnly.mk ?_
  go_wp2
  have q0 := Q0.out
  have q1 := Q1.out
  refine bodyPost_ret (v := .agg #[.int .i64 r0, .int .i64 r1]) (by simp [results, Tryz.results41, go_sem, q0, q1]) rfl ⟨by rw [HV.out], ?_⟩
  exact (hbw3.setCell (p := ⟨w.heap.size, 0, none⟩) (Nat.le_refl _) _).setCell (p := ⟨w.heap.size, 1, none⟩) (Nat.le_refl _) _
end Go.Proofs.YtbogpbjddaoeiaaGreatDoor
namespace Go.Proofs.YtbogpbjddaoeiaaGreatDoor
open Go.RowKit
open Go.Lib (decDigits itoa nDigits)
theorem slopeQ_end {Q : List QP} {n : Nat} (h : n = 0 ∨ n = Q.length) : slopeQ Q n = 0 := by unfold slopeQ; rw [if_pos h]
theorem ref_Slope (v : Value) (Q : List QP) (n : Nat) (w : World) (hv : Quads w v Q) (hQ : FrAll Q) (hp : Q.Pairwise (fun x y => x.1 < y.1)) (hn : n ≤ Q.length) (hl : Q.length ≤ 1000) :
    Calls Tryz.prog 41 #[v, .int .i64 (n : Int)] w (FracPost (slopeQ Q n) w) := by
  by_cases h : n = 0 ∨ n = Q.length
  · rw [slopeQ_end h]
    exact ref_Slope_out v Q n w hv (by omega)
  · exact ref_Slope_mid v Q n w hv hQ hp (by omega) (by omega) hl
theorem slopeQ_fr {Q : List QP} (hQ : FrAll Q) (hp : Q.Pairwise (fun x y => x.1 < y.1)) {n : Nat} (hn : n ≤ Q.length) : Fr 16000 16000 (slopeQ Q n) := by
  by_cases h : n = 0 ∨ n = Q.length
  · rw [slopeQ_end h]; exact ⟨by decide, by decide⟩
  · have h0 : 0 < n := by omega
    have h1 : n < Q.length := by omega
    have h2 : n - 1 < Q.length := by omega
    rw [slopeQ_eq h0 h1 rfl]
    have hlt : Q[n - 1].1 < Q[n].1 := List.pairwise_iff_getElem.1 hp (n - 1) n h2 h1 (by omega)
    exact (((hQ.at h1).2.sub (hQ.at h2).2).div ((hQ.at h1).1.sub (hQ.at h2).1) (num_pos_of_lt hlt)).mono (by omega) (by omega)
theorem valueQ_zero {Q : List QP} {x : Rat} (h : segQ Q x = 0) (hl : 0 < Q.length) : valueQ Q x = Q[0].2 := by
  unfold valueQ valQ
  rw [if_pos h, List.getElem?_eq_getElem hl]
theorem valueQ_pos {Q : List QP} {x : Rat} {n m : Nat} (h : segQ Q x = n) (h0 : n ≠ 0) (hm : m = n - 1) (hl : m < Q.length) : valueQ Q x = Q[m].2 + slopeQ Q n * (x - Q[m].1) := by
  unfold valueQ
  rw [h, if_neg h0, ← hm]
  unfold valQ atQ
  rw [List.getElem?_eq_getElem hl]
theorem valueQ_fr {Q : List QP} (hQ : FrAll Q) (hp : Q.Pairwise (fun x y => x.1 < y.1)) {x : Rat} (hx : Fr 40000 4 x) (hl : 0 < Q.length) : Fr 3000000000 256000 (valueQ Q x) := by
  have hle : segQ Q x ≤ Q.length := by rw [← cntQ_seg hp]; exact cntQ_le Q x
  by_cases h : segQ Q x = 0
  · rw [valueQ_zero h hl]; exact (hQ.at hl).2.mono (by omega) (by omega)
  · have hm : segQ Q x - 1 < Q.length := by omega
    rw [valueQ_pos rfl h rfl hm]
    exact ((hQ.at hm).2.add ((slopeQ_fr hQ hp hle).mul (hx.sub (hQ.at hm).1))).mono (by omega) (by omega)
set_option maxRecDepth 100000 in
set_option maxHeartbeats 4000000 in
theorem ref_Value (v : Value) (Q : List QP) (x : Rat) (w : World) (hv : Quads w v Q) (hQ : FrAll Q) (hp : Q.Pairwise (fun x y => x.1 < y.1)) (hx : Fr 40000 4 x) (hl : Q.length ≤ 1000) (hl0 : 0 < Q.length) :
    Calls Tryz.prog 39 #[v, fracV x] w (FracPost (valueQ Q x) w) := by
  have hseg := fun w' (hb : Below w.heap.size w w') => ref_Segment v Q x w' (hv.below hb) hQ hx hl
  have hslo := fun w' (hb : Below w.heap.size w w') => ref_Slope v Q (cntQ Q x) w' (hv.below hb) hQ hp (cntQ_le Q x) hl
  have HSEG := Lib.hid hseg
  have HSLO := Lib.hid hslo
  have hcs := cntQ_seg hp x
  have hle := cntQ_le Q x
  have hfs := slopeQ_fr hQ hp hle
  obtain ⟨p, c, rfl, hc, hmx, hxx⟩ := hv
  obtain ⟨b, off, rfl, hbl, hcell⟩ := hxx hl0
  obtain ⟨wA, hwA⟩ : ∃ wA, wA = (w.alloc (Obj.cells #[.int .i64 x.num, .int .i64 (x.den : Int)] 47)).alloc (Obj.cells #[.int .i64 0, .int .i64 0] 47) := ⟨_, rfl⟩
  have hbA : Below w.heap.size w wA := by rw [hwA]; exact (alloc_below _ _).trans ((alloc_below _ _).mono (by simp))
  have hpA : wA.heap[w.heap.size + 1]? = some (.cells #[.int .i64 0, .int .i64 0] 47 (0, 0)) := by
    rw [hwA]
    have := World.alloc_heap_new (w.alloc (Obj.cells #[.int .i64 x.num, .int .i64 (x.den : Int)] 47)) (Obj.cells #[.int .i64 0, .int .i64 0] 47)
    simpa using this
  have hxA : wA.heap[w.heap.size]? = some (.cells #[.int .i64 x.num, .int .i64 (x.den : Int)] 47 (0, 0)) := by
    rw [hwA, (alloc_below (w.alloc (Obj.cells #[.int .i64 x.num, .int .i64 (x.den : Int)] 47)) _).block _ (by simp)]
    exact World.alloc_heap_new _ _
  have HWA := Lib.hid hwA
  clear hseg hslo hwA
  rw [show fracV x = .agg #[.int .i64 x.num, .int .i64 (x.den : Int)] from rfl]
  unfold fracV at HSEG
  obtain ⟨n, hn⟩ : ∃ n, n = cntQ Q x := ⟨_, rfl⟩
  rw [← hn] at HSEG HSLO hcs hle hfs
  by_cases h0 : n = 0
  · have HF := Lib.hid (valueQ_zero (hcs.symm.trans h0) hl0)
    obtain ⟨_, _, c2, c3⟩ := hcell 0 hl0
    rw [show off + 0 * 4 + 2 = off + 2 by omega] at c2
    rw [show off + 0 * 4 + 2 + 1 = off + 2 + 1 by omega] at c3
    have H0 := Lib.hid h0
    have i1 : (0 : Int) < (Q.length : Int) := by omega
    have HV := Lib.hid (show fracV Q[0].2 = .agg #[.int .i64 Q[0].2.num, .int .i64 (Q[0].2.den : Int)] from rfl)
    rw [show (FracPost (valueQ Q x) w) = FracPost Q[0].2 w by rw [HF.out]]
    generalize Q[0].2.num = a2 at c2 HV ⊢
    generalize (Q[0].2.den : Int) = a3 at c3 HV ⊢
    clear hn h0 hcs hcell hQ hp hxx hfs hle
    go_enter Tryz.func39, Tryz.ntmps39
    go_wp2_with fail
    rw [← HWA.out]
    refine (HSEG.out wA hbA).mono ?_
    rintro e w1 ⟨rfl, hb1⟩
    rw [H0.out]
    have hbw1 := hbA.trans (hb1.mono hbA.size)
    have hp1 := (hb1.block _ (lt_of_some hpA)).trans hpA
    obtain ⟨k0, k1, k2, k3⟩ := two_cells hp1
    have s2 := (hbw1.cell (p := ⟨b, off + 2, none⟩) hbl).trans c2
    have s3 := (hbw1.cell (p := ⟨b, off + 2 + 1, none⟩) hbl).trans c3
    have hpz := two_set1 (.int .i64 a3) (two_set0 (.int .i64 a2) hp1)
    obtain ⟨q0, q1, _, _⟩ := two_cells hpz
    have Q0 := Lib.hid q0
    have Q1 := Lib.hid q1
    clear c2 c3 q0 q1 hpz hp1 hpA hxA
    go_wp2
    have q0 := Q0.out
    have q1 := Q1.out
    refine bodyPost_ret (v := .agg #[.int .i64 a2, .int .i64 a3]) (by simp [results, Tryz.results39, go_sem, q0, q1]) rfl ⟨by rw [HV.out], ?_⟩
    exact (hbw1.setCell (p := ⟨w.heap.size + 1, 0, none⟩) (by simp) _).setCell (p := ⟨w.heap.size + 1, 1, none⟩) (by simp) _
  · obtain ⟨m, hm⟩ : ∃ m, m = n - 1 := ⟨_, rfl⟩
    have hm2 : m < Q.length := by omega
    have HF := Lib.hid (valueQ_pos hcs.symm h0 hm hm2)
    obtain ⟨d0, d1, d2, d3⟩ := hcell m hm2
    obtain ⟨fb1, fb2⟩ := hQ.at hm2
    have HS1 := Lib.hid (fun w' => ref_Sub x Q[m].1 40000 4 1000 2 w' hx fb1 (by omega) (by omega))
    have HS2 := Lib.hid (fun w' => ref_Mul (slopeQ Q n) (x - Q[m].1) 16000 16000 84000 8 w' hfs ((hx.sub fb1).mono (by omega) (by omega)) (by omega) (by omega))
    have HS3 := Lib.hid (fun w' => ref_Add Q[m].2 (slopeQ Q n * (x - Q[m].1)) 1000 2 1344000000 128000 w' fb2 ((hfs.mul (hx.sub fb1)).mono (by omega) (by omega)) (by omega) (by omega))
    obtain ⟨N, hN⟩ : ∃ N : Int, N = (n : Int) := ⟨_, rfl⟩
    obtain ⟨M, hM⟩ : ∃ M : Int, M = (m : Int) := ⟨_, rfl⟩
    rw [← hN] at HSEG HSLO
    have e1 : (N == 0) = false := beq_eq_false_iff_ne.2 (by omega)
    have i1 : IntKind.i64.wrap (N - 1) = M := (IntWalk.i64_in _ (by omega)).trans (by omega)
    have i2 : (0 : Int) ≤ M := by omega
    have i3 : M.toNat = m := by omega
    have i4 : M < (Q.length : Int) := by omega
    rw [show (FracPost (valueQ Q x) w) = FracPost (Q[m].2 + slopeQ Q n * (x - Q[m].1)) w by rw [HF.out]]
    unfold FracPost at HSLO ⊢
    have HV := Lib.hid (show fracV (Q[m].2 + slopeQ Q n * (x - Q[m].1)) = .agg #[.int .i64 (Q[m].2 + slopeQ Q n * (x - Q[m].1)).num, .int .i64 (((Q[m].2 + slopeQ Q n * (x - Q[m].1)).den : Nat) : Int)] from rfl)
    clear HF
    unfold fracV at HS1 HS2 HS3 HSLO
    generalize Q[m] = B at *
    generalize B.2 + slopeQ Q n * (x - B.1) = R at *
    generalize slopeQ Q n * (x - B.1) = R2 at *
    generalize x - B.1 = R1 at *
    generalize slopeQ Q n = SL at *
    generalize x.num = x0 at *
    generalize (x.den : Int) = x1 at *
    generalize B.1.num = b0 at *
    generalize (B.1.den : Int) = b1 at *
    generalize B.2.num = b2 at *
    generalize (B.2.den : Int) = b3 at *
    generalize R.num = r0 at *
    generalize (R.den : Int) = r1 at *
    generalize R1.num = s0' at *
    generalize (R1.den : Int) = s1' at *
    generalize R2.num = t0 at *
    generalize (R2.den : Int) = t1 at *
    generalize SL.num = l0 at *
    generalize (SL.den : Int) = l1 at *
    clear hn h0 hcs hm hN hM hm2 fb1 fb2 hcell hQ hp hxx hfs hle hx
    go_enter Tryz.func39, Tryz.ntmps39
    go_wp2_with fail
    rw [← HWA.out]
    refine (HSEG.out wA hbA).mono ?_
    rintro e w1 ⟨rfl, hb1⟩
    have hbw1 := hbA.trans (hb1.mono hbA.size)
    have hbl2 : b < w1.heap.size := Nat.lt_of_lt_of_le hbl hbw1.size
    have c0 := (hbw1.cell (p := ⟨b, off + m * 4, none⟩) hbl).trans d0
    have c1 := (hbw1.cell (p := ⟨b, off + m * 4 + 1, none⟩) hbl).trans d1
    have c2 := (hbw1.cell (p := ⟨b, off + m * 4 + 2, none⟩) hbl).trans d2
    have c3 := (hbw1.cell (p := ⟨b, off + m * 4 + 2 + 1, none⟩) hbl).trans d3
    have hx1 := (hb1.block _ (lt_of_some hxA)).trans hxA
    have hxl := lt_of_some hx1
    obtain ⟨y0, y1, _, _⟩ := two_cells hx1
    have hp1 := (hb1.block _ (lt_of_some hpA)).trans hpA
    clear d0 d1 d2 d3
    go_wp2_with fail
    refine wp_held_list (fun W' => Below w1.heap.size w1 W') [0, 1, 2, 3, 4, 5, 6, 7, 9, 10, 11, 12, 13, 14, 15] [8, 16, 17, 18] 19 (by kernel_rfl) (by kernel_rfl) ⟨rfl, rfl, rfl, Nat.le_refl _, fun _ _ => rfl⟩ ?_
    iterate 15
      refine wpTakeL_step rfl ?_ rfl ?_ ?_
      rotate_left
      · intro W' hS'
        have s0 := (hS'.cell (p := ⟨b, off + m * 4, none⟩) hbl2).trans c0
        have s1 := (hS'.cell (p := ⟨b, off + m * 4 + 1, none⟩) hbl2).trans c1
        have s2 := (hS'.cell (p := ⟨b, off + m * 4 + 2, none⟩) hbl2).trans c2
        have s3 := (hS'.cell (p := ⟨b, off + m * 4 + 2 + 1, none⟩) hbl2).trans c3
        have u0 := (hS'.cell (p := ⟨w.heap.size, 0, none⟩) hxl).trans y0
        have u1 := (hS'.cell (p := ⟨w.heap.size, 1, none⟩) hxl).trans y1
        go_simp
        try with_reducible rfl
      try simp only [List.getElem_toArray, List.getElem_cons_zero, List.getElem_cons_succ, Act.put, List.setIfInBounds_toArray, List.set_cons_zero, List.set_cons_succ]
    have hH0 : Below w1.heap.size w1 w1.drew := ⟨rfl, rfl, rfl, Nat.le_refl _, fun _ _ => rfl⟩
    clear c0 c1 c2 c3 y0 y1
    refine wpKeepL_step rfl rfl (fun K hK => ?_)
    go_simp
    refine (HSLO.out _ (hbw1.trans (hH0.mono hbw1.size))).mono ?_
    rintro e w2 ⟨rfl, hb2⟩
    have hH1 := hH0.trans (hb2.mono hH0.size)
    refine hK _ _ ⟨hH1, ?_⟩
    clear hK K
    try simp only [List.getElem_toArray, List.getElem_cons_zero, List.getElem_cons_succ, Act.put, List.setIfInBounds_toArray, List.set_cons_zero, List.set_cons_succ]
    refine wpKeepL_step rfl rfl (fun K hK => ?_)
    go_simp
    refine (HS1.out _).mono ?_
    rintro e w3 ⟨rfl, hb3⟩
    have hH2 := hH1.trans (hb3.mono hH1.size)
    refine hK _ _ ⟨hH2, ?_⟩
    clear hK K
    try simp only [List.getElem_toArray, List.getElem_cons_zero, List.getElem_cons_succ, Act.put, List.setIfInBounds_toArray, List.set_cons_zero, List.set_cons_succ]
    refine wpKeepL_step rfl rfl (fun K hK => ?_)
    go_simp
    refine (HS2.out _).mono ?_
    rintro e w4 ⟨rfl, hb4⟩
    have hH3 := hH2.trans (hb4.mono hH2.size)
    refine hK _ _ ⟨hH3, ?_⟩
    clear hK K
    try simp only [List.getElem_toArray, List.getElem_cons_zero, List.getElem_cons_succ, Act.put, List.setIfInBounds_toArray, List.set_cons_zero, List.set_cons_succ]
    refine wpKeepL_step rfl rfl (fun K hK => ?_)
    go_simp
    refine (HS3.out _).mono ?_
    rintro e w5 ⟨rfl, hb5⟩
    have hH4 := hH3.trans (hb5.mono hH3.size)
    refine hK _ _ ⟨hH4, ?_⟩
    clear hK K
    unfold wpKeepL
    simp only [List.drop_succ_cons, List.drop_zero]
    try simp only [List.getElem_toArray, List.getElem_cons_zero, List.getElem_cons_succ, Act.put, List.setIfInBounds_toArray, List.set_cons_zero, List.set_cons_succ]
    have hp3 := (hH4.block _ (lt_of_some hp1)).trans hp1
    obtain ⟨k0, k1, k2, k3⟩ := two_cells hp3
    have hpz := two_set1 (.int .i64 r1) (two_set0 (.int .i64 r0) hp3)
    obtain ⟨q0, q1, _, _⟩ := two_cells hpz
    have Q0 := Lib.hid q0
    have Q1 := Lib.hid q1
    have hbw5 := hbw1.trans (hH4.mono hbw1.size)
    clear q0 q1 hpz hp3 hp1 hH0 hH1 hH2 hH3 hpA hxA hx1
    refine wpKeep_step rfl (fun K hK => ?_)
    go_simp
    refine hK _ _ ⟨trivial, wpKeep_nil ?_⟩
    clear hK K
    try simp only [List.getElem_toArray, List.getElem_cons_zero, List.getElem_cons_succ, Act.put, List.setIfInBounds_toArray, List.set_cons_zero, List.set_cons_succ]
    refine NormalOnly.mk ?_
    go_wp2
    have q0 := Q0.out
    have q1 := Q1.out
    refine bodyPost_ret (v := .agg #[.int .i64 r0, .int .i64 r1]) (by simp [results, Tryz.results39, go_sem, q0, q1]) rfl ⟨by rw [HV.out], ?_⟩
    exact (hbw5.setCell (p := ⟨w.heap.size + 1, 0, none⟩) (by simp) _).setCell (p := ⟨w.heap.size + 1, 1, none⟩) (by simp) _
end Go.Proofs.YtbogpbjddaoeiaaGreatDoor
