import Derived.Test.YtbogpbjddaoeiaaGreatDoorRefVZ
import Derived.Test.YtbogpbjddaoeiaaGreatDoorPtsZ
import Derived.Test.YtbogpbjddaoeiaaGreatDoorNeqZ
import Derived.Test.YtbogpbjddaoeiaaGreatDoorRefAZ
namespace Go.Proofs.YtbogpbjddaoeiaaGreatDoor
open Go.RowKit
open Go.Lib (decDigits itoa nDigits)
def FrW (Q : List QP) : Prop := ∀ p ∈ Q, Fr 1000 2 p.1 ∧ Fr 600000000 3360 p.2
theorem FrW.at {Q : List QP} (h : FrW Q) {i : Nat} (hi : i < Q.length) : Fr 1000 2 Q[i].1 ∧ Fr 600000000 3360 Q[i].2 := h _ (List.getElem_mem hi)
set_option maxRecDepth 100000 in
set_option maxHeartbeats 4000000 in
theorem ref_SlopeW_mid (v : Value) (Q : List QP) (n : Nat) (w : World) (hv : Quads w v Q) (hQ : FrW Q) (hp : Q.Pairwise (fun x y => x.1 < y.1)) (h0 : 0 < n) (hn : n < Q.length) (hl : Q.length ≤ 1000) :
    Calls Tryz.prog 41 #[v, .int .i64 (n : Int)] w (FracPost (slopeQ Q n) w) := by
  obtain ⟨p, c, rfl, hc, hmx, hxx⟩ := hv
  obtain ⟨b, off, rfl, hbl, hcell⟩ := hxx (by omega)
  obtain ⟨m, hm⟩ : ∃ m, m = n - 1 := ⟨_, rfl⟩
  have hm2 : m < Q.length := by omega
  obtain ⟨c0, c1, c2, c3⟩ := hcell n hn
  obtain ⟨d0, d1, d2, d3⟩ := hcell m hm2
  obtain ⟨fa1, fa2⟩ := hQ.at hn
  obtain ⟨fb1, fb2⟩ := hQ.at hm2
  have hlt : Q[m].1 < Q[n].1 := List.pairwise_iff_getElem.1 hp m n hm2 hn (by omega)
  have hnum := num_pos_of_lt hlt
  have HQ := Lib.hid (slopeQ_eq h0 hn hm)
  have HS1 := Lib.hid (fun w' => ref_Sub Q[n].2 Q[m].2 600000000 3360 600000000 3360 w' fa2 fb2 (by omega) (by omega))
  have HS2 := Lib.hid (fun w' => ref_Sub Q[n].1 Q[m].1 1000 2 1000 2 w' fa1 fb1 (by omega) (by omega))
  have HS3 := Lib.hid (fun w' => ref_Div (Q[n].2 - Q[m].2) (Q[n].1 - Q[m].1) 4032000000000 11289600 4000 4 w' (fa2.sub fb2) (fa1.sub fb1) hnum (by omega) (by omega))
  obtain ⟨N, hN⟩ : ∃ N : Int, N = (n : Int) := ⟨_, rfl⟩
  obtain ⟨M, hM⟩ : ∃ M : Int, M = (m : Int) := ⟨_, rfl⟩
  rw [← hN]
  have e1 : decide (N ≤ 0) = false := decide_eq_false (by omega)
  have e2 : decide ((Q.length : Int) ≤ N) = false := decide_eq_false (by omega)
  have i1 : IntKind.i64.wrap (N - 1) = M := (IntWalk.i64_in _ (by omega)).trans (by omega)
  have i2 : (0 : Int) ≤ M := by omega
  have i3 : M.toNat = m := by omega
  have i4 : M < (Q.length : Int) := by omega
  have i5 : (0 : Int) ≤ N := by omega
  have i6 : N.toNat = n := by omega
  have i7 : N < (Q.length : Int) := by omega
  unfold fracV at HS1 HS2 HS3
  generalize Q[n] = A at *
  generalize Q[m] = B at *
  rw [show (FracPost (slopeQ Q n) w) = (FracPost ((A.2 - B.2) * (A.1 - B.1)⁻¹) w) by rw [HQ.out]]
  have HV := Lib.hid (show fracV ((A.2 - B.2) * (A.1 - B.1)⁻¹) = .agg #[.int .i64 ((A.2 - B.2) * (A.1 - B.1)⁻¹).num, .int .i64 ((((A.2 - B.2) * (A.1 - B.1)⁻¹).den : Nat) : Int)] from rfl)
  generalize (A.2 - B.2) * (A.1 - B.1)⁻¹ = R at *
  generalize A.2 - B.2 = R1 at *
  generalize A.1 - B.1 = R2 at *
  generalize A.1.num = a0 at *
  generalize (A.1.den : Int) = a1 at *
  generalize A.2.num = a2 at *
  generalize (A.2.den : Int) = a3 at *
  generalize B.1.num = b0 at *
  generalize (B.1.den : Int) = b1 at *
  generalize B.2.num = b2 at *
  generalize (B.2.den : Int) = b3 at *
  generalize R.num = r0 at *
  generalize (R.den : Int) = r1 at *
  generalize R1.num = s0' at *
  generalize (R1.den : Int) = s1' at *
  generalize R2.num = t0 at *
  generalize (R2.den : Int) = t1 at *
  obtain ⟨wA, hwA⟩ : ∃ wA, wA = w.alloc (Obj.cells #[.int .i64 0, .int .i64 0] 47) := ⟨_, rfl⟩
  have hbA : Below w.heap.size w wA := by rw [hwA]; exact alloc_below _ _
  have hpA : wA.heap[w.heap.size]? = some (.cells #[.int .i64 0, .int .i64 0] 47 (0, 0)) := by rw [hwA]; exact World.alloc_heap_new _ _
  have hbl2 : b < wA.heap.size := Nat.lt_of_lt_of_le hbl hbA.size
  replace c0 := (hbA.cell (p := ⟨b, off + n * 4, none⟩) hbl).trans c0
  replace c1 := (hbA.cell (p := ⟨b, off + n * 4 + 1, none⟩) hbl).trans c1
  replace c2 := (hbA.cell (p := ⟨b, off + n * 4 + 2, none⟩) hbl).trans c2
  replace c3 := (hbA.cell (p := ⟨b, off + n * 4 + 2 + 1, none⟩) hbl).trans c3
  replace d0 := (hbA.cell (p := ⟨b, off + m * 4, none⟩) hbl).trans d0
  replace d1 := (hbA.cell (p := ⟨b, off + m * 4 + 1, none⟩) hbl).trans d1
  replace d2 := (hbA.cell (p := ⟨b, off + m * 4 + 2, none⟩) hbl).trans d2
  replace d3 := (hbA.cell (p := ⟨b, off + m * 4 + 2 + 1, none⟩) hbl).trans d3
  have HWA := Lib.hid hwA
  clear hwA hm hN hM h0 hn hm2 hlt hnum fa1 fa2 fb1 fb2 hcell hQ hp hxx HQ
  go_enter Tryz.func41, Tryz.ntmps41
  go_wp2_with fail
  rw [← HWA.out]
  refine wp_held_list (fun W' => Below wA.heap.size wA W') [0, 1, 2, 3, 4, 5, 6, 7, 8, 9, 10, 12, 13, 14, 15, 16, 17, 18, 19, 20, 21, 22] [11, 23, 24] 25 (by kernel_rfl) (by kernel_rfl) ⟨rfl, rfl, rfl, Nat.le_refl _, fun _ _ => rfl⟩ ?_
  iterate 22
    refine wpTakeL_step rfl ?_ rfl ?_ ?_
    rotate_left
    · intro W' hS'
      have s0 := (hS'.cell (p := ⟨b, off + n * 4, none⟩) hbl2).trans c0
      have s1 := (hS'.cell (p := ⟨b, off + n * 4 + 1, none⟩) hbl2).trans c1
      have s2 := (hS'.cell (p := ⟨b, off + n * 4 + 2, none⟩) hbl2).trans c2
      have s3 := (hS'.cell (p := ⟨b, off + n * 4 + 2 + 1, none⟩) hbl2).trans c3
      have u0 := (hS'.cell (p := ⟨b, off + m * 4, none⟩) hbl2).trans d0
      have u1 := (hS'.cell (p := ⟨b, off + m * 4 + 1, none⟩) hbl2).trans d1
      have u2 := (hS'.cell (p := ⟨b, off + m * 4 + 2, none⟩) hbl2).trans d2
      have u3 := (hS'.cell (p := ⟨b, off + m * 4 + 2 + 1, none⟩) hbl2).trans d3
      go_simp
      try with_reducible rfl
    try simp only [List.getElem_toArray, List.getElem_cons_zero, List.getElem_cons_succ, Act.put, List.setIfInBounds_toArray, List.set_cons_zero, List.set_cons_succ]
  have hH0 : Below wA.heap.size wA wA.drew := ⟨rfl, rfl, rfl, Nat.le_refl _, fun _ _ => rfl⟩
  clear c0 c1 c2 c3 d0 d1 d2 d3
  refine wpKeepL_step rfl rfl (fun K hK => ?_)
  go_simp
  refine (HS1.out _).mono ?_
  rintro e w1 ⟨rfl, hb1⟩
  have hH1 := hH0.trans (hb1.mono hH0.size)
  refine hK _ _ ⟨hH1, ?_⟩
  clear hK K
  try simp only [List.getElem_toArray, List.getElem_cons_zero, List.getElem_cons_succ, Act.put, List.setIfInBounds_toArray, List.set_cons_zero, List.set_cons_succ]
  refine wpKeepL_step rfl rfl (fun K hK => ?_)
  go_simp
  refine (HS2.out _).mono ?_
  rintro e w2 ⟨rfl, hb2⟩
  have hH2 := hH1.trans (hb2.mono hH1.size)
  refine hK _ _ ⟨hH2, ?_⟩
  clear hK K
  try simp only [List.getElem_toArray, List.getElem_cons_zero, List.getElem_cons_succ, Act.put, List.setIfInBounds_toArray, List.set_cons_zero, List.set_cons_succ]
  refine wpKeepL_step rfl rfl (fun K hK => ?_)
  go_simp
  refine (HS3.out _).mono ?_
  rintro e w3 ⟨rfl, hb3⟩
  have hH3 := hH2.trans (hb3.mono hH2.size)
  refine hK _ _ ⟨hH3, ?_⟩
  clear hK K
  unfold wpKeepL
  simp only [List.drop_succ_cons, List.drop_zero]
  try simp only [List.getElem_toArray, List.getElem_cons_zero, List.getElem_cons_succ, Act.put, List.setIfInBounds_toArray, List.set_cons_zero, List.set_cons_succ]
  have hp3 := (hH3.block _ (lt_of_some hpA)).trans hpA
  obtain ⟨k0, k1, k2, k3⟩ := two_cells hp3
  have hpz := two_set1 (.int .i64 r1) (two_set0 (.int .i64 r0) hp3)
  obtain ⟨q0, q1, _, _⟩ := two_cells hpz
  have Q0 := Lib.hid q0
  have Q1 := Lib.hid q1
  have hbw3 := hbA.trans (hH3.mono hbA.size)
  clear q0 q1 hpz hp3 hpA hH0 hH1 hH2
  refine wpKeep_step rfl (fun K hK => ?_)
  go_simp
  refine hK _ _ ⟨trivial, wpKeep_nil ?_⟩
  clear hK K
  try simp only [List.getElem_toArray, List.getElem_cons_zero, List.getElem_cons_succ, Act.put, List.setIfInBounds_toArray, List.set_cons_zero, List.set_cons_succ]
  refine NormalOnly.mk ?_
  go_wp2
  have q0 := Q0.out
  have q1 := Q1.out
  refine bodyPost_ret (v := .agg #[.int .i64 r0, .int .i64 r1]) (by simp [results, Tryz.results41, go_sem, q0, q1]) rfl ⟨by rw [HV.out], ?_⟩
  exact (hbw3.setCell (p := ⟨w.heap.size, 0, none⟩) (Nat.le_refl _) _).setCell (p := ⟨w.heap.size, 1, none⟩) (Nat.le_refl _) _
theorem ref_SlopeW (v : Value) (Q : List QP) (n : Nat) (w : World) (hv : Quads w v Q) (hQ : FrW Q) (hp : Q.Pairwise (fun x y => x.1 < y.1)) (hn : n ≤ Q.length) (hl : Q.length ≤ 1000) :
    Calls Tryz.prog 41 #[v, .int .i64 (n : Int)] w (FracPost (slopeQ Q n) w) := by
  by_cases h : n = 0 ∨ n = Q.length
  · rw [slopeQ_end h]
    exact ref_Slope_out v Q n w hv (by omega)
  · exact ref_SlopeW_mid v Q n w hv hQ hp (by omega) (by omega) hl
open Go.Shelf in
set_option maxRecDepth 100000 in
set_option maxHeartbeats 8000000 in
theorem law_knotsW (v : Value) (Q : List QP) (w : World) (hv : Quads w v Q) (hQ : FrW Q) (hl : Q.length ≤ 1000) :
    Calls Tryz.prog 28 #[v] w (KntPost Q w) := by
  obtain ⟨p, c, rfl, hc, hmx, hxx⟩ := hv
  have hst : KtLoop Q w 0 (.slice none 0 0) w := ⟨Nat.zero_le _, World.ownsRow_nil _ _ _ _, Below.refl _ _⟩
  have HST0 := Lib.hid hst
  have HFR := Lib.hid hQ
  clear hst hQ
  go_enter Tryz.func28, Tryz.ntmps28
  go_wp2_with fail
  go_loopw [3, 4] (fun ov iv wr => ∃ (k : Nat) (vv : Value), KtLoop Q w k vv wr ∧ vv = ov ∧ iv = .int .i64 (k : Int)) (fun _ iv _ => Q.length - (intOf iv).toNat)
  case atStart => exact ⟨0, _, HST0.out, rfl, rfl⟩
  case round =>
    obtain ⟨k, ov, hst, rfl, rfl⟩ := hrel
    obtain ⟨hkl, hown, hbr⟩ := hst
    by_cases hk : k < Q.length
    · obtain ⟨b, off, rfl, hbl, hcell⟩ := hxx (by omega)
      obtain ⟨c0, c1, c2, c3⟩ := hcell k hk
      rw [← hbr.cell (p := ⟨b, off + k * 4, none⟩) hbl] at c0
      rw [← hbr.cell (p := ⟨b, off + k * 4 + 1, none⟩) hbl] at c1
      rw [← hbr.cell (p := ⟨b, off + k * 4 + 2, none⟩) hbl] at c2
      rw [← hbr.cell (p := ⟨b, off + k * 4 + 2 + 1, none⟩) hbl] at c3
      have hkn : decide ((k : Int) < (Q.length : Int)) = true := decide_eq_true (by omega)
      have i1 : (0 : Int) ≤ (k : Int) := by omega
      have i2 : (k : Int) < (Q.length : Int) := by omega
      have hblr : b < wr.heap.size := Nat.lt_of_lt_of_le hbl hbr.size
      have hfr := HFR.out.at hk
      have HT1 := Lib.hid (fun w' => ref_Text' Q[k].1 w' (hfr.1.mono (by omega) (by omega)))
      have HT2 := Lib.hid (fun w' => ref_Text' Q[k].2 w' (hfr.2.mono (by omega) (by omega)))
      have HNX := Lib.hid (fun (v' : Value) (w' : World) => KtLoop.next (Q := Q) (w := w) (w' := w') (v' := v') hk)
      have hol := cellsS_len ((Q.take k).map textP)
      obtain ⟨i0, hi, hz0, hz1, hz2⟩ := info_parts slKnotA.info
      have s1 : (tx Q[k].1).size ≤ 1000000 := by
        rw [Lib.size_eq]
        have h1 := rlen_le Q[k].1
        have h2 := (itoa_len_le Q[k].1.num).2
        have h3 := hfr.1
        have h4 : nDigits Q[k].1.num.natAbs ≤ 4 := nDigits_le_of_lt (by have := h3.1; omega) (by omega)
        have h5 : nDigits Q[k].1.den ≤ 4 := nDigits_le_of_lt (by have := h3.2; omega) (by omega)
        simp only
        omega
      unfold fracV at HT1 HT2
      clear hcell hxx hfr s1
      generalize Q[k] = A at *
      generalize A.1.num = a0 at *
      generalize (A.1.den : Int) = a1 at *
      generalize A.2.num = a2 at *
      generalize (A.2.den : Int) = a3 at *
      generalize tx A.1 = t1 at *
      generalize tx A.2 = t2 at *
      go_wp2_with fail
      refine wp_held_list (fun W' => Below wr.heap.size wr W') [0, 1, 2, 3, 4, 5, 7, 8, 9, 10, 11] [6, 12, 13, 14] 15 (by kernel_rfl) (by kernel_rfl) ⟨rfl, rfl, rfl, Nat.le_refl _, fun _ _ => rfl⟩ ?_
      iterate 11
        refine wpTakeL_step rfl ?_ rfl ?_ ?_
        rotate_left
        · intro W' hS'
          have s0 := (hS'.cell (p := ⟨b, off + k * 4, none⟩) hblr).trans c0
          have s1 := (hS'.cell (p := ⟨b, off + k * 4 + 1, none⟩) hblr).trans c1
          have s2 := (hS'.cell (p := ⟨b, off + k * 4 + 2, none⟩) hblr).trans c2
          have s3 := (hS'.cell (p := ⟨b, off + k * 4 + 2 + 1, none⟩) hblr).trans c3
          go_simp
          try with_reducible rfl
        try simp only [List.getElem_toArray, List.getElem_cons_zero, List.getElem_cons_succ, Act.put, List.setIfInBounds_toArray, List.set_cons_zero, List.set_cons_succ]
      have hH0 : Below wr.heap.size wr wr.drew := ⟨rfl, rfl, rfl, Nat.le_refl _, fun _ _ => rfl⟩
      clear c0 c1 c2 c3
      refine wpKeepL_step rfl rfl (fun K hK => ?_)
      go_simp
      refine (HT1.out _).mono ?_
      rintro e w3 ⟨rfl, hb3⟩
      have hH1 := hH0.trans (hb3.mono hH0.size)
      refine hK _ _ ⟨hH1, ?_⟩
      clear hK K
      try simp only [List.getElem_toArray, List.getElem_cons_zero, List.getElem_cons_succ, Act.put, List.setIfInBounds_toArray, List.set_cons_zero, List.set_cons_succ]
      refine wpKeepL_step rfl rfl (fun K hK => ?_)
      go_simp
      refine (HT2.out _).mono ?_
      rintro e w4 ⟨rfl, hb4⟩
      have hH2 := hH1.trans (hb4.mono hH1.size)
      refine hK _ _ ⟨hH2, ?_⟩
      clear hK K
      try simp only [List.getElem_toArray, List.getElem_cons_zero, List.getElem_cons_succ, Act.put, List.setIfInBounds_toArray, List.set_cons_zero, List.set_cons_succ]
      refine wpKeepL_step rfl rfl (fun K hK => ?_)
      go_simp
      refine hK _ _ ⟨hH2, ?_⟩
      clear hK K
      try simp only [List.getElem_toArray, List.getElem_cons_zero, List.getElem_cons_succ, Act.put, List.setIfInBounds_toArray, List.set_cons_zero, List.set_cons_succ]
      refine wpKeepL_step rfl rfl (fun K hK => ?_)
      go_simp
      refine hK _ _ ⟨hH2.trans ((alloc_below _ _).mono hH2.size), ?_⟩
      clear hK K
      unfold wpKeepL
      simp only [List.drop_succ_cons, List.drop_zero]
      try simp only [List.getElem_toArray, List.getElem_cons_zero, List.getElem_cons_succ, Act.put, List.setIfInBounds_toArray, List.set_cons_zero, List.set_cons_succ]
      have hown4 := owns_below hown hH2
      have hbw4 := hbr.trans (hH2.mono hbr.size)
      have hbs4 := hbw4.size
      clear hown hH0 hH1
      refine wpKeep_step rfl (fun K hK => ?_)
      refine wp_append_own _ (.tmp 11) (.tmp 25) 51 rfl w.heap.size 97 i0 (.agg #[.string ⟨#[]⟩, .string ⟨#[]⟩]) 2 32 slKnotA.ht hi hz0 hz1 hz2 slKnotA.hzs slKnotA.hsz _ _ _ rfl (hown4.alloc _) ⟨w4.heap.size, 0, none⟩ 1 1 [.string t1, .string t2] rfl rfl (cell_two_new _ _ _ _) (by simp [Value.oneCell']) (by unfold maxLen; omega) (by omega) (by simp; omega) ?_
      intro v' w5 hown5 hgrow _
      have hb5 : Below w.heap.size w w5 := (hbw4.trans ((alloc_below w4 _).mono hbs4)).grown hgrow (by simp; omega) (fun g hg => (hown4.lt g hg).1)
      have HN := Lib.hid (HNX.out v' w5 hown5 hb5)
      clear hown5 hown4
      refine hK _ _ ⟨trivial, ?_⟩
      clear hK K
      try simp only [Act.put, List.setIfInBounds_toArray, List.set_cons_zero, List.set_cons_succ]
      refine wpKeep_step rfl (fun K hK => ?_)
      go_simp
      refine hK _ _ ⟨trivial, wpKeep_nil ?_⟩
      clear hK K
      try simp only [List.getElem_toArray, List.getElem_cons_zero, List.getElem_cons_succ, Act.put, List.setIfInBounds_toArray, List.set_cons_zero, List.set_cons_succ]
      refine NormalOnly.mk ?_
      go_wp2
      refine ⟨⟨k + 1, v', HN.out, rfl, int_succ k⟩, ?_⟩
      show Q.length - ((k : Int) + 1).toNat < Q.length - ((k : Int)).toNat
      omega
    · have hkn : decide ((k : Int) < (Q.length : Int)) = false := decide_eq_false (by omega)
      obtain rfl : k = Q.length := by omega
      have HP := Lib.hid (show Pairs wr ov (Q.map textP) by
        rw [List.take_length] at hown
        exact pairs_of_cells (by rw [List.length_map]; exact hown))
      clear hown hxx
      go_wp2
      go_ret
      exact ⟨_, rfl, HP.out, hbr⟩
theorem texts_ratsW {Q : List QP} (h : FrW Q) : rats (Q.map textP) = Q := by
  induction Q with
  | nil => rfl
  | cons p r ih =>
    have hp := h p (List.mem_cons_self ..)
    have e1 := (okR2 hp.1 (by decide) (by decide)).2
    have e2 := (okR2 hp.2 (by decide) (by decide)).2
    rw [List.map_cons, rats_cons, ih (fun q hq => h q (List.mem_cons_of_mem _ hq))]
    unfold textP
    dsimp only
    rw [e1, e2]
theorem texts_okW {Q : List QP} (h : FrW Q) : AllOk (Q.map textP) := by
  intro p hp
  obtain ⟨q, hq, rfl⟩ := List.mem_map.1 hp
  have hf := h q hq
  exact ⟨(okR2 hf.1 (by decide) (by decide)).1, (okR2 hf.2 (by decide) (by decide)).1⟩
theorem texts_errW {Q : List QP} (h : FrW Q) (hp : Q.Pairwise (fun x y => x.1 < y.1)) (h0 : 0 < Q.length) (hl : Q.length ≤ 100) : knotsErr (Q.map textP) = 0 :=
  knotsErr_zero (by rw [List.length_map]; exact h0) (by rw [List.length_map]; exact hl) (texts_okW h) (by rw [texts_ratsW h]; exact hp)
end Go.Proofs.YtbogpbjddaoeiaaGreatDoor
namespace Go.Proofs.YtbogpbjddaoeiaaGreatDoor
open Go.RowKit
theorem knotUnder : Tryz.prog.underlying 97 = some (.struct (Tryz.prog.fieldsOf 97)) := by kernel_rfl
theorem knotStood : Tryz.prog.stoodInHeld 97 = false := by kernel_rfl
theorem knotGuard : Tryz.prog.eqGuardType Tryz.prog.depth 97 = false := by kernel_rfl
theorem neqKnot (x y : ByteArray × ByteArray) (w : World) : (binOp .neq 97 (.agg #[.string x.1, .string x.2]) (.agg #[.string y.1, .string y.2])).run Tryz.prog w = .ok (.bool (!partB x y)) w := by
  rw [run_neq_struct, run_equalIn_struct _ 9999 _ _ _ knotUnder knotStood]
  have hf : (Tryz.prog.fieldsOf 97).toList = [(Tryz.prog.fieldsOf 97)[0]!, (Tryz.prog.fieldsOf 97)[1]!] := by kernel_rfl
  have t0 : ((Tryz.prog.fieldsOf 97)[0]!).type = 31 := by kernel_rfl
  have t1 : ((Tryz.prog.fieldsOf 97)[1]!).type = 31 := by kernel_rfl
  have o0 : ((Tryz.prog.fieldsOf 97)[0]!).offset = 0 := by kernel_rfl
  have o1 : ((Tryz.prog.fieldsOf 97)[1]!).offset = 1 := by kernel_rfl
  have n0 : ((Tryz.prog.fieldsOf 97)[0]!).name ≠ "_" := of_decide_eq_true (by kernel_rfl)
  have n1 : ((Tryz.prog.fieldsOf 97)[1]!).name ≠ "_" := of_decide_eq_true (by kernel_rfl)
  have hp : ∀ (cs : Array Value) (i : Nat) (v : Value), cs[i]? = some v → (part 31 cs i).run Tryz.prog w = .ok v w := by
    intro cs i v h
    unfold part
    simp only [Sem.run_bind, Tryz.isAgg31, Result.andThen_ok, Bool.false_eq_true, if_false, h, Sem.run_pure]
  rw [hf]
  simp only [Op.eqFields, if_pos n0, if_pos n1, t0, t1, o0, o1, Sem.run_bind]
  rw [hp _ 0 (.string x.1) rfl]
  simp only [Result.andThen_ok]
  rw [hp _ 0 (.string y.1) rfl]
  simp only [Result.andThen_ok]
  rw [run_equalIn_string w 9998 _ _ _ Tryz.underlying31]
  simp only [Result.andThen_ok]
  unfold partB
  cases h1 : (x.1.toList == y.1.toList)
  · simp
  · simp only [Bool.not_true, Bool.false_eq_true, if_false, Sem.run_bind]
    rw [hp _ 1 (.string x.2) rfl]
    simp only [Result.andThen_ok]
    rw [hp _ 1 (.string y.2) rfl]
    simp only [Result.andThen_ok]
    rw [run_equalIn_string w 9998 _ _ _ Tryz.underlying31]
    simp only [Result.andThen_ok]
    cases h2 : (x.2.toList == y.2.toList) <;> simp
theorem neqGuardK (op : BinOp) (a b : Operand) (xs ys : Array Value) (w : World) : (eqGuard op 97 a b (.agg xs) (.agg ys)).run Tryz.prog w = .ok () w := run_eqGuard_agg w op _ a b xs ys knotGuard
theorem fracUnder : Tryz.prog.underlying 47 = some (.struct (Tryz.prog.fieldsOf 47)) := by kernel_rfl
theorem fracStood : Tryz.prog.stoodInHeld 47 = false := by kernel_rfl
theorem fracGuard : Tryz.prog.eqGuardType Tryz.prog.depth 47 = false := by kernel_rfl
theorem neqFrac (a b c d : Int) (w : World) : (binOp .neq 47 (.agg #[.int .i64 a, .int .i64 b]) (.agg #[.int .i64 c, .int .i64 d])).run Tryz.prog w = .ok (.bool (!(a == c && b == d))) w := by
  rw [run_neq_struct, run_equalIn_struct _ 9999 _ _ _ fracUnder fracStood]
  have hf : (Tryz.prog.fieldsOf 47).toList = [(Tryz.prog.fieldsOf 47)[0]!, (Tryz.prog.fieldsOf 47)[1]!] := by kernel_rfl
  have t0 : ((Tryz.prog.fieldsOf 47)[0]!).type = 3 := by kernel_rfl
  have t1 : ((Tryz.prog.fieldsOf 47)[1]!).type = 3 := by kernel_rfl
  have o0 : ((Tryz.prog.fieldsOf 47)[0]!).offset = 0 := by kernel_rfl
  have o1 : ((Tryz.prog.fieldsOf 47)[1]!).offset = 1 := by kernel_rfl
  have n0 : ((Tryz.prog.fieldsOf 47)[0]!).name ≠ "_" := of_decide_eq_true (by kernel_rfl)
  have n1 : ((Tryz.prog.fieldsOf 47)[1]!).name ≠ "_" := of_decide_eq_true (by kernel_rfl)
  have hp : ∀ (cs : Array Value) (i : Nat) (v : Value), cs[i]? = some v → (part 3 cs i).run Tryz.prog w = .ok v w := by
    intro cs i v h
    unfold part
    simp only [Sem.run_bind, Tryz.isAgg3, Result.andThen_ok, Bool.false_eq_true, if_false, h, Sem.run_pure]
  rw [hf]
  simp only [Op.eqFields, if_pos n0, if_pos n1, t0, t1, o0, o1, Sem.run_bind]
  rw [hp _ 0 (.int .i64 a) rfl]
  simp only [Result.andThen_ok]
  rw [hp _ 0 (.int .i64 c) rfl]
  simp only [Result.andThen_ok]
  rw [run_equalIn_int w 9998 _ _ _ _ _ Tryz.underlying3]
  simp only [Result.andThen_ok]
  cases h1 : (a == c)
  · simp
  · simp only [Bool.not_true, Bool.false_eq_true, if_false, Sem.run_bind]
    rw [hp _ 1 (.int .i64 b) rfl]
    simp only [Result.andThen_ok]
    rw [hp _ 1 (.int .i64 d) rfl]
    simp only [Result.andThen_ok]
    rw [run_equalIn_int w 9998 _ _ _ _ _ Tryz.underlying3]
    simp only [Result.andThen_ok]
    cases h2 : (b == d) <;> simp
theorem neqGuardF (op : BinOp) (a b : Operand) (xs ys : Array Value) (w : World) : (eqGuard op 47 a b (.agg xs) (.agg ys)).run Tryz.prog w = .ok () w := run_eqGuard_agg w op _ a b xs ys fracGuard
theorem frac_eq (p q : Rat) : (p.num == q.num && ((p.den : Nat) : Int) == ((q.den : Nat) : Int)) = decide (p = q) := by
  rw [Bool.eq_iff_iff, decide_eq_true_eq, Bool.and_eq_true, beq_iff_eq, beq_iff_eq]
  constructor
  · rintro ⟨h1, h2⟩
    exact Rat.ext h1 (by omega)
  · rintro rfl
    exact ⟨rfl, rfl⟩
/-- comparing two fractions -/
theorem neqFracV (p q : Rat) (w : World) : (binOp .neq 47 (.agg #[.int .i64 p.num, .int .i64 (p.den : Int)]) (.agg #[.int .i64 q.num, .int .i64 (q.den : Int)])).run Tryz.prog w = .ok (.bool (!decide (p = q))) w := by
  rw [neqFrac, frac_eq]
end Go.Proofs.YtbogpbjddaoeiaaGreatDoor
