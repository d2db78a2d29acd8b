import Derived.Test.YtbogpbjddaoeiaaGreatDoorDnZ
import Derived.Test.YtbogpbjddaoeiaaGreatDoorHeldAZ
namespace Go.Proofs.YtbogpbjddaoeiaaGreatDoor
open Go.RowKit
open Go.Lib (decDigits itoa nDigits)
theorem owns_one (w : World) (a b : Value) (t : TypeId) : (w.alloc (.cells #[a, b] t)).ownsRow w.heap.size t 2 (.slice (some ⟨w.heap.size, 0, none⟩) 1 1) 1 [a, b] :=
  ⟨by simp, .inr ⟨w.heap.size, 1, #[a, b], rfl, Nat.le_refl _, World.alloc_heap_new w _, Nat.le_refl _, by decide, by simp, by simp⟩⟩
def SixS (w : World) (p1 p2 p3 p4 p5 p6 : Addr) (a1 a2 a3 a4 a5 a6 : Value) (W : World) : Prop :=
  W.cell? p1 = some a1 ∧ W.cell? p2 = some a2 ∧ W.cell? p3 = some a3 ∧ W.cell? p4 = some a4 ∧ W.cell? p5 = some a5 ∧ W.cell? p6 = some a6 ∧ Below w.heap.size w W
theorem SixS.low {w W : World} {p1 p2 p3 p4 p5 p6 : Addr} {a1 a2 a3 a4 a5 a6 : Value} (h : SixS w p1 p2 p3 p4 p5 p6 a1 a2 a3 a4 a5 a6 W) : Below w.heap.size w W := h.2.2.2.2.2.2
theorem SixS.keep {w W W' : World} {p1 p2 p3 p4 p5 p6 : Addr} {a1 a2 a3 a4 a5 a6 : Value} (l1 : p1.block < w.heap.size) (l2 : p2.block < w.heap.size) (l3 : p3.block < w.heap.size) (l4 : p4.block < w.heap.size) (l5 : p5.block < w.heap.size) (l6 : p6.block < w.heap.size) (hb : Below W.heap.size W W') (h : SixS w p1 p2 p3 p4 p5 p6 a1 a2 a3 a4 a5 a6 W) : SixS w p1 p2 p3 p4 p5 p6 a1 a2 a3 a4 a5 a6 W' := by
  obtain ⟨h1, h2, h3, h4, h5, h6, h7⟩ := h
  refine ⟨?_, ?_, ?_, ?_, ?_, ?_, h7.trans (hb.mono h7.size)⟩
  · rw [hb.cell (Nat.lt_of_lt_of_le l1 h7.size)]; exact h1
  · rw [hb.cell (Nat.lt_of_lt_of_le l2 h7.size)]; exact h2
  · rw [hb.cell (Nat.lt_of_lt_of_le l3 h7.size)]; exact h3
  · rw [hb.cell (Nat.lt_of_lt_of_le l4 h7.size)]; exact h4
  · rw [hb.cell (Nat.lt_of_lt_of_le l5 h7.size)]; exact h5
  · rw [hb.cell (Nat.lt_of_lt_of_le l6 h7.size)]; exact h6
theorem SixS.drew {w : World} {p1 p2 p3 p4 p5 p6 : Addr} {a1 a2 a3 a4 a5 a6 : Value} (h1 : w.cell? p1 = some a1) (h2 : w.cell? p2 = some a2) (h3 : w.cell? p3 = some a3) (h4 : w.cell? p4 = some a4) (h5 : w.cell? p5 = some a5) (h6 : w.cell? p6 = some a6) : SixS w p1 p2 p3 p4 p5 p6 a1 a2 a3 a4 a5 a6 w.drew := ⟨h1, h2, h3, h4, h5, h6, rfl, rfl, rfl, Nat.le_refl _, fun _ _ => rfl⟩
/-- the first loop: the row of points after k knots -/
def IntLoop (lo hi : Rat) (Q : List QP) (w : World) (k : Nat) (pv : Value) (wr : World) : Prop := k ≤ Q.length ∧ wr.ownsRow w.heap.size 47 2 pv (rowQ lo hi Q k).length (cellsF (rowQ lo hi Q k)) ∧ Below w.heap.size w wr
theorem IntLoop.skip {lo hi : Rat} {Q : List QP} {w wr w' : World} {k : Nat} {pv : Value} (h : IntLoop lo hi Q w k pv wr) (hk : k < Q.length) (hx : ¬ (lo < Q[k].1 ∧ Q[k].1 < hi)) (hb : Below wr.heap.size wr w') : IntLoop lo hi Q w (k + 1) pv w' :=
  ⟨hk, by rw [rowQ_out hk hx]; exact owns_below h.2.1 hb, h.2.2.trans (hb.mono h.2.2.size)⟩
theorem IntLoop.put {lo hi : Rat} {Q : List QP} {w : World} {k : Nat} (hk : k < Q.length) (h1 : lo < Q[k].1) (h2 : Q[k].1 < hi) (v' : Value) (w' : World) (ho : w'.ownsRow w.heap.size 47 2 v' ((rowQ lo hi Q k).length + 1) (cellsF (rowQ lo hi Q k) ++ [.int .i64 Q[k].1.num, .int .i64 (Q[k].1.den : Int)])) (hb : Below w.heap.size w w') : IntLoop lo hi Q w (k + 1) v' w' :=
  ⟨hk, by rw [rowQ_in hk h1 h2, cellsF_snoc, List.length_append]; exact ho, hb⟩
def BoxAt (wr : World) (s0 s1 : Int) (s11 : Value) (wx : World) : Prop := ∃ B, s11 = .pointer (some ⟨B, 0, none⟩) ∧ wx.heap[B]? = some (.cells #[.int .i64 s0, .int .i64 s1] 47 (0, 0)) ∧ wr.heap.size ≤ B ∧ Below wr.heap.size wr wx
set_option maxRecDepth 100000 in
set_option maxHeartbeats 8000000 in
theorem ref_Integral (v : Value) (Q : List QP) (lo hi : Rat) (w : World) (hv : Quads w v Q) (hQ : FrAll Q) (hH : Halved Q) (hp : Q.Pairwise (fun x y => x.1 < y.1)) (hl : Q.length ≤ 8) (hl0 : 0 < Q.length) (hlo : Dn 192 2 lo) (hhi : Dn 192 2 hi) :
    Calls Tryz.prog 30 #[v, fracV lo, fracV hi] w (FracPost (sumQ Q (pairsQ lo (insQ lo hi Q ++ [hi]))) w) := by
  have hQD := hv
  obtain ⟨p, c, rfl, hc, hmx, hxx⟩ := hv
  obtain ⟨b, off, rfl, hbl, hcell⟩ := hxx hl0
  obtain ⟨wA, hwA⟩ : ∃ wA, wA = ((w.alloc (Obj.cells #[.int .i64 lo.num, .int .i64 (lo.den : Int)] 47)).alloc (Obj.cells #[.int .i64 hi.num, .int .i64 (hi.den : Int)] 47)).alloc (Obj.cells #[.int .i64 0, .int .i64 0] 47) := ⟨_, rfl⟩
  have hbA : Below w.heap.size w wA := by rw [hwA]; exact ((alloc_below _ _).trans ((alloc_below _ _).mono (by simp))).trans ((alloc_below _ _).mono (by simp; omega))
  have hsA : wA.heap.size = w.heap.size + 3 := by rw [hwA]; simp
  have hloA : wA.heap[w.heap.size]? = some (.cells #[.int .i64 lo.num, .int .i64 (lo.den : Int)] 47 (0, 0)) := by
    rw [hwA, (alloc_below _ _).block _ (by simp; omega), (alloc_below _ _).block _ (by simp)]
    exact World.alloc_heap_new _ _
  have hhiA : wA.heap[w.heap.size + 1]? = some (.cells #[.int .i64 hi.num, .int .i64 (hi.den : Int)] 47 (0, 0)) := by
    rw [hwA, (alloc_below _ _).block _ (by simp)]
    have := World.alloc_heap_new (w.alloc (Obj.cells #[.int .i64 lo.num, .int .i64 (lo.den : Int)] 47)) (Obj.cells #[.int .i64 hi.num, .int .i64 (hi.den : Int)] 47)
    simpa using this
  have hzA : wA.heap[w.heap.size + 2]? = some (.cells #[.int .i64 0, .int .i64 0] 47 (0, 0)) := by
    rw [hwA]
    have := World.alloc_heap_new ((w.alloc (Obj.cells #[.int .i64 lo.num, .int .i64 (lo.den : Int)] 47)).alloc (Obj.cells #[.int .i64 hi.num, .int .i64 (hi.den : Int)] 47)) (Obj.cells #[.int .i64 0, .int .i64 0] 47)
    simpa using this
  obtain ⟨a0, a1, _, _⟩ := two_cells hloA
  have HWA := Lib.hid hwA
  clear hwA
  have hst0 : IntLoop lo hi Q wA 0 (.slice (some ⟨wA.heap.size, 0, none⟩) 1 1) (wA.alloc (Obj.cells #[.int .i64 lo.num, .int .i64 (lo.den : Int)] 47)) := ⟨Nat.zero_le _, owns_one wA _ _ _, alloc_below _ _⟩
  have HST0 := Lib.hid hst0
  have hltA0 := lt_of_some hloA
  have hltA1 := lt_of_some hhiA
  obtain ⟨e0, e1, _, _⟩ := two_cells hhiA
  clear hst0
  unfold fracV
  go_enter Tryz.func30, Tryz.ntmps30
  go_wp2_with fail
  rw [← HWA.out]
  rw [show w.heap.size + 1 + 1 + 1 = wA.heap.size by omega]
  clear hsA
  go_loopw [7, 8] (fun pv iv wr => ∃ (k : Nat) (vv : Value), IntLoop lo hi Q wA k vv wr ∧ vv = pv ∧ iv = .int .i64 (k : Int)) (fun _ iv _ => Q.length - (intOf iv).toNat)
  case atStart => exact ⟨0, _, HST0.out, rfl, rfl⟩
  case round =>
    obtain ⟨k, pv, hst, rfl, rfl⟩ := hrel
    have hbr := hst.2.2
    by_cases hk : k < Q.length
    · obtain ⟨c0, c1, _, _⟩ := hcell k hk
      have hbAl : b < wA.heap.size := Nat.lt_of_lt_of_le hbl hbA.size
      have hblr : b < wr.heap.size := Nat.lt_of_lt_of_le hbAl hbr.size
      have hB0 : w.heap.size < wr.heap.size := Nat.lt_of_lt_of_le hltA0 hbr.size
      have hB1 : w.heap.size + 1 < wr.heap.size := Nat.lt_of_lt_of_le hltA1 hbr.size
      have d0 : wr.cell? ⟨b, off + k * 4, none⟩ = some (.int .i64 Q[k].1.num) := (hbr.cell (p := ⟨b, off + k * 4, none⟩) hbAl).trans ((hbA.cell (p := ⟨b, off + k * 4, none⟩) hbl).trans c0)
      have d1 : wr.cell? ⟨b, off + k * 4 + 1, none⟩ = some (.int .i64 (Q[k].1.den : Int)) := (hbr.cell (p := ⟨b, off + k * 4 + 1, none⟩) hbAl).trans ((hbA.cell (p := ⟨b, off + k * 4 + 1, none⟩) hbl).trans c1)
      have y0 : wr.cell? ⟨w.heap.size, 0, none⟩ = some (.int .i64 lo.num) := (hbr.cell (p := ⟨w.heap.size, 0, none⟩) hltA0).trans a0
      have y1 : wr.cell? ⟨w.heap.size, 1, none⟩ = some (.int .i64 (lo.den : Int)) := (hbr.cell (p := ⟨w.heap.size, 1, none⟩) hltA0).trans a1
      have z0 : wr.cell? ⟨w.heap.size + 1, 0, none⟩ = some (.int .i64 hi.num) := (hbr.cell (p := ⟨w.heap.size + 1, 0, none⟩) hltA1).trans e0
      have z1 : wr.cell? ⟨w.heap.size + 1, 1, none⟩ = some (.int .i64 (hi.den : Int)) := (hbr.cell (p := ⟨w.heap.size + 1, 1, none⟩) hltA1).trans e1
      have hkn : decide ((k : Int) < (Q.length : Int)) = true := decide_eq_true (by omega)
      have i1 : (0 : Int) ≤ (k : Int) := by omega
      have i2 : (k : Int) < (Q.length : Int) := by omega
      have HST := Lib.hid hst
      have HQK := Lib.hid (hQ.at hk).1
      obtain ⟨l1, hl1⟩ : ∃ l1 : Bool, l1 = decide (lo < Q[k].1) := ⟨_, rfl⟩
      obtain ⟨l2, hl2⟩ : ∃ l2 : Bool, l2 = decide (Q[k].1 < hi) := ⟨_, rfl⟩
      have HL1 := Lib.hid hl1
      have HL2 := Lib.hid hl2
      have HLS1 := Lib.hid (fun w' => ref_Less lo Q[k].1 384 2 1000 2 w' (hlo.fr (by decide)) HQK.out (by omega))
      have HLS2 := Lib.hid (fun w' => ref_Less Q[k].1 hi 1000 2 384 2 w' HQK.out (hhi.fr (by decide)) (by omega))
      have HPUT := Lib.hid (fun h1 h2 => IntLoop.put (lo := lo) (hi := hi) (w := wA) hk h1 h2)
      clear hst hl1 hl2 c0 c1
      unfold fracV at HLS1 HLS2
      rw [← HL1.out] at HLS1
      rw [← HL2.out] at HLS2
      generalize Q[k].1.num = qn at d0 HLS1 HLS2 HPUT
      generalize (Q[k].1.den : Int) = qd at d1 HLS1 HLS2 HPUT
      generalize lo.num = ln at y0 HLS1
      generalize (lo.den : Int) = ld at y1 HLS1
      generalize hi.num = hn at z0 HLS2
      generalize (hi.den : Int) = hd at z1 HLS2
      cases l1
      · go_wp2_with fail
        refine wp_held_two (fun W' => SixS wr ⟨b, off + k * 4, none⟩ ⟨b, off + k * 4 + 1, none⟩ ⟨w.heap.size, 0, none⟩ ⟨w.heap.size, 1, none⟩ ⟨w.heap.size + 1, 0, none⟩ ⟨w.heap.size + 1, 1, none⟩ (.int .i64 qn) (.int .i64 qd) (.int .i64 ln) (.int .i64 ld) (.int .i64 hn) (.int .i64 hd) W') [0, 1, 2, 3, 4, 5] [6, 7] [8, 9, 10, 11, 12, 13, 14] [] 15 (by kernel_rfl) (by kernel_rfl) (SixS.drew d0 d1 y0 y1 z0 z1) ?_
        iterate 6
          refine wpTakeL_step rfl ?_ rfl ?_ ?_
          rotate_left
          · intro W' hS'
            obtain ⟨s1, s2, s3, s4, s5, s6, s7⟩ := hS'
            go_simp
            try with_reducible rfl
          try simp only [List.getElem_toArray, List.getElem_cons_zero, List.getElem_cons_succ, Act.put, List.setIfInBounds_toArray, List.set_cons_zero, List.set_cons_succ]
        refine wpKeepL_step rfl rfl (fun K hK => ?_)
        go_simp
        refine (HLS1.out _).mono ?_
        rintro e w3 ⟨rfl, hb3⟩
        have hS3 := SixS.keep hblr hblr hB0 hB0 hB1 hB1 hb3 (SixS.drew d0 d1 y0 y1 z0 z1)
        refine hK _ _ ⟨hS3, ?_⟩
        clear hK K
        try simp only [List.getElem_toArray, List.getElem_cons_zero, List.getElem_cons_succ, Act.put, List.setIfInBounds_toArray, List.set_cons_zero, List.set_cons_succ]
        refine wpKeepL_step rfl rfl (fun K hK => ?_)
        go_simp
        refine hK _ _ ⟨hS3, ?_⟩
        clear hK K
        try simp only [List.getElem_toArray, List.getElem_cons_zero, List.getElem_cons_succ, Act.put, List.setIfInBounds_toArray, List.set_cons_zero, List.set_cons_succ]
        unfold wpKeepL
        iterate 7
          refine wpTakeL_skip rfl rfl ?_
          try simp only [List.getElem_toArray, List.getElem_cons_zero, List.getElem_cons_succ, Act.put, List.setIfInBounds_toArray, List.set_cons_zero, List.set_cons_succ]
        have hlow3 : Below wr.heap.size wr w3 := SixS.low hS3
        unfold wpTakeL wpKeepL
        simp only [List.drop_succ_cons, List.drop_zero]
        refine wpKeep_step rfl (fun K hK => ?_)
        go_simp
        refine hK _ _ ⟨trivial, wpKeep_nil ?_⟩
        clear hK K
        try simp only [List.getElem_toArray, List.getElem_cons_zero, List.getElem_cons_succ, Act.put, List.setIfInBounds_toArray, List.set_cons_zero, List.set_cons_succ]
        refine NormalOnly.mk ?_
        go_wp2
        refine ⟨⟨k + 1, _, HST.out.skip hk (fun h => absurd HL1.out (by rw [decide_eq_true h.1]; decide)) hlow3, rfl, int_succ k⟩, ?_⟩
        show Q.length - ((k : Int) + 1).toNat < Q.length - ((k : Int)).toNat
        omega
      · cases l2
        · -- the knot is at or behind the end
          go_wp2_with fail
          refine wp_held_two (fun W' => SixS wr ⟨b, off + k * 4, none⟩ ⟨b, off + k * 4 + 1, none⟩ ⟨w.heap.size, 0, none⟩ ⟨w.heap.size, 1, none⟩ ⟨w.heap.size + 1, 0, none⟩ ⟨w.heap.size + 1, 1, none⟩ (.int .i64 qn) (.int .i64 qd) (.int .i64 ln) (.int .i64 ld) (.int .i64 hn) (.int .i64 hd) W') [0, 1, 2, 3, 4, 5] [6, 7] [8, 9, 10, 11, 12, 13] [14] 15 (by kernel_rfl) (by kernel_rfl) (SixS.drew d0 d1 y0 y1 z0 z1) ?_
          iterate 6
            refine wpTakeL_step rfl ?_ rfl ?_ ?_
            rotate_left
            · intro W' hS'
              obtain ⟨s1, s2, s3, s4, s5, s6, s7⟩ := hS'
              go_simp
              try with_reducible rfl
            try simp only [List.getElem_toArray, List.getElem_cons_zero, List.getElem_cons_succ, Act.put, List.setIfInBounds_toArray, List.set_cons_zero, List.set_cons_succ]
          refine wpKeepL_step rfl rfl (fun K hK => ?_)
          go_simp
          refine (HLS1.out _).mono ?_
          rintro e w3 ⟨rfl, hb3⟩
          have hS3 := SixS.keep hblr hblr hB0 hB0 hB1 hB1 hb3 (SixS.drew d0 d1 y0 y1 z0 z1)
          refine hK _ _ ⟨hS3, ?_⟩
          clear hK K
          try simp only [List.getElem_toArray, List.getElem_cons_zero, List.getElem_cons_succ, Act.put, List.setIfInBounds_toArray, List.set_cons_zero, List.set_cons_succ]
          refine wpKeepL_step rfl rfl (fun K hK => ?_)
          go_simp
          refine hK _ _ ⟨hS3, ?_⟩
          clear hK K
          try simp only [List.getElem_toArray, List.getElem_cons_zero, List.getElem_cons_succ, Act.put, List.setIfInBounds_toArray, List.set_cons_zero, List.set_cons_succ]
          unfold wpKeepL
          iterate 6
            refine wpTakeL_step rfl ?_ rfl ?_ ?_
            rotate_left
            · intro W' hS'
              obtain ⟨s1, s2, s3, s4, s5, s6, s7⟩ := hS'
              go_simp
              try with_reducible rfl
            try simp only [List.getElem_toArray, List.getElem_cons_zero, List.getElem_cons_succ, Act.put, List.setIfInBounds_toArray, List.set_cons_zero, List.set_cons_succ]
          unfold wpTakeL
          refine wpKeepL_step rfl rfl (fun K hK => ?_)
          go_simp
          refine (HLS2.out _).mono ?_
          rintro e w4 ⟨rfl, hb4⟩
          have hS4 := SixS.keep hblr hblr hB0 hB0 hB1 hB1 hb4 hS3
          refine hK _ _ ⟨hS4, ?_⟩
          clear hK K
          try simp only [List.getElem_toArray, List.getElem_cons_zero, List.getElem_cons_succ, Act.put, List.setIfInBounds_toArray, List.set_cons_zero, List.set_cons_succ]
          have hlow4 : Below wr.heap.size wr w4 := SixS.low hS4
          unfold wpKeepL
          simp only [List.drop_succ_cons, List.drop_zero]
          refine wpKeep_step rfl (fun K hK => ?_)
          go_simp
          refine hK _ _ ⟨trivial, wpKeep_nil ?_⟩
          clear hK K
          try simp only [List.getElem_toArray, List.getElem_cons_zero, List.getElem_cons_succ, Act.put, List.setIfInBounds_toArray, List.set_cons_zero, List.set_cons_succ]
          refine NormalOnly.mk ?_
          go_wp2
          refine ⟨⟨k + 1, _, HST.out.skip hk (fun h => absurd HL2.out (by rw [decide_eq_true h.2]; decide)) hlow4, rfl, int_succ k⟩, ?_⟩
          show Q.length - ((k : Int) + 1).toNat < Q.length - ((k : Int)).toNat
          omega
        · -- the knot is between
          go_wp2_with fail
          refine wp_held_two (fun W' => SixS wr ⟨b, off + k * 4, none⟩ ⟨b, off + k * 4 + 1, none⟩ ⟨w.heap.size, 0, none⟩ ⟨w.heap.size, 1, none⟩ ⟨w.heap.size + 1, 0, none⟩ ⟨w.heap.size + 1, 1, none⟩ (.int .i64 qn) (.int .i64 qd) (.int .i64 ln) (.int .i64 ld) (.int .i64 hn) (.int .i64 hd) W') [0, 1, 2, 3, 4, 5] [6, 7] [8, 9, 10, 11, 12, 13] [14] 15 (by kernel_rfl) (by kernel_rfl) (SixS.drew d0 d1 y0 y1 z0 z1) ?_
          iterate 6
            refine wpTakeL_step rfl ?_ rfl ?_ ?_
            rotate_left
            · intro W' hS'
              obtain ⟨s1, s2, s3, s4, s5, s6, s7⟩ := hS'
              go_simp
              try with_reducible rfl
            try simp only [List.getElem_toArray, List.getElem_cons_zero, List.getElem_cons_succ, Act.put, List.setIfInBounds_toArray, List.set_cons_zero, List.set_cons_succ]
          refine wpKeepL_step rfl rfl (fun K hK => ?_)
          go_simp
          refine (HLS1.out _).mono ?_
          rintro e w3 ⟨rfl, hb3⟩
          have hS3 := SixS.keep hblr hblr hB0 hB0 hB1 hB1 hb3 (SixS.drew d0 d1 y0 y1 z0 z1)
          refine hK _ _ ⟨hS3, ?_⟩
          clear hK K
          try simp only [List.getElem_toArray, List.getElem_cons_zero, List.getElem_cons_succ, Act.put, List.setIfInBounds_toArray, List.set_cons_zero, List.set_cons_succ]
          refine wpKeepL_step rfl rfl (fun K hK => ?_)
          go_simp
          refine hK _ _ ⟨hS3, ?_⟩
          clear hK K
          try simp only [List.getElem_toArray, List.getElem_cons_zero, List.getElem_cons_succ, Act.put, List.setIfInBounds_toArray, List.set_cons_zero, List.set_cons_succ]
          unfold wpKeepL
          iterate 6
            refine wpTakeL_step rfl ?_ rfl ?_ ?_
            rotate_left
            · intro W' hS'
              obtain ⟨s1, s2, s3, s4, s5, s6, s7⟩ := hS'
              go_simp
              try with_reducible rfl
            try simp only [List.getElem_toArray, List.getElem_cons_zero, List.getElem_cons_succ, Act.put, List.setIfInBounds_toArray, List.set_cons_zero, List.set_cons_succ]
          unfold wpTakeL
          refine wpKeepL_step rfl rfl (fun K hK => ?_)
          go_simp
          refine (HLS2.out _).mono ?_
          rintro e w4 ⟨rfl, hb4⟩
          have hS4 := SixS.keep hblr hblr hB0 hB0 hB1 hB1 hb4 hS3
          refine hK _ _ ⟨hS4, ?_⟩
          clear hK K
          try simp only [List.getElem_toArray, List.getElem_cons_zero, List.getElem_cons_succ, Act.put, List.setIfInBounds_toArray, List.set_cons_zero, List.set_cons_succ]
          have hlow4 : Below wr.heap.size wr w4 := SixS.low hS4
          unfold wpKeepL
          simp only [List.drop_succ_cons, List.drop_zero]
          refine wpKeep_step rfl (fun K hK => ?_)
          go_simp
          refine hK _ _ ⟨trivial, wpKeep_nil ?_⟩
          clear hK K
          try simp only [List.getElem_toArray, List.getElem_cons_zero, List.getElem_cons_succ, Act.put, List.setIfInBounds_toArray, List.set_cons_zero, List.set_cons_succ]
          refine NormalOnly.mk ?_
          obtain ⟨s1, s2, _, _, _, _, _⟩ := hS4
          have hown4 := owns_below HST.out.2.1 hlow4
          have hbA4 := hbr.trans (hlow4.mono hbr.size)
          have hbs4 := hbA4.size
          have hrl := rowQ_len lo hi Q k
          have hcl := cellsF_len (rowQ lo hi Q k)
          obtain ⟨i0, hi', hz0, hz1, hz2⟩ := info_parts slFracF.info
          go_wp2_with (at_builtin; refine wpList_append_own _ rfl (.tmp 36) (.tmp 42) 125 rfl wA.heap.size 47 i0 (.agg #[.int .i64 0, .int .i64 0]) 2 16 slFracF.ht hi' hz0 hz1 hz2 slFracF.hzs slFracF.hsz _ _ _ rfl (hown4.alloc _) ⟨w4.heap.size, 0, none⟩ 1 1 [.int .i64 qn, .int .i64 qd] rfl rfl (cell_two_new _ _ _ _) (by simp [Value.oneCell']) (by unfold maxLen; omega) (by omega) (by simp; omega) ?_; intro v' w5 hown5 hgrow _)
          have hb5 : Below wA.heap.size wA w5 := (hbA4.trans ((alloc_below w4 _).mono hbs4)).grown hgrow (by simp; omega) (fun g hg => (hown4.lt g hg).1)
          refine ⟨⟨k + 1, v', HPUT.out (of_decide_eq_true HL1.out.symm) (of_decide_eq_true HL2.out.symm) v' w5 hown5 hb5, rfl, int_succ k⟩, ?_⟩
          show Q.length - ((k : Int) + 1).toNat < Q.length - ((k : Int)).toNat
          omega
    · have hkn : decide ((k : Int) < (Q.length : Int)) = false := decide_eq_false (by omega)
      have hkq : k = Q.length := by have := hst.1; omega
      have hown := hst.2.1
      have hrow := rowQ_full lo hi Q
      have hrl := rowQ_len lo hi Q k
      rw [← hkq] at hrow
      have z0 : wr.cell? ⟨w.heap.size + 1, 0, none⟩ = some (.int .i64 hi.num) := (hbr.cell (p := ⟨w.heap.size + 1, 0, none⟩) hltA1).trans e0
      have z1 : wr.cell? ⟨w.heap.size + 1, 1, none⟩ = some (.int .i64 (hi.den : Int)) := (hbr.cell (p := ⟨w.heap.size + 1, 1, none⟩) hltA1).trans e1
      have hcl := cellsF_len (rowQ lo hi Q k)
      have hbs := hbr.size
      obtain ⟨i0, hi', hz0, hz1, hz2⟩ := info_parts slFracF.info
      have HROW := Lib.hid hrow
      clear hst hrow hkq
      go_wp2_with (at_builtin; refine wpList_append_own _ rfl (.tmp 44) (.tmp 46) 125 rfl wA.heap.size 47 i0 (.agg #[.int .i64 0, .int .i64 0]) 2 16 slFracF.ht hi' hz0 hz1 hz2 slFracF.hzs slFracF.hsz _ _ _ rfl (hown.alloc _) ⟨wr.heap.size, 0, none⟩ 1 1 [.int .i64 hi.num, .int .i64 (hi.den : Int)] rfl rfl (cell_two_new _ _ _ _) (by simp [Value.oneCell']) (by unfold maxLen; omega) (by omega) (by simp; omega) ?_; intro v' w5 hown5 hgrow _)
      have hb5 : Below wA.heap.size wA w5 := (hbr.trans ((alloc_below wr _).mono hbs)).grown hgrow (by simp; omega) (fun g hg => (hown.lt g hg).1)
      obtain ⟨l, hl'⟩ : ∃ l, l = insQ lo hi Q ++ [hi] := ⟨_, rfl⟩
      have hfr7 : Fracs w5 v' (lo :: l) := fracs_of_owns (by rw [hl', ← HROW.out, cellsF_snoc, List.length_append]; exact hown5)
      have hln : l.length ≤ 9 := by
        rw [hl', List.length_append]
        have := insQ_len lo hi Q
        simp
        omega
      have hdn : ∀ q ∈ lo :: l, Dn 192 2 q := by rw [hl']; exact row_dn hH hlo hhi
      have HL := Lib.hid hl'
      rw [← hl']
      have HSF := Lib.hid (sumK_full Q lo l)
      have HRC := Lib.hid (fun (k : Nat) (h1 : k < (lo :: l).length) (h2 : k < l.length) => round_c hQ hH hp hl hl0 hdn h1 h2 (by omega))
      have hS0 : SumSt Q lo l w5 0 (w5.alloc (Obj.cells #[.int .i64 0, .int .i64 1] 47)) := ⟨Nat.zero_le _, World.alloc_heap_new _ _, alloc_below _ _⟩
      have HS0 := Lib.hid hS0
      have hb05 := hbA.trans (hb5.mono hbA.size)
      have HQ5 := Lib.hid (hQD.below hb05)
      have hz5 := (hb5.block _ (lt_of_some hzA)).trans hzA
      have HZ5 := Lib.hid hz5
      have hlt5 := lt_of_some hz5
      obtain ⟨p7, c7, rfl, hc7, hm7, hx7⟩ := hfr7
      obtain ⟨b7, off7, rfl, hbl7, hcell7⟩ := hx7 (by simp)
      obtain ⟨n7, hn7⟩ : ∃ n7, (lo :: l).length = n7 := ⟨_, rfl⟩
      have hnl : n7 = l.length + 1 := by rw [← hn7]; simp
      rw [hn7] at hc7
      have hm7' : n7 ≤ 9223372036854775807 := by omega
      rw [hn7]
      have HNL := Lib.hid hnl
      clear hn7 hnl
      clear hS0 hz5 hown5 hgrow hown hcl hrl hbs hdn hl' hz0 hz1 hz2 hi' i0 hx7 hbr HST0 hzA hloA hhiA
      go_loopw [10] (fun iv wr => ∃ k : Nat, SumSt Q lo l w5 k wr ∧ iv = .int .i64 ((k : Int) + 1)) (fun iv _ => n7 - (intOf iv).toNat)
      case atStart => exact ⟨0, HS0.out, rfl⟩
      case round =>
        obtain ⟨k2, hst2, rfl⟩ := hrel
        obtain ⟨hk2, hbx, hbr2⟩ := hst2
        obtain ⟨N, hN⟩ : ∃ N : Int, N = (k2 : Int) + 1 := ⟨_, rfl⟩
        have HN := Lib.hid hN
        rw [← hN]
        have hnl := HNL.out
        by_cases hkl : k2 < l.length
        · obtain ⟨x0, x1⟩ := hcell7 k2 (by simp; omega)
          obtain ⟨y0, y1⟩ := hcell7 (k2 + 1) (by simp; omega)
          obtain ⟨a0, a1, b0, b1, s0, s1, d0, d1, g0, g1, t0, t1, C1, C2, C3, C4, C5, C6, C7⟩ := HRC.out k2 (by simp; omega) hkl
          have C1 := Lib.hid C1
          have C2 := Lib.hid C2
          have C3 := Lib.hid C3
          have C4 := Lib.hid C4
          have C5 := Lib.hid C5
          have C6 := Lib.hid C6
          have C7 := Lib.hid C7
          unfold CV at C1 C2 C3 C4 C5 C6 C7
          rw [show (lo :: l)[k2 + 1]'(by simp; omega) = l[k2] from rfl] at y0 y1
          obtain ⟨q0, hq0⟩ : ∃ q0, q0 = (sumK Q lo l (k2 + 1)).num := ⟨_, rfl⟩
          obtain ⟨q1, hq1⟩ : ∃ q1 : Int, q1 = ((sumK Q lo l (k2 + 1)).den : Int) := ⟨_, rfl⟩
          rw [← hq0, ← hq1] at C7
          have HNX := Lib.hid (fun (W : World) (h1 : W.heap[w5.heap.size]? = some (.cells #[.int .i64 q0, .int .i64 q1] 47 (0, 0))) (h2 : Below w5.heap.size w5 W) => (show SumSt Q lo l w5 (k2 + 1) W from ⟨hkl, by rw [← hq0, ← hq1]; exact h1, h2⟩))
          clear hq0 hq1
          have hb7r : b7 < wr.heap.size := Nat.lt_of_lt_of_le hbl7 hbr2.size
          have hb9r := lt_of_some hbx
          have c0 := (hbr2.cell (p := ⟨b7, off7 + k2 * 2, none⟩) hbl7).trans x0
          have c1 := (hbr2.cell (p := ⟨b7, off7 + k2 * 2 + 1, none⟩) hbl7).trans x1
          have c2 := (hbr2.cell (p := ⟨b7, off7 + (k2 + 1) * 2, none⟩) hbl7).trans y0
          have c3 := (hbr2.cell (p := ⟨b7, off7 + (k2 + 1) * 2 + 1, none⟩) hbl7).trans y1
          have HQR := Lib.hid (HQ5.out.below hbr2)
          generalize (lo :: l)[k2]'(by simp; omega) = x at *
          generalize l[k2] = y at *
          generalize (sumK Q lo l k2).num = r0 at *
          generalize ((sumK Q lo l k2).den : Int) = r1 at *
          generalize x.num = xn at *
          generalize (x.den : Int) = xd at *
          generalize y.num = yn at *
          generalize (y.den : Int) = yd at *
          obtain ⟨M, hM⟩ : ∃ M : Int, M = (k2 : Int) := ⟨_, rfl⟩
          have i1 : IntKind.i64.wrap (N - 1) = M := (IntWalk.i64_in _ (by omega)).trans (by omega)
          have i2 : (0 : Int) ≤ M := by omega
          have i3 : M.toNat = k2 := by omega
          have i4 : M < (n7 : Int) := by omega
          have i5 : (0 : Int) ≤ N := by omega
          have i6 : N.toNat = k2 + 1 := by omega
          have i7 : N < (n7 : Int) := by omega
          have i8 : decide (N < (n7 : Int)) = true := decide_eq_true i7
          have HBX := Lib.hid hbx
          clear hN hM x0 x1 y0 y1 hcell7 hbx hk2 hnl hkl
          go_upto_region 12 with fail
          go_cut [11] from 49 to 84 (fun s11 wx => BoxAt wr s0 s1 s11 wx)
          case first =>
            refine wp_held_alloc (fun W' => Below wr.heap.size wr W') [0, 1, 2, 3, 4, 5, 7, 8, 9, 10, 11] [6, 12, 13] 14 15 (by kernel_rfl) (by kernel_rfl) ⟨rfl, rfl, rfl, Nat.le_refl _, fun _ _ => rfl⟩ ?_
            iterate 11
              refine wpTakeL_step rfl ?_ rfl ?_ ?_
              rotate_left
              · intro W' hS'
                have s0 := (hS'.cell (p := ⟨b7, off7 + k2 * 2, none⟩) hb7r).trans c0
                have s1 := (hS'.cell (p := ⟨b7, off7 + k2 * 2 + 1, none⟩) hb7r).trans c1
                have s2 := (hS'.cell (p := ⟨b7, off7 + (k2 + 1) * 2, none⟩) hb7r).trans c2
                have s3 := (hS'.cell (p := ⟨b7, off7 + (k2 + 1) * 2 + 1, none⟩) hb7r).trans c3
                go_simp
                try with_reducible rfl
              try simp only [List.getElem_toArray, List.getElem_cons_zero, List.getElem_cons_succ, Act.put, List.setIfInBounds_toArray, List.set_cons_zero, List.set_cons_succ]
            have hH0 : Below wr.heap.size wr wr.drew := ⟨rfl, rfl, rfl, Nat.le_refl _, fun _ _ => rfl⟩
            generalize wr.drew = w0 at *
            unfold wpKeepA
            refine ⟨?_, ?_⟩
            · refine wpOne_mk rfl rfl (fun K hK => ?_)
              go_simp
              refine (C1.out _ _ (HQR.out.below hH0)).mono ?_
              rintro e wk1 ⟨rfl, hbwk1⟩
              have hK1 := hH0.trans (hbwk1.mono hH0.size)
              refine hK _ _ ⟨hK1, ?_⟩
              clear hK K
              try simp only [List.getElem_toArray, List.getElem_cons_zero, List.getElem_cons_succ, Act.put, List.setIfInBounds_toArray, List.set_cons_zero, List.set_cons_succ]
              unfold wpKeepA
              refine ⟨?_, ?_⟩
              · refine wpOne_mk rfl rfl (fun K hK => ?_)
                go_simp
                refine (C2.out _ _ (HQR.out.below hK1)).mono ?_
                rintro e wk2 ⟨rfl, hbwk2⟩
                have hK2 := hK1.trans (hbwk2.mono hK1.size)
                refine hK _ _ ⟨hK2, ?_⟩
                clear hK K
                try simp only [List.getElem_toArray, List.getElem_cons_zero, List.getElem_cons_succ, Act.put, List.setIfInBounds_toArray, List.set_cons_zero, List.set_cons_succ]
                unfold wpKeepA
                refine ⟨?_, ?_⟩
                · refine wpOne_mk rfl rfl (fun K hK => ?_)
                  go_simp
                  refine (C3.out _).mono ?_
                  rintro e wk3 ⟨rfl, hbwk3⟩
                  have hK3 := hK2.trans (hbwk3.mono hK2.size)
                  refine hK _ _ ⟨hK3, ?_⟩
                  clear hK K
                  try simp only [List.getElem_toArray, List.getElem_cons_zero, List.getElem_cons_succ, Act.put, List.setIfInBounds_toArray, List.set_cons_zero, List.set_cons_succ]
                  unfold wpKeepA
                  refine wpOne_mk rfl rfl (fun K hK => ?_)
                  go_simp
                  have hB4 := hK3.size
                  obtain ⟨wk4, hwwk4⟩ : ∃ wk4, wk4 = wk3.alloc (Obj.cells #[.int .i64 0, .int .i64 0] 47) := ⟨_, rfl⟩
                  have hz4 : wk4.heap[wk3.heap.size]? = some (.cells #[.int .i64 0, .int .i64 0] 47 (0, 0)) := by rw [hwwk4]; exact World.alloc_heap_new _ _
                  have hK4 : Below wr.heap.size wr wk4 := by rw [hwwk4]; exact hK3.trans ((alloc_below _ _).mono hK3.size)
                  rw [← hwwk4]
                  clear hwwk4
                  refine hK _ _ ⟨hK4, ?_⟩
                  clear hK K
                  try simp only [List.getElem_toArray, List.getElem_cons_zero, List.getElem_cons_succ, Act.put, List.setIfInBounds_toArray, List.set_cons_zero, List.set_cons_succ]
                  try unfold wpKeepL
                  simp only [List.drop_succ_cons, List.drop_zero]
                  try simp only [List.getElem_toArray, List.getElem_cons_zero, List.getElem_cons_succ, Act.put, List.setIfInBounds_toArray, List.set_cons_zero, List.set_cons_succ]
                  obtain ⟨_, _, _, _⟩ := two_cells hz4
                  have hpz := two_set1 (.int .i64 s1) (two_set0 (.int .i64 s0) hz4)
                  have HBA := Lib.hid (show BoxAt wr s0 s1 (.pointer (some ⟨_, 0, none⟩)) _ from ⟨_, rfl, hpz, hB4, (hK4.setCell (p := ⟨_, 0, none⟩) hB4 _).setCell (p := ⟨_, 1, none⟩) hB4 _⟩)
                  clear hpz hz4
                  refine wpKeep_step rfl (fun K hK => ?_)
                  go_simp
                  refine hK _ _ ⟨trivial, wpKeep_nil ?_⟩
                  clear hK K
                  try simp only [List.getElem_toArray, List.getElem_cons_zero, List.getElem_cons_succ, Act.put, List.setIfInBounds_toArray, List.set_cons_zero, List.set_cons_succ]
                  refine NormalOnly.mk ?_
                  go_wp2_with fail
                  go_meet
                  exact HBA.out
                · refine wpOne_mk rfl rfl (fun K hK => ?_)
                  go_simp
                  have hB5 := hK2.size
                  obtain ⟨wk5, hwwk5⟩ : ∃ wk5, wk5 = wk2.alloc (Obj.cells #[.int .i64 0, .int .i64 0] 47) := ⟨_, rfl⟩
                  have hz5 : wk5.heap[wk2.heap.size]? = some (.cells #[.int .i64 0, .int .i64 0] 47 (0, 0)) := by rw [hwwk5]; exact World.alloc_heap_new _ _
                  have hK5 : Below wr.heap.size wr wk5 := by rw [hwwk5]; exact hK2.trans ((alloc_below _ _).mono hK2.size)
                  rw [← hwwk5]
                  clear hwwk5
                  refine hK _ _ ⟨hK5, ?_⟩
                  clear hK K
                  try simp only [List.getElem_toArray, List.getElem_cons_zero, List.getElem_cons_succ, Act.put, List.setIfInBounds_toArray, List.set_cons_zero, List.set_cons_succ]
                  refine wpKeepL_step rfl rfl (fun K hK => ?_)
                  go_simp
                  refine (C3.out _).mono ?_
                  rintro e wk6 ⟨rfl, hbwk6⟩
                  have hK6 := hK5.trans (hbwk6.mono hK5.size)
                  refine hK _ _ ⟨hK6, ?_⟩
                  clear hK K
                  try simp only [List.getElem_toArray, List.getElem_cons_zero, List.getElem_cons_succ, Act.put, List.setIfInBounds_toArray, List.set_cons_zero, List.set_cons_succ]
                  have hz6 := (hbwk6.block _ (lt_of_some hz5)).trans hz5
                  try unfold wpKeepL
                  simp only [List.drop_succ_cons, List.drop_zero]
                  try simp only [List.getElem_toArray, List.getElem_cons_zero, List.getElem_cons_succ, Act.put, List.setIfInBounds_toArray, List.set_cons_zero, List.set_cons_succ]
                  obtain ⟨_, _, _, _⟩ := two_cells hz6
                  have hpz := two_set1 (.int .i64 s1) (two_set0 (.int .i64 s0) hz6)
                  have HBA := Lib.hid (show BoxAt wr s0 s1 (.pointer (some ⟨_, 0, none⟩)) _ from ⟨_, rfl, hpz, hB5, (hK6.setCell (p := ⟨_, 0, none⟩) hB5 _).setCell (p := ⟨_, 1, none⟩) hB5 _⟩)
                  clear hpz hz6
                  refine wpKeep_step rfl (fun K hK => ?_)
                  go_simp
                  refine hK _ _ ⟨trivial, wpKeep_nil ?_⟩
                  clear hK K
                  try simp only [List.getElem_toArray, List.getElem_cons_zero, List.getElem_cons_succ, Act.put, List.setIfInBounds_toArray, List.set_cons_zero, List.set_cons_succ]
                  refine NormalOnly.mk ?_
                  go_wp2_with fail
                  go_meet
                  exact HBA.out
              · refine wpOne_mk rfl rfl (fun K hK => ?_)
                go_simp
                have hB7 := hK1.size
                obtain ⟨wk7, hwwk7⟩ : ∃ wk7, wk7 = wk1.alloc (Obj.cells #[.int .i64 0, .int .i64 0] 47) := ⟨_, rfl⟩
                have hz7 : wk7.heap[wk1.heap.size]? = some (.cells #[.int .i64 0, .int .i64 0] 47 (0, 0)) := by rw [hwwk7]; exact World.alloc_heap_new _ _
                have hK7 : Below wr.heap.size wr wk7 := by rw [hwwk7]; exact hK1.trans ((alloc_below _ _).mono hK1.size)
                rw [← hwwk7]
                clear hwwk7
                refine hK _ _ ⟨hK7, ?_⟩
                clear hK K
                try simp only [List.getElem_toArray, List.getElem_cons_zero, List.getElem_cons_succ, Act.put, List.setIfInBounds_toArray, List.set_cons_zero, List.set_cons_succ]
                refine wpKeepL_step rfl rfl (fun K hK => ?_)
                go_simp
                refine (C2.out _ _ (HQR.out.below hK7)).mono ?_
                rintro e wk8 ⟨rfl, hbwk8⟩
                have hK8 := hK7.trans (hbwk8.mono hK7.size)
                refine hK _ _ ⟨hK8, ?_⟩
                clear hK K
                try simp only [List.getElem_toArray, List.getElem_cons_zero, List.getElem_cons_succ, Act.put, List.setIfInBounds_toArray, List.set_cons_zero, List.set_cons_succ]
                have hz8 := (hbwk8.block _ (lt_of_some hz7)).trans hz7
                refine wpKeepL_step rfl rfl (fun K hK => ?_)
                go_simp
                refine (C3.out _).mono ?_
                rintro e wk9 ⟨rfl, hbwk9⟩
                have hK9 := hK8.trans (hbwk9.mono hK8.size)
                refine hK _ _ ⟨hK9, ?_⟩
                clear hK K
                try simp only [List.getElem_toArray, List.getElem_cons_zero, List.getElem_cons_succ, Act.put, List.setIfInBounds_toArray, List.set_cons_zero, List.set_cons_succ]
                have hz9 := (hbwk9.block _ (lt_of_some hz8)).trans hz8
                try unfold wpKeepL
                simp only [List.drop_succ_cons, List.drop_zero]
                try simp only [List.getElem_toArray, List.getElem_cons_zero, List.getElem_cons_succ, Act.put, List.setIfInBounds_toArray, List.set_cons_zero, List.set_cons_succ]
                obtain ⟨_, _, _, _⟩ := two_cells hz9
                have hpz := two_set1 (.int .i64 s1) (two_set0 (.int .i64 s0) hz9)
                have HBA := Lib.hid (show BoxAt wr s0 s1 (.pointer (some ⟨_, 0, none⟩)) _ from ⟨_, rfl, hpz, hB7, (hK9.setCell (p := ⟨_, 0, none⟩) hB7 _).setCell (p := ⟨_, 1, none⟩) hB7 _⟩)
                clear hpz hz9
                refine wpKeep_step rfl (fun K hK => ?_)
                go_simp
                refine hK _ _ ⟨trivial, wpKeep_nil ?_⟩
                clear hK K
                try simp only [List.getElem_toArray, List.getElem_cons_zero, List.getElem_cons_succ, Act.put, List.setIfInBounds_toArray, List.set_cons_zero, List.set_cons_succ]
                refine NormalOnly.mk ?_
                go_wp2_with fail
                go_meet
                exact HBA.out
            · refine wpOne_mk rfl rfl (fun K hK => ?_)
              go_simp
              have hB10 := hH0.size
              obtain ⟨wk10, hwwk10⟩ : ∃ wk10, wk10 = w0.alloc (Obj.cells #[.int .i64 0, .int .i64 0] 47) := ⟨_, rfl⟩
              have hz10 : wk10.heap[w0.heap.size]? = some (.cells #[.int .i64 0, .int .i64 0] 47 (0, 0)) := by rw [hwwk10]; exact World.alloc_heap_new _ _
              have hK10 : Below wr.heap.size wr wk10 := by rw [hwwk10]; exact hH0.trans ((alloc_below _ _).mono hH0.size)
              rw [← hwwk10]
              clear hwwk10
              refine hK _ _ ⟨hK10, ?_⟩
              clear hK K
              try simp only [List.getElem_toArray, List.getElem_cons_zero, List.getElem_cons_succ, Act.put, List.setIfInBounds_toArray, List.set_cons_zero, List.set_cons_succ]
              refine wpKeepL_step rfl rfl (fun K hK => ?_)
              go_simp
              refine (C1.out _ _ (HQR.out.below hK10)).mono ?_
              rintro e wk11 ⟨rfl, hbwk11⟩
              have hK11 := hK10.trans (hbwk11.mono hK10.size)
              refine hK _ _ ⟨hK11, ?_⟩
              clear hK K
              try simp only [List.getElem_toArray, List.getElem_cons_zero, List.getElem_cons_succ, Act.put, List.setIfInBounds_toArray, List.set_cons_zero, List.set_cons_succ]
              have hz11 := (hbwk11.block _ (lt_of_some hz10)).trans hz10
              refine wpKeepL_step rfl rfl (fun K hK => ?_)
              go_simp
              refine (C2.out _ _ (HQR.out.below hK11)).mono ?_
              rintro e wk12 ⟨rfl, hbwk12⟩
              have hK12 := hK11.trans (hbwk12.mono hK11.size)
              refine hK _ _ ⟨hK12, ?_⟩
              clear hK K
              try simp only [List.getElem_toArray, List.getElem_cons_zero, List.getElem_cons_succ, Act.put, List.setIfInBounds_toArray, List.set_cons_zero, List.set_cons_succ]
              have hz12 := (hbwk12.block _ (lt_of_some hz11)).trans hz11
              refine wpKeepL_step rfl rfl (fun K hK => ?_)
              go_simp
              refine (C3.out _).mono ?_
              rintro e wk13 ⟨rfl, hbwk13⟩
              have hK13 := hK12.trans (hbwk13.mono hK12.size)
              refine hK _ _ ⟨hK13, ?_⟩
              clear hK K
              try simp only [List.getElem_toArray, List.getElem_cons_zero, List.getElem_cons_succ, Act.put, List.setIfInBounds_toArray, List.set_cons_zero, List.set_cons_succ]
              have hz13 := (hbwk13.block _ (lt_of_some hz12)).trans hz12
              try unfold wpKeepL
              simp only [List.drop_succ_cons, List.drop_zero]
              try simp only [List.getElem_toArray, List.getElem_cons_zero, List.getElem_cons_succ, Act.put, List.setIfInBounds_toArray, List.set_cons_zero, List.set_cons_succ]
              obtain ⟨_, _, _, _⟩ := two_cells hz13
              have hpz := two_set1 (.int .i64 s1) (two_set0 (.int .i64 s0) hz13)
              have HBA := Lib.hid (show BoxAt wr s0 s1 (.pointer (some ⟨_, 0, none⟩)) _ from ⟨_, rfl, hpz, hB10, (hK13.setCell (p := ⟨_, 0, none⟩) hB10 _).setCell (p := ⟨_, 1, none⟩) hB10 _⟩)
              clear hpz hz13
              refine wpKeep_step rfl (fun K hK => ?_)
              go_simp
              refine hK _ _ ⟨trivial, wpKeep_nil ?_⟩
              clear hK K
              try simp only [List.getElem_toArray, List.getElem_cons_zero, List.getElem_cons_succ, Act.put, List.setIfInBounds_toArray, List.set_cons_zero, List.set_cons_succ]
              refine NormalOnly.mk ?_
              go_wp2_with fail
              go_meet
              exact HBA.out
          case rest =>
            obtain ⟨B11, rfl, hbB, hBl, hbwd⟩ := hcut
            obtain ⟨wd, rfl⟩ : ∃ wd : World, wd = wc := ⟨_, rfl⟩
            have hb7d : b7 < wd.heap.size := Nat.lt_of_lt_of_le hb7r hbwd.size
            have hb9d : w5.heap.size < wd.heap.size := Nat.lt_of_lt_of_le hb9r hbwd.size
            have hb11 : B11 < wd.heap.size := lt_of_some hbB
            have d0 := (hbwd.cell (p := ⟨b7, off7 + k2 * 2, none⟩) hb7r).trans c0
            have d1 := (hbwd.cell (p := ⟨b7, off7 + k2 * 2 + 1, none⟩) hb7r).trans c1
            have d2 := (hbwd.cell (p := ⟨b7, off7 + (k2 + 1) * 2, none⟩) hb7r).trans c2
            have d3 := (hbwd.cell (p := ⟨b7, off7 + (k2 + 1) * 2 + 1, none⟩) hb7r).trans c3
            have hbx9 := (hbwd.block _ hb9r).trans HBX.out
            have HBX9 := Lib.hid hbx9
            obtain ⟨e0, e1, _, _⟩ := two_cells hbx9
            obtain ⟨e2, e3, _, _⟩ := two_cells hbB
            have hb5d := hbr2.trans (hbwd.mono hbr2.size)
            clear hbx9 hbB c0 c1 c2 c3
            go_wp2_with fail
            refine wp_held_list (fun W' => Below wd.heap.size wd W') [0, 1, 2, 3, 4, 5, 6, 7, 8, 9, 10, 12] [11, 13, 14, 15] 16 (by kernel_rfl) (by kernel_rfl) ⟨rfl, rfl, rfl, Nat.le_refl _, fun _ _ => rfl⟩ ?_
            iterate 12
              refine wpTakeL_step rfl ?_ rfl ?_ ?_
              rotate_left
              · intro W' hS'
                have s0 := (hS'.cell (p := ⟨b7, off7 + k2 * 2, none⟩) hb7d).trans d0
                have s1 := (hS'.cell (p := ⟨b7, off7 + k2 * 2 + 1, none⟩) hb7d).trans d1
                have s2 := (hS'.cell (p := ⟨b7, off7 + (k2 + 1) * 2, none⟩) hb7d).trans d2
                have s3 := (hS'.cell (p := ⟨b7, off7 + (k2 + 1) * 2 + 1, none⟩) hb7d).trans d3
                have s4 := (hS'.cell (p := ⟨w5.heap.size, 0, none⟩) hb9d).trans e0
                have s5 := (hS'.cell (p := ⟨w5.heap.size, 1, none⟩) hb9d).trans e1
                have s6 := (hS'.cell (p := ⟨B11, 0, none⟩) hb11).trans e2
                have s7 := (hS'.cell (p := ⟨B11, 1, none⟩) hb11).trans e3
                go_simp
                try with_reducible rfl
              try simp only [List.getElem_toArray, List.getElem_cons_zero, List.getElem_cons_succ, Act.put, List.setIfInBounds_toArray, List.set_cons_zero, List.set_cons_succ]
            have hG0 : Below wd.heap.size wd wd.drew := ⟨rfl, rfl, rfl, Nat.le_refl _, fun _ _ => rfl⟩
            refine wpKeepL_step rfl rfl (fun K hK => ?_)
            go_simp
            refine (C4.out _).mono ?_
            rintro e we ⟨rfl, hbwe⟩
            have hG1 := hG0.trans (hbwe.mono hG0.size)
            refine hK _ _ ⟨hG1, ?_⟩
            clear hK K
            try simp only [List.getElem_toArray, List.getElem_cons_zero, List.getElem_cons_succ, Act.put, List.setIfInBounds_toArray, List.set_cons_zero, List.set_cons_succ]
            refine wpKeepL_step rfl rfl (fun K hK => ?_)
            go_simp
            refine (C5.out _).mono ?_
            rintro e wf ⟨rfl, hbwf⟩
            have hG2 := hG1.trans (hbwf.mono hG1.size)
            refine hK _ _ ⟨hG2, ?_⟩
            clear hK K
            try simp only [List.getElem_toArray, List.getElem_cons_zero, List.getElem_cons_succ, Act.put, List.setIfInBounds_toArray, List.set_cons_zero, List.set_cons_succ]
            refine wpKeepL_step rfl rfl (fun K hK => ?_)
            go_simp
            refine (C6.out _).mono ?_
            rintro e wg ⟨rfl, hbwg⟩
            have hG3 := hG2.trans (hbwg.mono hG2.size)
            refine hK _ _ ⟨hG3, ?_⟩
            clear hK K
            try simp only [List.getElem_toArray, List.getElem_cons_zero, List.getElem_cons_succ, Act.put, List.setIfInBounds_toArray, List.set_cons_zero, List.set_cons_succ]
            refine wpKeepL_step rfl rfl (fun K hK => ?_)
            go_simp
            refine (C7.out _).mono ?_
            rintro e wh ⟨rfl, hbwh⟩
            have hG4 := hG3.trans (hbwh.mono hG3.size)
            refine hK _ _ ⟨hG4, ?_⟩
            clear hK K
            try simp only [List.getElem_toArray, List.getElem_cons_zero, List.getElem_cons_succ, Act.put, List.setIfInBounds_toArray, List.set_cons_zero, List.set_cons_succ]
            unfold wpKeepL
            simp only [List.drop_succ_cons, List.drop_zero]
            try simp only [List.getElem_toArray, List.getElem_cons_zero, List.getElem_cons_succ, Act.put, List.setIfInBounds_toArray, List.set_cons_zero, List.set_cons_succ]
            have hp3 := (hG4.block _ hb9d).trans HBX9.out
            obtain ⟨_, _, _, _⟩ := two_cells hp3
            have hpz := two_set1 (.int .i64 q1) (two_set0 (.int .i64 q0) hp3)
            have hb5h := hb5d.trans (hG4.mono hb5d.size)
            have HNW := Lib.hid (HNX.out _ hpz ((hb5h.setCell (p := ⟨w5.heap.size, 0, none⟩) (Nat.le_refl _) _).setCell (p := ⟨w5.heap.size, 1, none⟩) (Nat.le_refl _) _))
            clear hpz hp3
            refine wpKeep_step rfl (fun K hK => ?_)
            go_simp
            refine hK _ _ ⟨trivial, wpKeep_nil ?_⟩
            clear hK K
            try simp only [List.getElem_toArray, List.getElem_cons_zero, List.getElem_cons_succ, Act.put, List.setIfInBounds_toArray, List.set_cons_zero, List.set_cons_succ]
            refine NormalOnly.mk ?_
            go_wp2
            refine ⟨⟨k2 + 1, HNW.out, by rw [HN.out]; rfl⟩, ?_⟩
            show n7 - (N + 1).toNat < n7 - N.toNat
            omega
        · have hk3 : k2 = l.length := by omega
          have e8 : decide (N < (n7 : Int)) = false := decide_eq_false (by omega)
          rw [hk3, HSF.out] at hbx
          have HP := Lib.hid (show fracV (sumQ Q (pairsQ lo l)) = .agg #[.int .i64 (sumQ Q (pairsQ lo l)).num, .int .i64 ((sumQ Q (pairsQ lo l)).den : Int)] from rfl)
          have hzr := (hbr2.block _ hlt5).trans HZ5.out
          rw [show w.heap.size + 2 = w.heap.size + 1 + 1 from rfl] at hzr
          have hbwr := hb05.trans (hbr2.mono hb05.size)
          generalize hsn : sumQ Q (pairsQ lo l) = sq at *
          have HSN := Lib.hid hsn
          clear hsn
          generalize sq.num = q0 at *
          generalize (sq.den : Int) = q1 at *
          obtain ⟨e0, e1, _, _⟩ := two_cells hbx
          obtain ⟨f0, f1, _, _⟩ := two_cells hzr
          have hpz := two_set1 (.int .i64 q1) (two_set0 (.int .i64 q0) hzr)
          obtain ⟨x0, x1, _, _⟩ := two_cells hpz
          have X0 := Lib.hid x0
          have X1 := Lib.hid x1
          clear hpz hbx hzr hcell7 hN hnl hk3 hkl hk2 x0 x1
          go_wp2
          have x0 := X0.out
          have x1 := X1.out
          refine bodyPost_ret (v := .agg #[.int .i64 q0, .int .i64 q1]) (by simp [results, Tryz.results30, go_sem, x0, x1]) rfl ⟨by rw [← HP.out, ← HSN.out, HL.out], ?_⟩
          exact (hbwr.setCell (p := ⟨w.heap.size + 1 + 1, 0, none⟩) (by simp; omega) _).setCell (p := ⟨w.heap.size + 1 + 1, 1, none⟩) (by simp; omega) _
end Go.Proofs.YtbogpbjddaoeiaaGreatDoor
