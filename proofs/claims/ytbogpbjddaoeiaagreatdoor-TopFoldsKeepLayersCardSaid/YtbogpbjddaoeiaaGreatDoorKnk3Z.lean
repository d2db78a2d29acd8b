import Derived.Test.YtbogpbjddaoeiaaGreatDoorKnk1Z
import Derived.Test.YtbogpbjddaoeiaaGreatDoorAtLawZ
namespace Go.Proofs.YtbogpbjddaoeiaaGreatDoor
open Go.RowKit Go.Shelf
open Go.Lib (decDigits itoa nDigits)
attribute [local go_sem] Oper.semAt_some
/-- the dip and the length of a domain -/
def tK (D : List (Rat × Rat)) (k : Nat) : Rat := (D.getD k (0, 0)).1
def lK (D : List (Rat × Rat)) (k : Nat) : Rat := (D.getD k (0, 0)).2
/-- where a domain begins on the bed of the height 0 -/
def atK (s : QP) (D : List (Rat × Rat)) : Nat → QP
  | 0 => s
  | k + 1 => plusQ (atK s D k) (dirQ (tK D k)) (lK D k)
structure PrOk (s : QP) (D : List (Rat × Rat)) : Prop where
  s1 : OkB s.1
  s2 : OkB s.2
  d : ∀ x ∈ D, OkB x.1 ∧ OkB x.2
  n : D.length ≤ 4
  ne : 0 < D.length
theorem tK_eq {D : List (Rat × Rat)} {k : Nat} (h : k < D.length) : D[k].1 = tK D k := by unfold tK; rw [List.getD_eq_getElem?_getD, List.getElem?_eq_getElem h]; rfl
theorem lK_eq {D : List (Rat × Rat)} {k : Nat} (h : k < D.length) : D[k].2 = lK D k := by unfold lK; rw [List.getD_eq_getElem?_getD, List.getElem?_eq_getElem h]; rfl
theorem sz0 : Sz 402 0 := by unfold Sz; rw [tx0]; decide
theorem PrOk.t {s : QP} {D : List (Rat × Rat)} (h : PrOk s D) (k : Nat) : Sz 402 (tK D k) := by
  by_cases hk : k < D.length
  · rw [← tK_eq hk]; exact (h.d _ (List.getElem_mem hk)).1.sz
  · unfold tK; rw [List.getD_eq_getElem?_getD, List.getElem?_eq_none (by omega)]; exact sz0
theorem PrOk.l {s : QP} {D : List (Rat × Rat)} (h : PrOk s D) (k : Nat) : Sz 402 (lK D k) := by
  by_cases hk : k < D.length
  · rw [← lK_eq hk]; exact (h.d _ (List.getElem_mem hk)).2.sz
  · unfold lK; rw [List.getD_eq_getElem?_getD, List.getElem?_eq_none (by omega)]; exact sz0
theorem PrOk.dir {s : QP} {D : List (Rat × Rat)} (h : PrOk s D) (k : Nat) : Sz2 4924 (dirQ (tK D k)) := sz_dir (h.t k)
theorem sz_plus {a b c : Nat} {p d : QP} {k : Rat} (hp : Sz2 a p) (hd : Sz2 b d) (hk : Sz c k) : Sz2 (2 * (a + (c + b + 4)) + 4) (plusQ p d k) := ⟨hp.1.add (hk.mul hd.1), hp.2.add (hk.mul hd.2)⟩
theorem PrOk.atz {s : QP} {D : List (Rat × Rat)} (h : PrOk s D) : ∀ k, Sz2 (12000 * 2 ^ k - 10664) (atK s D k)
  | 0 => ⟨h.s1.sz.mono (by decide), h.s2.sz.mono (by decide)⟩
  | k + 1 => (sz_plus (h.atz k) (h.dir k) (h.l k)).mono (by have := Nat.one_le_two_pow (n := k); omega)
theorem PrOk.at4 {s : QP} {D : List (Rat × Rat)} (h : PrOk s D) {k : Nat} (hk : k ≤ 4) : Sz2 181336 (atK s D k) :=
  (h.atz k).mono (by have : 2 ^ k ≤ 2 ^ 4 := Nat.pow_le_pow_right (by decide) hk; omega)
/-- a domain as a value -/
def domV (s : QP) (D : List (Rat × Rat)) (k : Nat) : Value :=
  .agg #[.string (tx (dirQ (tK D k)).1), .string (tx (dirQ (tK D k)).2), .string (tx (upQ (dirQ (tK D k))).1), .string (tx (upQ (dirQ (tK D k))).2), .string (tx (atK s D k).1), .string (tx (atK s D k).2), .string (tx (lK D k))]
/-- what a round must keep: the blocks below n₀, the profile's box, and all cells of a point -/
def KeepP (n₀ B1 : Nat) (W W' : World) : Prop := Below n₀ W W' ∧ W'.heap[B1]? = W.heap[B1]? ∧ ∀ (k : Nat) (c : Array Value) (fz : Nat × Nat), W.heap[k]? = some (Obj.cells c 104 fz) → W'.heap[k]? = some (Obj.cells c 104 fz)
theorem KeepP.refl (n₀ B1 : Nat) (W : World) : KeepP n₀ B1 W W := ⟨Below.refl _ _, rfl, fun _ _ _ h => h⟩
theorem KeepP.trans {n₀ B1 : Nat} {A B C : World} (h : KeepP n₀ B1 A B) (k : KeepP n₀ B1 B C) : KeepP n₀ B1 A C := ⟨h.1.trans k.1, k.2.1.trans h.2.1, fun i c fz hi => k.2.2 i c fz (h.2.2 i c fz hi)⟩
theorem KeepP.cell {n₀ B1 : Nat} {A B : World} (h : KeepP n₀ B1 A B) {a : Addr} (ha : a.block < n₀ ∨ a.block = B1) : B.cell? a = A.cell? a := by
  rcases ha with ha | ha
  · exact World.cell?_of_block (h.1.block a.block ha)
  · exact World.cell?_of_block (by rw [ha]; exact h.2.1)
theorem KeepP.of_below {n₀ B1 : Nat} {W W' : World} (h : Below W.heap.size W W') (h1 : n₀ ≤ W.heap.size) (h2 : B1 < W.heap.size) : KeepP n₀ B1 W W' :=
  ⟨h.mono h1, h.block B1 h2, fun k _ _ hk => (h.block k (lt_of_some hk)).trans hk⟩
theorem KeepP.put {n₀ B1 : Nat} {w : World} (h1 : n₀ ≤ w.heap.size) (h2 : B1 < w.heap.size) (W : World) (l : Nat) (o o' : Obj) (hl : w.heap.size ≤ l) (ho : W.heap[l]? = some o) (hc : o.isCells = false) (hwk : o.isWalk = false) : KeepP n₀ B1 W (W.putObj l o') := by
  refine ⟨belowK_b h1 W l o o' hl ho hc hwk, ?_, fun k _ _ hk => ?_⟩
  · simp only [World.putObj]
    rw [Array.getElem?_setIfInBounds, if_neg (by omega)]
  · simp only [World.putObj]
    rw [Array.getElem?_setIfInBounds, if_neg, hk]
    intro e
    subst e
    rw [hk] at ho
    cases ho
    simp [Obj.isCells] at hc
def KeepQ (n₀ B1 : Nat) (W W' : World) : Prop := Below n₀ W W' ∧ W'.heap[B1]? = W.heap[B1]?
theorem KeepP.q {n₀ B1 : Nat} {A B : World} (h : KeepP n₀ B1 A B) : KeepQ n₀ B1 A B := ⟨h.1, h.2.1⟩
theorem KeepQ.trans {n₀ B1 : Nat} {A B C : World} (h : KeepQ n₀ B1 A B) (k : KeepQ n₀ B1 B C) : KeepQ n₀ B1 A C := ⟨h.1.trans k.1, k.2.trans h.2⟩
theorem KeepQ.cell {n₀ B1 : Nat} {A B : World} (h : KeepQ n₀ B1 A B) {a : Addr} (ha : a.block < n₀ ∨ a.block = B1) : B.cell? a = A.cell? a := by
  rcases ha with ha | ha
  · exact World.cell?_of_block (h.1.block a.block ha)
  · exact World.cell?_of_block (by rw [ha]; exact h.2)
theorem KeepQ.set {n₀ B1 : Nat} {A B : World} (h : KeepQ n₀ B1 A B) (a : Addr) (v : Value) (h1 : n₀ ≤ a.block) (h2 : a.block ≠ B1) : KeepQ n₀ B1 A (B.setCell a v) :=
  ⟨h.1.setCell (p := a) h1 v, (by
    show (B.heap.modify a.block _)[B1]? = _
    rw [Array.getElem?_modify, if_neg h2]; exact h.2)⟩
theorem abidesT_below {T : TypeId} {B : Nat} {J : Nat → World → Prop} (h : AbidesT T B J) {k : Nat} {W W' : World} (hs : J k W) (hb : Below W.heap.size W W') : J k W' :=
  h k W W' none hs ⟨hb.os, hb.tape, hb.output, hb.size, fun k hk _ => hb.block k hk⟩ (fun r e => by cases e)
theorem abidesT_set {T : TypeId} {B : Nat} {J : Nat → World → Prop} (h : AbidesT T B J) {k : Nat} {W : World} (hs : J k W) {a : Addr} (v : Value) (ha : B ≤ a.block) {c : Array Value} {fz : Nat × Nat} (ho : W.heap[a.block]? = some (.cells c T fz)) : J k (W.setCell a v) :=
  h k W _ (some a.block) hs ⟨rfl, rfl, rfl, by simp [World.setCell], fun j hj hne => by
    show (W.heap.modify a.block _)[j]? = _
    rw [Array.getElem?_modify, if_neg (fun e => hne (by rw [e]))]⟩ (fun r e => by cases e; exact ⟨ha, _, ho, .inr ⟨c, fz, rfl⟩⟩)
theorem below_of_eq {n : Nat} {W W' : World} (h : W' = W) : Below n W W' := h ▸ Below.refl _ _
set_option maxRecDepth 100000 in
set_option maxHeartbeats 4000000 in
theorem domains1_in (n : Nat) (_hn : 1 ≤ n) (l Bp : Nat) (wd : World) (hgd : Good wd) (s : QP) (D : List (Rat × Rat)) (hP : PrOk s D) (vd vl : Value) (hvd : Txs wd vd (D.map (·.1))) (hvl : Txs wd vl (D.map (·.2))) (J Jx : Nat → World → Prop)
    (W : World) (hbW : Below wd.heap.size wd W) (hJ : AbidesT 104 W.heap.size J)
    (hY : ∀ k (_ : k < D.length) W1, J k W1 → YieldAt Fence.wide (n - 1) Tryz.prog l #[.int .i64 (k : Int), domV s D k] W1 fun e W' => (e = .returned (.bool true) ∧ J (k + 1) W' ∧ KeepP wd.heap.size Bp W1 W') ∨ (e = .returned (.bool false) ∧ Jx k W'))
    (hbp : Bp < W.heap.size) (e0 : W.cell? ⟨Bp, 0, none⟩ = some (.string (tx s.1))) (e1 : W.cell? ⟨Bp, 1, none⟩ = some (.string (tx s.2))) (e2 : W.cell? ⟨Bp, 2, none⟩ = some vd) (e3 : W.cell? ⟨Bp, 3, none⟩ = some vl) (h0 : J 0 W) :
    CallsIn Fence.wide n Tryz.prog 161 #[.func (.yield l) #[] #[], .pointer (some ⟨Bp, 0, none⟩)] W fun e W' => (∃ v, e = .returned v) ∧ (J D.length W' ∨ ∃ k, k < D.length ∧ Jx k W') := by
  obtain ⟨bd, cd, rfl, hdn, hdm, hdl, hdc⟩ := hvd
  obtain ⟨bl, cl, rfl, hln, hlm, hll, hlc⟩ := hvl
  simp only [List.length_map, List.getElem_map] at *
  have HDIR := Lib.hid (fun k w' (hg : Good w') => kink_direction (tK D k) ((hP.t k).mono (by decide)) w' hg)
  have HUP := Lib.hid (fun k w' => kink_up (dirQ (tK D k)) ((hP.dir k).mono (by decide)) w')
  have HPL := Lib.hid (fun k (hk : k < D.length) w' (hg : Good w') => show Calls Tryz.prog 118 #[ptV (atK s D k), ptV (dirQ (tK D k)), .string (tx (lK D k))] w' (RV (ptV (atK s D (k + 1))) w') from
    kink_plus (atK s D k) (dirQ (tK D k)) (lK D k) ((hP.at4 (Nat.le_trans (Nat.le_of_lt hk) hP.n)).mono (by decide)) ((hP.dir k).mono (by decide)) ((hP.l k).mono (by decide)) w' hg)
  unfold RV ptV at HDIR HUP HPL
  have HD := Lib.hid (fun k (hk : k < D.length) => (hdc k hk).trans (by rw [tK_eq hk]))
  have HL := Lib.hid (fun k (hk : k < D.length) => (hlc k hk).trans (by rw [lK_eq hk]))
  have hds : D.length ≤ 4 := hP.n
  have HJ := Lib.hid hJ
  have HY := Lib.hid hY
  unfold domV at HY
  obtain ⟨wA, hwA⟩ : ∃ wA, wA = W.alloc (Obj.cells #[.string (tx s.1), .string (tx s.2)] 104) := ⟨_, rfl⟩
  have HWA := Lib.hid hwA
  have hrA : Below W.heap.size W wA := by rw [hwA]; exact alloc_below _ _
  have hk0 : wA.heap[W.heap.size]? = some (.cells #[.string (tx (atK s D 0).1), .string (tx (atK s D 0).2)] 104 (0, 0)) := by rw [hwA]; exact World.alloc_heap_new _ _
  have hJA : J 0 wA := abidesT_below hJ h0 hrA
  have hKA : KeepP wd.heap.size Bp W wA := KeepP.of_below hrA hbW.size hbp
  have hsA : wA.heap.size = W.heap.size + 1 := by rw [hwA]; simp
  have HSA := Lib.hid hsA
  clear hJ hY hP hdc hlc hwA hsA
  refine callsIn_of_wp Tryz.func161 rfl trivial ?_ rfl
  simp only [Tryz.ntmps161, List.size_toArray, List.length_cons, List.length_nil, Nat.reduceAdd, Nat.reduceSub, Array.replicate_succ, Array.replicate_zero, List.push_toArray, List.append_toArray, List.nil_append, List.cons_append]
  gi_wp2
  rw [← HWA.out]
  gi_loopw [4, 5, 6, 12] (fun _ _ _ iv wr => ∃ k : Nat, k ≤ D.length ∧ iv = .int .i64 (k : Int) ∧ J k wr ∧ KeepQ wd.heap.size Bp W wr ∧ wr.heap[W.heap.size]? = some (.cells #[.string (tx (atK s D k).1), .string (tx (atK s D k).2)] 104 (0, 0)))
    (fun _ _ _ iv _ => D.length - (intOf iv).toNat)
  case atStart => exact ⟨0, Nat.zero_le _, rfl, hJA, hKA.q, hk0⟩
  case round =>
    obtain ⟨k, hk, rfl, hJs, hnx, hbx⟩ := hrel
    have hszr := hnx.1.size
    have hszW := hbW.size
    have hgr : Good wr := hgd.below (hbW.trans hnx.1)
    have hbr := hbW.trans hnx.1
    have r0 := (hnx.cell (a := ⟨Bp, 0, none⟩) (.inr rfl)).trans e0
    have r1 := (hnx.cell (a := ⟨Bp, 1, none⟩) (.inr rfl)).trans e1
    have r2 := (hnx.cell (a := ⟨Bp, 2, none⟩) (.inr rfl)).trans e2
    have r3 := (hnx.cell (a := ⟨Bp, 3, none⟩) (.inr rfl)).trans e3
    have HNX := Lib.hid hnx
    have HBX := Lib.hid hbx
    have HJS := Lib.hid hJs
    have hB0l := lt_of_blk hbx
    obtain ⟨x0, x1, _, _⟩ := two_cells hbx
    clear e0 e1 e2 e3 hnx hbx hJs h0 hJA hKA hk0 hrA
    by_cases hkl : k < D.length
    · have t0 := (hbr.cell (p := ⟨bd, k, none⟩) hdl).trans (HD.out k hkl)
      have l0 := (hbr.cell (p := ⟨bl, k, none⟩) hll).trans (HL.out k hkl)
      have HY1 := Lib.hid (HY.out k hkl)
      have HDIR1 := Lib.hid (HDIR.out k)
      have HUP1 := Lib.hid (HUP.out k)
      have HPL1 := Lib.hid (HPL.out k hkl)
      have hkn : decide ((k : Int) < (D.length : Int)) = true := decide_eq_true (by omega)
      have i1 : (0 : Int) ≤ (k : Int) := by omega
      have i2 : (k : Int) < (D.length : Int) := by omega
      clear HY HDIR HUP HPL HD HL
      gi_wp2
      refine ⟨trivial, ?_⟩
      refine (callsIn_wide.2 (HDIR1.out wr hgr)).mono ?_
      rintro e w1 ⟨rfl, hb1⟩
      gi_wp2
      obtain ⟨wB, hwB⟩ : ∃ wB, wB = w1.alloc (Obj.cells #[.string (tx (dirQ (tK D k)).1), .string (tx (dirQ (tK D k)).2)] 104) := ⟨_, rfl⟩
      have hb1B : Below w1.heap.size w1 wB := by rw [hwB]; exact alloc_below _ _
      have hbB := hb1.trans (hb1B.mono hb1.size)
      have hkB : wB.heap[w1.heap.size]? = some (.cells #[.string (tx (dirQ (tK D k)).1), .string (tx (dirQ (tK D k)).2)] 104 (0, 0)) := by rw [hwB]; exact World.alloc_heap_new _ _
      have hsB : wB.heap.size = w1.heap.size + 1 := by rw [hwB]; simp
      rw [← hwB]
      have hk3 := (hbB.block _ hB0l).trans HBX.out
      obtain ⟨y0, y1, _, _⟩ := two_cells hk3
      obtain ⟨z0, z1, _, _⟩ := two_cells hkB
      have q2 := (hbB.cell (p := ⟨Bp, 2, none⟩) (show Bp < _ by omega)).trans r2
      have q3 := (hbB.cell (p := ⟨Bp, 3, none⟩) (show Bp < _ by omega)).trans r3
      have m0 := (hbB.cell (p := ⟨bl, k, none⟩) (show bl < _ by omega)).trans l0
      have hs1 := hb1.size
      have L1 : W.heap.size < wB.heap.size := by omega
      have L2 : Bp < wB.heap.size := by omega
      have L3 : bl < wB.heap.size := by omega
      have L4 : w1.heap.size < wB.heap.size := by omega
      have HGB := Lib.hid (hgr.below hbB)
      have HKB := Lib.hid hkB
      have HK3 := Lib.hid hk3
      clear hwB hkB hk3 hsB
      refine wpIn_held_list lifts_wide (fun W' => Below wB.heap.size wB W') [0, 1, 2, 3, 5, 6, 7, 8, 9, 10] [4, 11] 12 (by kernel_rfl) (by kernel_rfl) (by kernel_rfl) ⟨rfl, rfl, rfl, Nat.le_refl _, fun _ _ => rfl⟩ ?_
      iterate 10
        refine wpTakeL_step rfl ?_ rfl ?_ ?_
        rotate_left
        · intro W' hS'
          have s0 := (hS'.cell (p := ⟨W.heap.size, 0, none⟩) L1).trans y0
          have s1 := (hS'.cell (p := ⟨W.heap.size, 1, none⟩) L1).trans y1
          have s2 := (hS'.cell (p := ⟨w1.heap.size, 0, none⟩) L4).trans z0
          have s3 := (hS'.cell (p := ⟨w1.heap.size, 1, none⟩) L4).trans z1
          have s4 := (hS'.cell (p := ⟨Bp, 2, none⟩) L2).trans q2
          have s5 := (hS'.cell (p := ⟨Bp, 3, none⟩) L2).trans q3
          have s6 := (hS'.cell (p := ⟨bl, k, none⟩) L3).trans m0
          go_simp
          try with_reducible rfl
        try simp only [List.getElem_toArray, List.getElem_cons_zero, List.getElem_cons_succ, Act.put, List.setIfInBounds_toArray, List.set_cons_zero, List.set_cons_succ]
      have hH0 : Below wB.heap.size wB wB.drew := ⟨rfl, rfl, rfl, Nat.le_refl _, fun _ _ => rfl⟩
      refine wpKeepL_step rfl rfl (fun K hK => ?_)
      go_simp
      refine (HUP1.out _).mono ?_
      rintro e v1 ⟨rfl, hbv1⟩
      have hH1 := hH0.trans (hbv1.mono hH0.size)
      refine hK _ _ ⟨hH1, ?_⟩
      clear hK K
      try simp only [List.getElem_toArray, List.getElem_cons_zero, List.getElem_cons_succ, Act.put, List.setIfInBounds_toArray, List.set_cons_zero, List.set_cons_succ]
      refine wpKeepL_step rfl rfl (fun K hK => ?_)
      go_simp
      refine hK _ _ ⟨hH1, ?_⟩
      clear hK K
      try simp only [List.getElem_toArray, List.getElem_cons_zero, List.getElem_cons_succ, Act.put, List.setIfInBounds_toArray, List.set_cons_zero, List.set_cons_succ]
      unfold wpKeepL
      simp only [List.drop_succ_cons, List.drop_zero]
      have hbv := hbB.trans (hH1.mono hbB.size)
      have hJv : J k v1 := abidesT_below HJ.out HJS.out hbv
      have hKv : KeepP wd.heap.size Bp wr v1 := KeepP.of_below hbv (by omega) (by omega)
      obtain ⟨fn, tmps, assign, body, hy, hR⟩ := HY1.out v1 hJv
      have HKv := Lib.hid hKv
      have HR3 := Lib.hid r3
      have HL0 := Lib.hid l0
      have H3v := Lib.hid ((hH1.block _ L1).trans HK3.out)
      have HBv := Lib.hid ((hH1.block _ L4).trans HKB.out)
      clear hKv hJv y0 y1 z0 z1 q2 q3 m0 t0 l0 r0 r1 r2 r3 x0 x1
      gi_wp2
      refine hR.mono ?_
      rintro e W9 (⟨rfl, hJ9, hk9⟩ | ⟨rfl, hJx9⟩)
      · have h39 := hk9.2.2 _ _ _ H3v.out
        have hB9 := hk9.2.2 _ _ _ HBv.out
        have hk19 := HKv.out.trans hk9
        have hs9 := hk19.1.size
        have q3 := (hk19.cell (a := ⟨Bp, 3, none⟩) (.inr rfl)).trans HR3.out
        have m0 := (hk19.cell (a := ⟨bl, k, none⟩) (.inl hll)).trans HL0.out
        have hv1s := hbv.size
        have L1 := lt_of_blk h39
        have L4 := lt_of_blk hB9
        have L2 : Bp < W9.heap.size := by
          have : W9.heap[Bp]? = _ := hk19.2.1
          have h0 := Array.getElem?_eq_getElem (show Bp < wr.heap.size by omega)
          rw [h0] at this
          exact lt_of_blk this
        have L3 : bl < W9.heap.size := by have := hk9.1.size; have := hbr.size; omega
        have HG9 := Lib.hid (hgd.below (hbr.trans hk19.1))
        obtain ⟨y0, y1, _, _⟩ := two_cells h39
        obtain ⟨z0, z1, _, _⟩ := two_cells hB9
        have H39 := Lib.hid h39
        clear h39 hB9
        gi_wp2
        refine wpIn_held_list lifts_wide (fun W' => Below W9.heap.size W9 W') [0, 1, 2, 3, 4, 5, 6] [7] 8 (by kernel_rfl) (by kernel_rfl) (by kernel_rfl) ⟨rfl, rfl, rfl, Nat.le_refl _, fun _ _ => rfl⟩ ?_
        iterate 7
          refine wpTakeL_step rfl ?_ rfl ?_ ?_
          rotate_left
          · intro W' hS'
            have s0 := (hS'.cell (p := ⟨W.heap.size, 0, none⟩) L1).trans y0
            have s1 := (hS'.cell (p := ⟨W.heap.size, 1, none⟩) L1).trans y1
            have s2 := (hS'.cell (p := ⟨w1.heap.size, 0, none⟩) L4).trans z0
            have s3 := (hS'.cell (p := ⟨w1.heap.size, 1, none⟩) L4).trans z1
            have s5 := (hS'.cell (p := ⟨Bp, 3, none⟩) L2).trans q3
            have s6 := (hS'.cell (p := ⟨bl, k, none⟩) L3).trans m0
            go_simp
            try with_reducible rfl
          try simp only [List.getElem_toArray, List.getElem_cons_zero, List.getElem_cons_succ, Act.put, List.setIfInBounds_toArray, List.set_cons_zero, List.set_cons_succ]
        have hN0 : Below W9.heap.size W9 W9.drew := ⟨rfl, rfl, rfl, Nat.le_refl _, fun _ _ => rfl⟩
        refine wpKeepL_step rfl rfl (fun K hK => ?_)
        go_simp
        refine (HPL1.out _ (HG9.out.below hN0)).mono ?_
        rintro e v2 ⟨rfl, hbv2⟩
        have hN1 := hN0.trans (hbv2.mono hN0.size)
        refine hK _ _ ⟨hN1, ?_⟩
        clear hK K
        try simp only [List.getElem_toArray, List.getElem_cons_zero, List.getElem_cons_succ, Act.put, List.setIfInBounds_toArray, List.set_cons_zero, List.set_cons_succ]
        unfold wpKeepL
        simp only [List.drop_succ_cons, List.drop_zero]
        have hkX := (hN1.block _ L1).trans H39.out
        have hkY := two_set0 (.string (tx (atK s D (k + 1)).1)) hkX
        have hkZ := two_set1 (.string (tx (atK s D (k + 1)).2)) hkY
        have J2 := abidesT_below HJ.out hJ9 hN1
        have J3 := abidesT_set HJ.out J2 (a := ⟨W.heap.size, 0, none⟩) (.string (tx (atK s D (k + 1)).1)) (Nat.le_refl _) hkX
        have J4 := abidesT_set HJ.out J3 (a := ⟨W.heap.size, 1, none⟩) (.string (tx (atK s D (k + 1)).2)) (Nat.le_refl _) hkY
        have K4 := ((HNX.out.trans (hk19.q.trans (KeepP.of_below (n₀ := wd.heap.size) (B1 := Bp) hN1 (by omega) L2).q)).set ⟨W.heap.size, 0, none⟩ (.string (tx (atK s D (k + 1)).1)) hszW (by simp; omega)).set ⟨W.heap.size, 1, none⟩ (.string (tx (atK s D (k + 1)).2)) hszW (by simp; omega)
        obtain ⟨_, _, _, _⟩ := two_cells hkX
        have HJ4 := Lib.hid J4
        have HK4 := Lib.hid K4
        have HKZ := Lib.hid hkZ
        clear J2 J3 J4 K4 hkX hkY hkZ y0 y1 z0 z1 q3 m0
        gi_wp2
        go_roundw
        case rel => exact ⟨k + 1, hkl, int_succ k, HJ4.out, HK4.out, HKZ.out⟩
        case measure => show D.length - ((k : Int) + 1).toNat < D.length - ((k : Int)).toNat; omega
      · gi_wp2
        refine bodyPost_ret (results_none rfl _ _ _) rfl ?_
        exact ⟨⟨_, rfl⟩, .inr ⟨k, hkl, hJx9⟩⟩
    · obtain rfl : k = D.length := by omega
      have hkn : decide ((D.length : Int) < (D.length : Int)) = false := decide_eq_false (by omega)
      gi_wp2
      go_end0
      exact ⟨⟨_, rfl⟩, .inl HJS.out⟩
/-- a profile as a value -/
def profV (s : QP) (vd vl : Value) : Value := .agg #[.string (tx s.1), .string (tx s.2), vd, vl]
def profO (s : QP) (vd vl : Value) : Obj := .cells #[.string (tx s.1), .string (tx s.2), vd, vl] 106
set_option maxRecDepth 100000 in
theorem kink_domains (n : Nat) (s : QP) (a b : Option Addr) (la ca lb cb : Nat) (w : World) :
    CallsIn Fence.wide n Tryz.prog 116 #[profV s (.slice a la ca) (.slice b lb cb)] w fun e w' => e = .returned (.func (.func 161) #[] #[.pointer (some ⟨w.heap.size, 0, none⟩)]) ∧ w' = w.alloc (profO s (.slice a la ca) (.slice b lb cb)) := by
  unfold profV profO
  generalize tx s.1 = s1
  generalize tx s.2 = s2
  refine callsIn_of_wp Tryz.func116 rfl trivial ?_ rfl
  simp only [Tryz.ntmps116, List.size_toArray, List.length_cons, List.length_nil, Nat.reduceAdd, Nat.reduceSub, Array.replicate_succ, Array.replicate_zero, List.push_toArray, List.append_toArray, List.nil_append, List.cons_append]
  gi_wp2
  go_ret
  exact ⟨rfl, rfl⟩
theorem prof_cells {w : World} {s : QP} {vd vl : Value} {B : Nat} (h : w.heap[B]? = some (profO s vd vl)) : w.cell? ⟨B, 0, none⟩ = some (.string (tx s.1)) ∧ w.cell? ⟨B, 1, none⟩ = some (.string (tx s.2)) ∧ w.cell? ⟨B, 2, none⟩ = some vd ∧ w.cell? ⟨B, 3, none⟩ = some vl := by
  unfold profO at h
  refine ⟨by simp [World.cell?, h], by simp [World.cell?, h], by simp [World.cell?, h], by simp [World.cell?, h]⟩
/-- what a round over a profile's domains is told -/
def domE (s : QP) (D : List (Rat × Rat)) (k : Nat) : Array Value := #[.int .i64 (k : Int), domV s D k]
/-- the iterator's contract -/
theorem domains_at (n : Nat) (hn : 1 ≤ n) (Bp : Nat) (wd : World) (hgd : Good wd) (s : QP) (D : List (Rat × Rat)) (hP : PrOk s D) (vd vl : Value) (hvd : Txs wd vd (D.map (·.1))) (hvl : Txs wd vl (D.map (·.2)))
    (w : World) (hw : Below wd.heap.size wd w) (hb : w.heap[Bp]? = some (profO s vd vl)) :
    SeqAt 104 Fence.wide n Tryz.prog 161 #[.pointer (some ⟨Bp, 0, none⟩)] (domE s D) (KeepP wd.heap.size Bp) (List.range D.length) w := by
  intro l J Jx W hW hJ _ hY h0
  have hbp := lt_of_blk hb
  obtain ⟨e0, e1, e2, e3⟩ := prof_cells ((hW.block Bp hbp).trans hb)
  simp only [List.length_range, List.getElem_range] at *
  exact domains1_in n hn l Bp wd hgd s D hP vd vl hvd hvl J Jx W (hw.trans (hW.mono hw.size)) hJ hY (Nat.lt_of_lt_of_le hbp hW.size) e0 e1 e2 e3 h0
end Go.Proofs.YtbogpbjddaoeiaaGreatDoor
