import Derived.Test.YtbogpbjddaoeiaaGreatDoorHeldInZ
import Derived.Test.YtbogpbjddaoeiaaGreatDoorPtsZ
import Derived.Test.YtbogpbjddaoeiaaGreatDoorLawKZ
import Derived.Test.YtbogpbjddaoeiaaGreatDoorPlainQZ
import Derived.Test.YtbogpbjddaoeiaaGreatDoorLinZ
namespace Go.Proofs.YtbogpbjddaoeiaaGreatDoor
open Go.RowKit Go.Shelf
open Go.Lib (decDigits itoa nDigits)
/-- the text of a number is no longer than this -/
def Sz (n : Nat) (q : Rat) : Prop := (tx q).size ≤ n
theorem tx_len (q : Rat) : (tx q).size = (rtext q).length := (isR_mk q).size
theorem Sz.mono {m n : Nat} {q : Rat} (h : Sz m q) (hn : m ≤ n) : Sz n q := Nat.le_trans h hn
theorem Sz.add {m n : Nat} {p q : Rat} (h : Sz m p) (k : Sz n q) : Sz (2 * (m + n) + 4) (p + q) := by
  have := rlen_add p q
  unfold Sz at *
  rw [tx_len] at *
  omega
theorem Sz.mul {m n : Nat} {p q : Rat} (h : Sz m p) (k : Sz n q) : Sz (m + n + 4) (p * q) := by
  have := rlen_mul p q
  unfold Sz at *
  rw [tx_len] at *
  omega
theorem Sz.neg {m : Nat} {p : Rat} (h : Sz m p) : Sz (m + 1) (-p) := by
  have := rlen_neg p
  unfold Sz at *
  rw [tx_len] at *
  omega
theorem Sz.sub {m n : Nat} {p q : Rat} (h : Sz m p) (k : Sz n q) : Sz (2 * (m + n) + 6) (p - q) := by
  have := isR_sub_size (s := tx p) (t := tx q) (r := tx (p - q)) (isR_mk p) (isR_mk q) (isR_mk (p - q))
  unfold Sz at *
  omega
theorem Sz.div {m n : Nat} {p q : Rat} (h : Sz m p) (k : Sz n q) : Sz (m + n + 8) (p * q⁻¹) := by
  have := isR_div_size (s := tx p) (t := tx q) (r := tx (p * q⁻¹)) (isR_mk p) (isR_mk q) (isR_mk (p * q⁻¹))
  unfold Sz at *
  omega
/-- a value comes back -/
def RV (v : Value) (w : World) (e : Ending) (w' : World) : Prop := e = .returned v ∧ Below w.heap.size w w'
theorem k_add (p q : Rat) (hp : Sz 1000000000 p) (hq : Sz 1000000000 q) (w : World) (hw : Good w) : Calls Tryz.prog 56 #[.string (tx p), .string (tx q)] w (RV (.string (tx (p + q))) w) :=
  (rational_Add (tx p) (tx q) p q (isR_mk p) (isR_mk q) hp hq w hw).mono fun e w' ⟨r, he, hr, hb⟩ => ⟨by rw [he, hr.unique (isR_mk (p + q))], hb⟩
theorem k_mul (p q : Rat) (hp : Sz 1000000000 p) (hq : Sz 1000000000 q) (w : World) (hw : Good w) : Calls Tryz.prog 75 #[.string (tx p), .string (tx q)] w (RV (.string (tx (p * q))) w) :=
  (rational_Mul (tx p) (tx q) p q (isR_mk p) (isR_mk q) hp hq w hw).mono fun e w' ⟨r, he, hr, hb⟩ => ⟨by rw [he, hr.unique (isR_mk (p * q))], hb⟩
theorem k_sub (p q : Rat) (hp : Sz 999999999 p) (hq : Sz 999999999 q) (w : World) (hw : Good w) : Calls Tryz.prog 58 #[.string (tx p), .string (tx q)] w (RV (.string (tx (p - q))) w) :=
  (rational_Sub (tx p) (tx q) p q (isR_mk p) (isR_mk q) hp hq w hw).mono fun e w' ⟨r, he, hr, hb⟩ => ⟨by rw [he, hr.unique (isR_mk (p - q))], hb⟩
theorem k_neg (p : Rat) (hp : Sz 1000000000 p) (w : World) : Calls Tryz.prog 105 #[.string (tx p)] w (RV (.string (tx (-p))) w) :=
  (rational_Neg (tx p) p (isR_mk p) (Nat.le_trans hp (by decide)) w).mono fun e w' ⟨r, he, hr, _, hb⟩ => ⟨by rw [he, hr.unique (isR_mk (-p))], hb ▸ Below.refl _ _⟩
theorem k_div (p q : Rat) (h0 : q ≠ 0) (hp : Sz 900000000 p) (hq : Sz 900000000 q) (w : World) (hw : Good w) : Calls Tryz.prog 84 #[.string (tx p), .string (tx q)] w (RV (.tuple #[.string (tx (p * q⁻¹)), .int .i64 0]) w) :=
  (rational_Div (tx p) (tx q) p q (isR_mk p) (isR_mk q) h0 hp hq w hw).mono fun e w' ⟨r, he, hr, hb⟩ => ⟨by rw [he, hr.unique (isR_mk (p * q⁻¹))], hb⟩
/-! points -/
def ptV (p : QP) : Value := .agg #[.string (tx p.1), .string (tx p.2)]
def Sz2 (n : Nat) (p : QP) : Prop := Sz n p.1 ∧ Sz n p.2
def plusQ (p d : QP) (k : Rat) : QP := (p.1 + k * d.1, p.2 + k * d.2)
def minusQ (p q : QP) : QP := plusQ p q (-1)
def dotQ (p q : QP) : Rat := p.1 * q.1 + p.2 * q.2
def upQ (d : QP) : QP := (-d.2, d.1)
def dirQ (t : Rat) : QP := ((1 - t * t) * (1 + t * t)⁻¹, (t + t) * (1 + t * t)⁻¹)
theorem Sz2.mono {m n : Nat} {p : QP} (h : Sz2 m p) (hn : m ≤ n) : Sz2 n p := ⟨h.1.mono hn, h.2.mono hn⟩
theorem boxes2 {w wA : World} {a b c d : Value} {t : TypeId} (hwA : wA = (w.alloc (Obj.cells #[a, b] t)).alloc (Obj.cells #[c, d] t)) :
    Below w.heap.size w wA ∧ wA.heap[w.heap.size]? = some (.cells #[a, b] t (0, 0)) ∧ wA.heap[w.heap.size + 1]? = some (.cells #[c, d] t (0, 0)) := by
  have e1 := World.alloc_heap_new w (Obj.cells #[a, b] t)
  have e2 := World.alloc_heap_new (w.alloc (Obj.cells #[a, b] t)) (Obj.cells #[c, d] t)
  have hb := alloc_below (w.alloc (Obj.cells #[a, b] t)) (Obj.cells #[c, d] t)
  rw [hwA]
  refine ⟨(alloc_below _ _).trans (hb.mono (by simp)), ?_, by simpa using e2⟩
  rw [hb.block _ (by simp)]
  exact e1
theorem boxes3 {w wA : World} {a b c d e f : Value} {t : TypeId} (hwA : wA = ((w.alloc (Obj.cells #[a, b] t)).alloc (Obj.cells #[c, d] t)).alloc (Obj.cells #[e, f] t)) :
    Below w.heap.size w wA ∧ wA.heap[w.heap.size]? = some (.cells #[a, b] t (0, 0)) ∧ wA.heap[w.heap.size + 1]? = some (.cells #[c, d] t (0, 0)) ∧ wA.heap[w.heap.size + 1 + 1]? = some (.cells #[e, f] t (0, 0)) := by
  obtain ⟨b1, e1, e2⟩ := boxes2 (w := w) (a := a) (b := b) (c := c) (d := d) (t := t) rfl
  have e3 := World.alloc_heap_new ((w.alloc (Obj.cells #[a, b] t)).alloc (Obj.cells #[c, d] t)) (Obj.cells #[e, f] t)
  have hb := alloc_below ((w.alloc (Obj.cells #[a, b] t)).alloc (Obj.cells #[c, d] t)) (Obj.cells #[e, f] t)
  rw [hwA]
  refine ⟨b1.trans (hb.mono b1.size), ?_, ?_, by simpa using e3⟩
  · rw [hb.block _ (by simp; omega)]; exact e1
  · rw [hb.block _ (by simp)]; exact e2
theorem lt_of_blk {w : World} {b : Nat} {o : Obj} (h : w.heap[b]? = some o) : b < w.heap.size := (Array.getElem?_eq_some_iff.1 h).1
set_option maxRecDepth 100000 in
set_option maxHeartbeats 4000000 in
theorem kink_plus (p d : QP) (k : Rat) (hp : Sz2 100000000 p) (hd : Sz2 100000000 d) (hk : Sz 100000000 k) (w : World) (hw : Good w) :
    Calls Tryz.prog 118 #[ptV p, ptV d, .string (tx k)] w (RV (ptV (plusQ p d k)) w) := by
  have M1 := Lib.hid (fun w' (hg : Good w') => k_mul k d.1 (hk.mono (by decide)) (hd.1.mono (by decide)) w' hg)
  have M2 := Lib.hid (fun w' (hg : Good w') => k_mul k d.2 (hk.mono (by decide)) (hd.2.mono (by decide)) w' hg)
  have A1 := Lib.hid (fun w' (hg : Good w') => k_add p.1 (k * d.1) (hp.1.mono (by decide)) ((hk.mul hd.1).mono (by decide)) w' hg)
  have A2 := Lib.hid (fun w' (hg : Good w') => k_add p.2 (k * d.2) (hp.2.mono (by decide)) ((hk.mul hd.2).mono (by decide)) w' hg)
  unfold RV at M1 M2 A1 A2
  unfold ptV plusQ
  dsimp only
  generalize tx (p.1 + k * d.1) = r1 at *
  generalize tx (p.2 + k * d.2) = r2 at *
  generalize tx (k * d.1) = m1 at *
  generalize tx (k * d.2) = m2 at *
  generalize tx p.1 = p1 at *
  generalize tx p.2 = p2 at *
  generalize tx d.1 = d1 at *
  generalize tx d.2 = d2 at *
  generalize tx k = tk at *
  clear hp hd hk
  go_enter Tryz.func118, Tryz.ntmps118
  go_wp2_with fail
  obtain ⟨wA, hwA⟩ : ∃ wA, wA = ((w.alloc (Obj.cells #[.string p1, .string p2] 104)).alloc (Obj.cells #[.string d1, .string d2] 104)).alloc (Obj.cells #[.string ⟨#[]⟩, .string ⟨#[]⟩] 104) := ⟨_, rfl⟩
  obtain ⟨hbA, x1, x2, x3⟩ := boxes3 hwA
  rw [← hwA]
  clear hwA
  obtain ⟨a0, a1, _, _⟩ := two_cells x1
  obtain ⟨b0, b1, _, _⟩ := two_cells x2
  have l1 := lt_of_blk x1
  have l2 := lt_of_blk x2
  have l3 := lt_of_blk x3
  have X3 := Lib.hid x3
  clear x1 x2 x3
  refine wp_held_list (fun W' => Below wA.heap.size wA W') [0, 1, 2, 3, 4, 7, 8, 9, 10, 11] [5, 6, 12, 13] 14 (by kernel_rfl) (by kernel_rfl) ⟨rfl, rfl, rfl, Nat.le_refl _, fun _ _ => rfl⟩ ?_
  iterate 10
    refine wpTakeL_step rfl ?_ rfl ?_ ?_
    rotate_left
    · intro W' hS'
      have s0 := (hS'.cell (p := ⟨w.heap.size, 0, none⟩) l1).trans a0
      have s1 := (hS'.cell (p := ⟨w.heap.size, 1, none⟩) l1).trans a1
      have s2 := (hS'.cell (p := ⟨w.heap.size + 1, 0, none⟩) l2).trans b0
      have s3 := (hS'.cell (p := ⟨w.heap.size + 1, 1, none⟩) l2).trans b1
      go_simp
      try with_reducible rfl
    try simp only [List.getElem_toArray, List.getElem_cons_zero, List.getElem_cons_succ, Act.put, List.setIfInBounds_toArray, List.set_cons_zero, List.set_cons_succ]
  have hH0 : Below wA.heap.size wA wA.drew := ⟨rfl, rfl, rfl, Nat.le_refl _, fun _ _ => rfl⟩
  refine wpKeepL_step rfl rfl (fun K hK => ?_)
  go_simp
  refine (M1.out _ (hw.below (hbA.trans (hH0.mono hbA.size)))).mono ?_
  rintro e v1 ⟨rfl, hbv1⟩
  have hH1 := hH0.trans (hbv1.mono hH0.size)
  refine hK _ _ ⟨hH1, ?_⟩
  clear hK K
  try simp only [List.getElem_toArray, List.getElem_cons_zero, List.getElem_cons_succ, Act.put, List.setIfInBounds_toArray, List.set_cons_zero, List.set_cons_succ]
  refine wpKeepL_step rfl rfl (fun K hK => ?_)
  go_simp
  refine (A1.out _ (hw.below (hbA.trans (hH1.mono hbA.size)))).mono ?_
  rintro e v2 ⟨rfl, hbv2⟩
  have hH2 := hH1.trans (hbv2.mono hH1.size)
  refine hK _ _ ⟨hH2, ?_⟩
  clear hK K
  try simp only [List.getElem_toArray, List.getElem_cons_zero, List.getElem_cons_succ, Act.put, List.setIfInBounds_toArray, List.set_cons_zero, List.set_cons_succ]
  refine wpKeepL_step rfl rfl (fun K hK => ?_)
  go_simp
  refine (M2.out _ (hw.below (hbA.trans (hH2.mono hbA.size)))).mono ?_
  rintro e v3 ⟨rfl, hbv3⟩
  have hH3 := hH2.trans (hbv3.mono hH2.size)
  refine hK _ _ ⟨hH3, ?_⟩
  clear hK K
  try simp only [List.getElem_toArray, List.getElem_cons_zero, List.getElem_cons_succ, Act.put, List.setIfInBounds_toArray, List.set_cons_zero, List.set_cons_succ]
  refine wpKeepL_step rfl rfl (fun K hK => ?_)
  go_simp
  refine (A2.out _ (hw.below (hbA.trans (hH3.mono hbA.size)))).mono ?_
  rintro e v4 ⟨rfl, hbv4⟩
  have hH4 := hH3.trans (hbv4.mono hH3.size)
  refine hK _ _ ⟨hH4, ?_⟩
  clear hK K
  try simp only [List.getElem_toArray, List.getElem_cons_zero, List.getElem_cons_succ, Act.put, List.setIfInBounds_toArray, List.set_cons_zero, List.set_cons_succ]
  have hbw := hbA.trans (hH4.mono hbA.size)
  have hp3 := (hH4.block _ l3).trans X3.out
  obtain ⟨_, _, _, _⟩ := two_cells hp3
  have hpz := two_set1 (.string r2) (two_set0 (.string r1) hp3)
  obtain ⟨q0, q1, _, _⟩ := two_cells hpz
  have Q0 := Lib.hid q0
  have Q1 := Lib.hid q1
  clear hpz hp3 q0 q1 a0 a1 b0 b1
  unfold wpKeepL
  simp only [List.drop_succ_cons, List.drop_zero]
  try simp only [List.getElem_toArray, List.getElem_cons_zero, List.getElem_cons_succ, Act.put, List.setIfInBounds_toArray, List.set_cons_zero, List.set_cons_succ]
  refine wpKeep_step rfl (fun K hK => ?_)
  go_simp
  refine hK _ _ ⟨trivial, ?_⟩
  clear hK K
  try simp only [List.getElem_toArray, List.getElem_cons_zero, List.getElem_cons_succ, Act.put, List.setIfInBounds_toArray, List.set_cons_zero, List.set_cons_succ]
  refine wpKeep_step rfl (fun K hK => ?_)
  go_simp
  refine hK _ _ ⟨trivial, wpKeep_nil ?_⟩
  clear hK K
  try simp only [List.getElem_toArray, List.getElem_cons_zero, List.getElem_cons_succ, Act.put, List.setIfInBounds_toArray, List.set_cons_zero, List.set_cons_succ]
  refine NormalOnly.mk ?_
  go_wp2
  have q0 := Q0.out
  have q1 := Q1.out
  refine bodyPost_ret (v := .agg #[.string r1, .string r2]) (by simp [results, Tryz.results118, go_sem, q0, q1]) rfl ⟨rfl, ?_⟩
  exact (hbw.setCell (p := ⟨w.heap.size + 1 + 1, 0, none⟩) (by simp; omega) _).setCell (p := ⟨w.heap.size + 1 + 1, 1, none⟩) (by simp; omega) _
theorem tx1 : tx 1 = ⟨#[49]⟩ := by show (⟨(rtext 1).toArray⟩ : ByteArray) = _; rw [text1]
theorem tx0 : tx 0 = ⟨#[48]⟩ := by show (⟨(rtext 0).toArray⟩ : ByteArray) = _; rw [text0]
theorem txm1 : tx (-1) = ⟨#[45, 49]⟩ := by show (⟨(rtext (-1)).toArray⟩ : ByteArray) = _; rw [rtext_neg (by decide +kernel) (by decide +kernel), text1]
set_option maxRecDepth 100000 in
set_option maxHeartbeats 4000000 in
theorem kink_minus (p q : QP) (hp : Sz2 100000000 p) (hq : Sz2 100000000 q) (w : World) (hw : Good w) :
    Calls Tryz.prog 120 #[ptV p, ptV q] w (RV (ptV (minusQ p q)) w) := by
  have PL := Lib.hid (fun w' (hg : Good w') => kink_plus p q (-1) hp hq (by unfold Sz; rw [txm1]; decide) w' hg)
  unfold RV at PL
  unfold minusQ
  rw [txm1] at PL
  unfold ptV at PL ⊢
  generalize (plusQ p q (-1)).1 = r1 at *
  generalize (plusQ p q (-1)).2 = r2 at *
  generalize tx r1 = r1 at *
  generalize tx r2 = r2 at *
  generalize tx p.1 = p1 at *
  generalize tx p.2 = p2 at *
  generalize tx q.1 = d1 at *
  generalize tx q.2 = d2 at *
  clear hp hq
  go_enter Tryz.func120, Tryz.ntmps120
  go_upto_region 1 with fail
  obtain ⟨wA, hwA⟩ : ∃ wA, wA = ((w.alloc (Obj.cells #[.string p1, .string p2] 104)).alloc (Obj.cells #[.string d1, .string d2] 104)).alloc (Obj.cells #[.string ⟨#[]⟩, .string ⟨#[]⟩] 104) := ⟨_, rfl⟩
  obtain ⟨hbA, x1, x2, x3⟩ := boxes3 hwA
  rw [← hwA]
  clear hwA
  obtain ⟨a0, a1, _, _⟩ := two_cells x1
  obtain ⟨b0, b1, _, _⟩ := two_cells x2
  have X3 := Lib.hid x3
  clear x1 x2 x3
  go_wp2_with fail
  refine (PL.out _ (hw.below hbA)).mono ?_
  rintro e w1 ⟨rfl, hb1⟩
  have hbw := hbA.trans (hb1.mono hbA.size)
  have hp3 := (hb1.block _ (lt_of_blk X3.out)).trans X3.out
  obtain ⟨_, _, _, _⟩ := two_cells hp3
  have hpz := two_set1 (.string r2) (two_set0 (.string r1) hp3)
  obtain ⟨q0, q1, _, _⟩ := two_cells hpz
  have Q0 := Lib.hid q0
  have Q1 := Lib.hid q1
  clear hpz hp3 q0 q1 a0 a1 b0 b1
  go_wp2
  have q0 := Q0.out
  have q1 := Q1.out
  refine bodyPost_ret (v := .agg #[.string r1, .string r2]) (by simp [results, Tryz.results120, go_sem, q0, q1]) rfl ⟨rfl, ?_⟩
  exact (hbw.setCell (p := ⟨w.heap.size + 1 + 1, 0, none⟩) (by simp; omega) _).setCell (p := ⟨w.heap.size + 1 + 1, 1, none⟩) (by simp; omega) _
theorem sz_dot {m : Nat} {p q : QP} (hp : Sz2 m p) (hq : Sz2 m q) : Sz (8 * m + 20) (dotQ p q) := ((hp.1.mul hq.1).add (hp.2.mul hq.2)).mono (by omega)
set_option maxRecDepth 100000 in
set_option maxHeartbeats 4000000 in
theorem kink_dot (p d : QP) (hp : Sz2 100000000 p) (hd : Sz2 100000000 d) (w : World) (hw : Good w) :
    Calls Tryz.prog 119 #[ptV p, ptV d] w (RV (.string (tx (dotQ p d))) w) := by
  have M1 := Lib.hid (fun w' (hg : Good w') => k_mul p.1 d.1 (hp.1.mono (by decide)) (hd.1.mono (by decide)) w' hg)
  have M2 := Lib.hid (fun w' (hg : Good w') => k_mul p.2 d.2 (hp.2.mono (by decide)) (hd.2.mono (by decide)) w' hg)
  have A1 := Lib.hid (fun w' (hg : Good w') => k_add (p.1 * d.1) (p.2 * d.2) ((hp.1.mul hd.1).mono (by decide)) ((hp.2.mul hd.2).mono (by decide)) w' hg)
  unfold RV at M1 M2 A1
  unfold ptV dotQ
  generalize tx (p.1 * d.1 + p.2 * d.2) = r at *
  generalize tx (p.1 * d.1) = m1 at *
  generalize tx (p.2 * d.2) = m2 at *
  generalize tx p.1 = p1 at *
  generalize tx p.2 = p2 at *
  generalize tx d.1 = d1 at *
  generalize tx d.2 = d2 at *
  clear hp hd
  go_enter Tryz.func119, Tryz.ntmps119
  go_wp2_with fail
  obtain ⟨wA, hwA⟩ : ∃ wA, wA = (w.alloc (Obj.cells #[.string p1, .string p2] 104)).alloc (Obj.cells #[.string d1, .string d2] 104) := ⟨_, rfl⟩
  obtain ⟨hbA, x1, x2⟩ := boxes2 hwA
  rw [← hwA]
  clear hwA
  obtain ⟨a0, a1, _, _⟩ := two_cells x1
  obtain ⟨b0, b1, _, _⟩ := two_cells x2
  have l1 := lt_of_blk x1
  have l2 := lt_of_blk x2
  clear x1 x2
  refine wp_held_list (fun W' => Below wA.heap.size wA W') [0, 1, 2, 3, 5, 6, 7, 8] [4, 9, 10] 11 (by kernel_rfl) (by kernel_rfl) ⟨rfl, rfl, rfl, Nat.le_refl _, fun _ _ => rfl⟩ ?_
  iterate 8
    refine wpTakeL_step rfl ?_ rfl ?_ ?_
    rotate_left
    · intro W' hS'
      have s0 := (hS'.cell (p := ⟨w.heap.size, 0, none⟩) l1).trans a0
      have s1 := (hS'.cell (p := ⟨w.heap.size, 1, none⟩) l1).trans a1
      have s2 := (hS'.cell (p := ⟨w.heap.size + 1, 0, none⟩) l2).trans b0
      have s3 := (hS'.cell (p := ⟨w.heap.size + 1, 1, none⟩) l2).trans b1
      go_simp
      try with_reducible rfl
    try simp only [List.getElem_toArray, List.getElem_cons_zero, List.getElem_cons_succ, Act.put, List.setIfInBounds_toArray, List.set_cons_zero, List.set_cons_succ]
  have hH0 : Below wA.heap.size wA wA.drew := ⟨rfl, rfl, rfl, Nat.le_refl _, fun _ _ => rfl⟩
  refine wpKeepL_step rfl rfl (fun K hK => ?_)
  go_simp
  refine (M1.out _ (hw.below (hbA.trans (hH0.mono hbA.size)))).mono ?_
  rintro e v1 ⟨rfl, hbv1⟩
  have hH1 := hH0.trans (hbv1.mono hH0.size)
  refine hK _ _ ⟨hH1, ?_⟩
  clear hK K
  try simp only [List.getElem_toArray, List.getElem_cons_zero, List.getElem_cons_succ, Act.put, List.setIfInBounds_toArray, List.set_cons_zero, List.set_cons_succ]
  refine wpKeepL_step rfl rfl (fun K hK => ?_)
  go_simp
  refine (M2.out _ (hw.below (hbA.trans (hH1.mono hbA.size)))).mono ?_
  rintro e v2 ⟨rfl, hbv2⟩
  have hH2 := hH1.trans (hbv2.mono hH1.size)
  refine hK _ _ ⟨hH2, ?_⟩
  clear hK K
  try simp only [List.getElem_toArray, List.getElem_cons_zero, List.getElem_cons_succ, Act.put, List.setIfInBounds_toArray, List.set_cons_zero, List.set_cons_succ]
  refine wpKeepL_step rfl rfl (fun K hK => ?_)
  go_simp
  refine (A1.out _ (hw.below (hbA.trans (hH2.mono hbA.size)))).mono ?_
  rintro e v3 ⟨rfl, hbv3⟩
  have hH3 := hH2.trans (hbv3.mono hH2.size)
  refine hK _ _ ⟨hH3, ?_⟩
  clear hK K
  try simp only [List.getElem_toArray, List.getElem_cons_zero, List.getElem_cons_succ, Act.put, List.setIfInBounds_toArray, List.set_cons_zero, List.set_cons_succ]
  unfold wpKeepL
  simp only [List.drop_succ_cons, List.drop_zero]
  try simp only [List.getElem_toArray, List.getElem_cons_zero, List.getElem_cons_succ, Act.put, List.setIfInBounds_toArray, List.set_cons_zero, List.set_cons_succ]
  refine wpKeep_step rfl (fun K hK => ?_)
  go_simp
  refine hK _ _ ⟨trivial, wpKeep_nil ?_⟩
  clear hK K
  try simp only [List.getElem_toArray, List.getElem_cons_zero, List.getElem_cons_succ, Act.put, List.setIfInBounds_toArray, List.set_cons_zero, List.set_cons_succ]
  refine NormalOnly.mk ?_
  go_wp2
  go_ret
  exact ⟨rfl, hbA.trans (hH3.mono hbA.size)⟩
set_option maxRecDepth 100000 in
set_option maxHeartbeats 4000000 in
theorem kink_up (d : QP) (hd : Sz2 100000000 d) (w : World) :
    Calls Tryz.prog 163 #[ptV d] w (RV (ptV (upQ d)) w) := by
  have N1 := Lib.hid (fun w' => k_neg d.2 (hd.2.mono (by decide)) w')
  unfold RV at N1
  unfold ptV upQ
  dsimp only
  generalize tx (-d.2) = r at *
  generalize tx d.1 = d1 at *
  generalize tx d.2 = d2 at *
  clear hd
  go_enter Tryz.func163, Tryz.ntmps163
  go_wp2_with fail
  obtain ⟨wA, hwA⟩ : ∃ wA, wA = (w.alloc (Obj.cells #[.string d1, .string d2] 104)).alloc (Obj.cells #[.string ⟨#[]⟩, .string ⟨#[]⟩] 104) := ⟨_, rfl⟩
  obtain ⟨hbA, x1, x2⟩ := boxes2 hwA
  rw [← hwA]
  clear hwA
  obtain ⟨a0, a1, _, _⟩ := two_cells x1
  have l1 := lt_of_blk x1
  have l2 := lt_of_blk x2
  have X3 := Lib.hid x2
  clear x1 x2
  refine wp_held_list (fun W' => Below wA.heap.size wA W') [0, 1, 3, 4] [2] 5 (by kernel_rfl) (by kernel_rfl) ⟨rfl, rfl, rfl, Nat.le_refl _, fun _ _ => rfl⟩ ?_
  iterate 4
    refine wpTakeL_step rfl ?_ rfl ?_ ?_
    rotate_left
    · intro W' hS'
      have s0 := (hS'.cell (p := ⟨w.heap.size, 0, none⟩) l1).trans a0
      have s1 := (hS'.cell (p := ⟨w.heap.size, 1, none⟩) l1).trans a1
      go_simp
      try with_reducible rfl
    try simp only [List.getElem_toArray, List.getElem_cons_zero, List.getElem_cons_succ, Act.put, List.setIfInBounds_toArray, List.set_cons_zero, List.set_cons_succ]
  have hH0 : Below wA.heap.size wA wA.drew := ⟨rfl, rfl, rfl, Nat.le_refl _, fun _ _ => rfl⟩
  refine wpKeepL_step rfl rfl (fun K hK => ?_)
  go_simp
  refine (N1.out _).mono ?_
  rintro e v1 ⟨rfl, hbv1⟩
  have hH1 := hH0.trans (hbv1.mono hH0.size)
  refine hK _ _ ⟨hH1, ?_⟩
  clear hK K
  try simp only [List.getElem_toArray, List.getElem_cons_zero, List.getElem_cons_succ, Act.put, List.setIfInBounds_toArray, List.set_cons_zero, List.set_cons_succ]
  have hbw := hbA.trans (hH1.mono hbA.size)
  have hp3 := (hH1.block _ l2).trans X3.out
  obtain ⟨_, _, _, _⟩ := two_cells hp3
  have hpz := two_set1 (.string d1) (two_set0 (.string r) hp3)
  obtain ⟨q0, q1, _, _⟩ := two_cells hpz
  have Q0 := Lib.hid q0
  have Q1 := Lib.hid q1
  clear hpz hp3 q0 q1 a0 a1
  unfold wpKeepL
  simp only [List.drop_succ_cons, List.drop_zero]
  try simp only [List.getElem_toArray, List.getElem_cons_zero, List.getElem_cons_succ, Act.put, List.setIfInBounds_toArray, List.set_cons_zero, List.set_cons_succ]
  refine wpKeep_step rfl (fun K hK => ?_)
  go_simp
  refine hK _ _ ⟨trivial, ?_⟩
  clear hK K
  try simp only [List.getElem_toArray, List.getElem_cons_zero, List.getElem_cons_succ, Act.put, List.setIfInBounds_toArray, List.set_cons_zero, List.set_cons_succ]
  refine wpKeep_step rfl (fun K hK => ?_)
  go_simp
  refine hK _ _ ⟨trivial, wpKeep_nil ?_⟩
  clear hK K
  try simp only [List.getElem_toArray, List.getElem_cons_zero, List.getElem_cons_succ, Act.put, List.setIfInBounds_toArray, List.set_cons_zero, List.set_cons_succ]
  refine NormalOnly.mk ?_
  go_wp2
  have q0 := Q0.out
  have q1 := Q1.out
  refine bodyPost_ret (v := .agg #[.string r, .string d1]) (by simp [results, Tryz.results163, go_sem, q0, q1]) rfl ⟨rfl, ?_⟩
  exact (hbw.setCell (p := ⟨w.heap.size + 1, 0, none⟩) (by simp) _).setCell (p := ⟨w.heap.size + 1, 1, none⟩) (by simp) _
theorem kink_quotient (p q : Rat) (h0 : q ≠ 0) (hp : Sz 900000000 p) (hq : Sz 900000000 q) (w : World) (hw : Good w) :
    Calls Tryz.prog 193 #[.string (tx p), .string (tx q)] w (RV (.string (tx (p * q⁻¹))) w) := by
  have D1 := Lib.hid (fun w' (hg : Good w') => k_div p q h0 hp hq w' hg)
  unfold RV at D1
  generalize tx (p * q⁻¹) = r at *
  generalize tx p = p1 at *
  generalize tx q = q1 at *
  clear hp hq
  go_enter Tryz.func193, Tryz.ntmps193
  go_wp2_with fail
  refine (D1.out w hw).mono ?_
  rintro e w1 ⟨rfl, hb1⟩
  go_wp2
  go_ret
  exact ⟨rfl, hb1⟩
theorem one_sq_ne (t : Rat) : 1 + t * t ≠ 0 := by
  have h : 0 ≤ t * t := by
    rcases rat_le_or 0 t with h | h
    · exact Rat.mul_nonneg h h
    · have := Rat.mul_nonneg (show 0 ≤ -t by grind) (show 0 ≤ -t by grind)
      grind
  grind
theorem sz_dir {t : Rat} {n : Nat} (h : Sz n t) : Sz2 (12 * n + 100) (dirQ t) := by
  have h1 : Sz 1 1 := by unfold Sz; rw [tx1]; decide
  have hs := h.mul h
  exact ⟨((h1.sub hs).div (h1.add hs)).mono (by omega), ((h.add h).div (h1.add hs)).mono (by omega)⟩
set_option maxRecDepth 100000 in
set_option maxHeartbeats 4000000 in
theorem kink_direction (t : Rat) (ht : Sz 10000000 t) (w : World) (hw : Good w) :
    Calls Tryz.prog 162 #[.string (tx t)] w (RV (ptV (dirQ t)) w) := by
  have h1 : Sz 1 1 := by unfold Sz; rw [tx1]; decide
  have hs := ht.mul ht
  have M1 := Lib.hid (fun w' (hg : Good w') => k_mul t t (ht.mono (by decide)) (ht.mono (by decide)) w' hg)
  have A1 := Lib.hid (fun w' (hg : Good w') => k_add 1 (t * t) (h1.mono (by decide)) (hs.mono (by decide)) w' hg)
  have S1 := Lib.hid (fun w' (hg : Good w') => k_sub 1 (t * t) (h1.mono (by decide)) (hs.mono (by decide)) w' hg)
  have Q1 := Lib.hid (fun w' (hg : Good w') => kink_quotient (1 - t * t) (1 + t * t) (one_sq_ne t) ((h1.sub hs).mono (by decide)) ((h1.add hs).mono (by decide)) w' hg)
  have A2 := Lib.hid (fun w' (hg : Good w') => k_add t t (ht.mono (by decide)) (ht.mono (by decide)) w' hg)
  have Q2 := Lib.hid (fun w' (hg : Good w') => kink_quotient (t + t) (1 + t * t) (one_sq_ne t) ((ht.add ht).mono (by decide)) ((h1.add hs).mono (by decide)) w' hg)
  unfold RV at M1 A1 S1 Q1 A2 Q2
  rw [tx1] at A1 S1
  unfold ptV dirQ
  dsimp only
  generalize tx ((1 - t * t) * (1 + t * t)⁻¹) = r1 at *
  generalize tx ((t + t) * (1 + t * t)⁻¹) = r2 at *
  generalize tx (1 - t * t) = m1 at *
  generalize tx (1 + t * t) = m2 at *
  generalize tx (t + t) = m3 at *
  generalize tx (t * t) = m4 at *
  generalize tx t = t1 at *
  clear ht hs h1
  go_enter Tryz.func162, Tryz.ntmps162
  go_wp2_with fail
  obtain ⟨wA, hwA⟩ : ∃ wA, wA = w.alloc (Obj.cells #[.string ⟨#[]⟩, .string ⟨#[]⟩] 104) := ⟨_, rfl⟩
  have hbA : Below w.heap.size w wA := by rw [hwA]; exact alloc_below _ _
  have hxA : wA.heap[w.heap.size]? = some (.cells #[.string ⟨#[]⟩, .string ⟨#[]⟩] 104 (0, 0)) := by rw [hwA]; exact World.alloc_heap_new _ _
  have XA := Lib.hid hxA
  rw [← hwA]
  clear hwA hxA
  refine (M1.out _ (hw.below hbA)).mono ?_
  rintro e v1 ⟨rfl, hv1⟩
  have hbv1 := hbA.trans (hv1.mono hbA.size)
  have hq1 := hv1
  go_wp2_with fail
  refine (A1.out _ (hw.below hbv1)).mono ?_
  rintro e v2 ⟨rfl, hv2⟩
  have hbv2 := hbv1.trans (hv2.mono hbv1.size)
  have hq2 := hq1.trans (hv2.mono hq1.size)
  go_wp2_with fail
  refine (S1.out _ (hw.below hbv2)).mono ?_
  rintro e v3 ⟨rfl, hv3⟩
  have hbv3 := hbv2.trans (hv3.mono hbv2.size)
  have hq3 := hq2.trans (hv3.mono hq2.size)
  go_wp2_with fail
  refine (Q1.out _ (hw.below hbv3)).mono ?_
  rintro e v4 ⟨rfl, hv4⟩
  have hbv4 := hbv3.trans (hv4.mono hbv3.size)
  have hq4 := hq3.trans (hv4.mono hq3.size)
  go_wp2_with fail
  refine (A2.out _ (hw.below hbv4)).mono ?_
  rintro e v5 ⟨rfl, hv5⟩
  have hbv5 := hbv4.trans (hv5.mono hbv4.size)
  have hq5 := hq4.trans (hv5.mono hq4.size)
  go_wp2_with fail
  refine (Q2.out _ (hw.below hbv5)).mono ?_
  rintro e v6 ⟨rfl, hv6⟩
  have hbv6 := hbv5.trans (hv6.mono hbv5.size)
  have hq6 := hq5.trans (hv6.mono hq5.size)
  have hbw := hbv6
  have hbq := hq6
  clear hv1 hv2 hv3 hv4 hv5 hv6
  have hp3 := (hbq.block _ (lt_of_blk XA.out)).trans XA.out
  obtain ⟨_, _, _, _⟩ := two_cells hp3
  have hpz := two_set1 (.string r2) (two_set0 (.string r1) hp3)
  obtain ⟨q0, q1, _, _⟩ := two_cells hpz
  have Q0 := Lib.hid q0
  have Q1 := Lib.hid q1
  clear hpz hp3 q0 q1
  go_wp2
  have q0 := Q0.out
  have q1 := Q1.out
  refine bodyPost_ret (v := .agg #[.string r1, .string r2]) (by simp [results, Tryz.results162, go_sem, q0, q1]) rfl ⟨rfl, ?_⟩
  exact (hbw.setCell (p := ⟨w.heap.size, 0, none⟩) (by simp) _).setCell (p := ⟨w.heap.size, 1, none⟩) (by simp) _
end Go.Proofs.YtbogpbjddaoeiaaGreatDoor
namespace Go.Proofs.YtbogpbjddaoeiaaGreatDoor
open Go.RowKit Go.Shelf
open Go.Lib (decDigits itoa nDigits)
/-- the number's text is right -/
def OkB (q : Rat) : Prop := ratB (tx q).data.toList = true
theorem OkB.sz {q : Rat} (h : OkB q) : Sz 402 q := ratB_size h
theorem k_check (q : Rat) (h : OkB q) (w : World) (hw : Good w) : Calls Tryz.prog 69 #[.string (tx q)] w (RV (.int .i64 0) w) := by
  have hs := h.sz
  unfold Sz at hs
  have := rational_Check (tx q) (by omega) w hw
  unfold RChkPost at this
  rw [show ratB (tx q).data.toList = true from h] at this
  exact this
/-- a slice of texts of numbers, not empty -/
def Txs (w : World) (v : Value) (C : List Rat) : Prop := ∃ b c, v = .slice (some ⟨b, 0, none⟩) C.length c ∧ C.length ≤ c ∧ c ≤ maxLen ∧ b < w.heap.size ∧ ∀ i (h : i < C.length), w.cell? ⟨b, i, none⟩ = some (.string (tx C[i]))
theorem Txs.below {w w' : World} {v : Value} {C : List Rat} (h : Txs w v C) (hb : Below w.heap.size w w') : Txs w' v C := by
  obtain ⟨b, c, h1, h2, h3, h4, h5⟩ := h
  exact ⟨b, c, h1, h2, h3, Nat.lt_of_lt_of_le h4 hb.size, fun i hi => (hb.cell (p := ⟨b, i, none⟩) h4).trans (h5 i hi)⟩
theorem txs_two (a b : Rat) (w : World) : Txs (w.alloc (Obj.cells #[.string (tx a), .string (tx b)] 31)) (.slice (some ⟨w.heap.size, 0, none⟩) 2 2) [a, b] := by
  refine ⟨_, _, rfl, Nat.le_refl _, by decide, by simp, fun i hi => ?_⟩
  match i, hi with
  | 0, _ => exact alloc_cells w #[_, _] _ 0 (by simp)
  | 1, _ => exact alloc_cells w #[_, _] _ 1 (by simp)
set_option maxRecDepth 100000 in
set_option maxHeartbeats 4000000 in
theorem vec_numbers (v : Value) (C : List Rat) (hC : ∀ c ∈ C, OkB c) (w : World) (hw : Good w) (hv : Txs w v C) (hl : C.length ≤ 1000) :
    Calls Tryz.prog 158 #[v] w (RV (.int .i64 0) w) := by
  obtain ⟨b, c, rfl, hcn, hcm, hbl, hcell⟩ := hv
  have HCK := Lib.hid (fun i (h : i < C.length) w' (hg : Good w') => k_check C[i] (hC _ (List.getElem_mem h)) w' hg)
  unfold RV at HCK
  have hbw := Below.refl w.heap.size w
  clear hC
  go_enter Tryz.func158, Tryz.ntmps158
  go_wp2_with fail
  go_loopw [2, 4, 5, 8] (fun _ _ _ iv wr => ∃ k : Nat, k ≤ C.length ∧ iv = .int .i64 (k : Int) ∧ Below w.heap.size w wr) (fun _ _ _ iv _ => C.length - (intOf iv).toNat)
  case atStart => exact ⟨0, Nat.zero_le _, rfl, hbw⟩
  case round =>
    obtain ⟨k, hkl, rfl, hbr⟩ := hrel
    by_cases hk : k < C.length
    · have c0 := hcell k hk
      rw [← hbr.cell (p := ⟨b, k, none⟩) hbl] at c0
      have hkn : decide ((k : Int) < (C.length : Int)) = true := decide_eq_true (by omega)
      have i1 : (0 : Int) ≤ (k : Int) := by omega
      have i2 : (k : Int) < (C.length : Int) := by omega
      have H1 := Lib.hid (HCK.out k hk)
      generalize tx C[k] = t at *
      go_wp2_with fail
      refine (H1.out _ (hw.below hbr)).mono ?_
      rintro e w1 ⟨rfl, hb1⟩
      go_wp2
      refine ⟨⟨k + 1, hk, int_succ k, hbr.trans (hb1.mono hbr.size)⟩, ?_⟩
      show C.length - ((k : Int) + 1).toNat < C.length - ((k : Int)).toNat
      omega
    · have hkn : decide ((k : Int) < (C.length : Int)) = false := decide_eq_false (by omega)
      go_wp2
      go_ret
      exact ⟨rfl, hbr⟩
set_option maxRecDepth 100000 in
theorem vec_CheckPoint (p : QP) (h1 : OkB p.1) (h2 : OkB p.2) (w : World) (hw : Good w) :
    Calls Tryz.prog 112 #[ptV p] w (RV (.int .i64 0) w) := by
  have HN := Lib.hid (fun w' (hg : Good w') u (hv : Txs w' u [p.1, p.2]) => vec_numbers u [p.1, p.2] (fun c hc => by
    rcases List.mem_cons.1 hc with e | e
    · rw [e]; exact h1
    · rw [List.mem_singleton.1 e]; exact h2) w' hg hv (by simp))
  have HT := Lib.hid (fun w' => txs_two p.1 p.2 w')
  unfold RV at HN
  unfold ptV
  generalize p.1 = x at *
  generalize p.2 = y at *
  clear h1 h2
  generalize hx : tx x = x1 at *
  generalize hy : tx y = y1 at *
  have hbw := Below.refl w.heap.size w
  clear hx hy
  go_enter Tryz.func112, Tryz.ntmps112
  go_wp2_with fail
  have ht := HT.out (w.alloc (Obj.cells #[.string x1, .string y1] 104))
  have hb := (alloc_below w (Obj.cells #[.string x1, .string y1] 104)).trans ((alloc_below (w.alloc (Obj.cells #[.string x1, .string y1] 104)) (Obj.cells #[.string x1, .string y1] 31)).mono (by simp))
  simp only [World.size_alloc] at ht
  refine (HN.out _ (hw.below hb) _ ht).mono ?_
  rintro e w1 ⟨rfl, hb1⟩
  go_wp2
  go_ret
  exact ⟨rfl, hb.trans (hb1.mono hb.size)⟩
set_option maxRecDepth 100000 in
set_option maxHeartbeats 1000000 in
theorem kink_place (p : QP) (h1 : OkB p.1) (h2 : OkB p.2) (w : World) (hw : Good w) :
    Calls Tryz.prog 117 #[ptV p] w (RV (.tuple #[ptV p, .int .i64 0]) w) := by
  have HC := Lib.hid (fun w' (hg : Good w') => vec_CheckPoint p h1 h2 w' hg)
  unfold RV at HC
  unfold ptV at HC ⊢
  generalize tx p.1 = x1 at *
  generalize tx p.2 = y1 at *
  clear h1 h2
  go_enter Tryz.func117, Tryz.ntmps117
  go_upto_region 1 with fail
  obtain ⟨wA, hwA⟩ : ∃ wA, wA = (w.alloc (Obj.cells #[.string x1, .string y1] 104)).alloc (Obj.cells #[.string ⟨#[]⟩, .string ⟨#[]⟩] 104) := ⟨_, rfl⟩
  obtain ⟨hbA, x1', x2'⟩ := boxes2 hwA
  rw [← hwA]
  clear hwA
  have XA := Lib.hid x1'
  have XB := Lib.hid x2'
  obtain ⟨a0, a1, _, _⟩ := two_cells x1'
  clear x1' x2'
  go_wp2_with fail
  refine (HC.out _ (hw.below hbA)).mono ?_
  rintro e w1 ⟨rfl, hb1⟩
  have hbw := hbA.trans (hb1.mono hbA.size)
  obtain ⟨b0, b1, _, _⟩ := two_cells ((hb1.block _ (lt_of_blk XA.out)).trans XA.out)
  have hp3 := (hb1.block _ (lt_of_blk XB.out)).trans XB.out
  obtain ⟨_, _, _, _⟩ := two_cells hp3
  have hpz := two_set1 (.string y1) (two_set0 (.string x1) hp3)
  obtain ⟨q0, q1, _, _⟩ := two_cells hpz
  have Q0 := Lib.hid q0
  have Q1 := Lib.hid q1
  clear hpz hp3 q0 q1 a0 a1
  go_wp2
  have q0 := Q0.out
  have q1 := Q1.out
  refine bodyPost_ret (v := .tuple #[.agg #[.string x1, .string y1], .int .i64 0]) (by simp [results, Tryz.results117, go_sem, q0, q1]) rfl ⟨rfl, ?_⟩
  exact (hbw.setCell (p := ⟨w.heap.size + 1, 0, none⟩) (by simp) _).setCell (p := ⟨w.heap.size + 1, 1, none⟩) (by simp) _
/-- an int as a number -/
theorem rat_Whole (n : Int) (h0 : -9223372036854775808 ≤ n) (h1 : n ≤ 9223372036854775807) (w : World) (hw : Good w) :
    Calls Tryz.prog 108 #[.int .i64 n] w (RV (.string (tx (n : Rat))) w) := by
  have HO := Lib.hid (fun w' (hg : Good w') => integer_Of n h0 h1 w' hg)
  have HU := Lib.hid (fun (r : ByteArray) (h : IsI r n) => show r = tx (n : Rat) from h.toR.unique (isR_mk (n : Rat)))
  generalize tx (n : Rat) = t at *
  go_enter Tryz.func108, Tryz.ntmps108
  go_wp2_with fail
  refine (HO.out w hw).mono ?_
  rintro e w1 ⟨r, rfl, hr, hb1⟩
  obtain rfl := HU.out r hr
  clear hr
  go_wp2
  go_ret
  exact ⟨rfl, hb1⟩
set_option maxRecDepth 100000 in
set_option maxHeartbeats 1000000 in
theorem vec_At (x y : Int) (hx0 : -9223372036854775808 ≤ x) (hx1 : x ≤ 9223372036854775807) (hy0 : -9223372036854775808 ≤ y) (hy1 : y ≤ 9223372036854775807) (w : World) (hw : Good w) :
    Calls Tryz.prog 107 #[.int .i64 x, .int .i64 y] w (RV (ptV ((x : Rat), (y : Rat))) w) := by
  have HX := Lib.hid (fun w' (hg : Good w') => rat_Whole x hx0 hx1 w' hg)
  have HY := Lib.hid (fun w' (hg : Good w') => rat_Whole y hy0 hy1 w' hg)
  unfold RV at HX HY
  unfold ptV
  dsimp only
  generalize tx (x : Rat) = tx1 at *
  generalize tx (y : Rat) = ty1 at *
  clear hx0 hx1 hy0 hy1
  go_enter Tryz.func107, Tryz.ntmps107
  go_wp2_with fail
  obtain ⟨wA, hwA⟩ : ∃ wA, wA = w.alloc (Obj.cells #[.string ⟨#[]⟩, .string ⟨#[]⟩] 104) := ⟨_, rfl⟩
  have hbA : Below w.heap.size w wA := by rw [hwA]; exact alloc_below _ _
  have hxA : wA.heap[w.heap.size]? = some (.cells #[.string ⟨#[]⟩, .string ⟨#[]⟩] 104 (0, 0)) := by rw [hwA]; exact World.alloc_heap_new _ _
  have XA := Lib.hid hxA
  rw [← hwA]
  clear hwA hxA
  refine (HX.out _ (hw.below hbA)).mono ?_
  rintro e w1 ⟨rfl, hb1⟩
  have hb01 := hbA.trans (hb1.mono hbA.size)
  go_wp2_with fail
  refine (HY.out _ (hw.below hb01)).mono ?_
  rintro e w2 ⟨rfl, hb2⟩
  have hbw := hb01.trans (hb2.mono hb01.size)
  have hbq := hb1.trans (hb2.mono hb1.size)
  have hp3 := (hbq.block _ (lt_of_blk XA.out)).trans XA.out
  obtain ⟨_, _, _, _⟩ := two_cells hp3
  have hpz := two_set1 (.string ty1) (two_set0 (.string tx1) hp3)
  obtain ⟨q0, q1, _, _⟩ := two_cells hpz
  have Q0 := Lib.hid q0
  have Q1 := Lib.hid q1
  clear hpz hp3 q0 q1
  go_wp2
  have q0 := Q0.out
  have q1 := Q1.out
  refine bodyPost_ret (v := .agg #[.string tx1, .string ty1]) (by simp [results, Tryz.results107, go_sem, q0, q1]) rfl ⟨rfl, ?_⟩
  exact (hbw.setCell (p := ⟨w.heap.size, 0, none⟩) (by simp) _).setCell (p := ⟨w.heap.size, 1, none⟩) (by simp) _
set_option maxRecDepth 100000 in
set_option maxHeartbeats 1000000 in
theorem rat_New (a b : ByteArray) (n d : Int) (ha : IsI a n) (hb : IsI b d) (hd : d ≠ 0) (hsa : a.size ≤ 1000) (hsb : b.size ≤ 1000) (w : World) (hw : Good w) :
    Calls Tryz.prog 109 #[.string a, .string b] w (RV (.tuple #[.string (tx (Rat.divInt n d)), .int .i64 0]) w) := by
  have HS := Lib.hid (fun w' => integer_Sign b d hb w')
  have HL := Lib.hid (fun w' (hg : Good w') => rational_lowest a b n d ha hb hd (by omega) (by omega) w' hg)
  have HU := Lib.hid (fun (r : ByteArray) (h : IsR r (Rat.divInt n d)) => show r = tx (Rat.divInt n d) from h.unique (isR_mk _))
  have hs : ((sgn d : Int) == 0) = false := by
    refine beq_false_of_ne fun h => hd ?_
    rcases Int.lt_trichotomy d 0 with h1 | h1 | h1
    · rw [sgn_neg h1] at h; simp at h
    · exact h1
    · rw [sgn_pos h1] at h; simp at h
  generalize tx (Rat.divInt n d) = t at *
  generalize sgn d = sd at *
  clear ha hb
  go_enter Tryz.func109, Tryz.ntmps109
  go_wp2_with fail
  refine (HS.out w).mono ?_
  rintro e w1 ⟨rfl, rfl⟩
  go_wp2_with fail
  refine (HL.out _ hw).mono ?_
  rintro e w2 ⟨r, rfl, hr, hb2⟩
  obtain rfl := HU.out r hr
  clear hr
  go_wp2
  go_ret2
  exact ⟨rfl, hb2⟩
theorem isI_size {s : ByteArray} {n : Int} (h : IsI s n) (h1 : n.natAbs < 10 ^ 30) : s.size ≤ 402 := by
  have h2 : OkB (n : Rat) := (okR2 (q := (n : Rat)) (N := n.natAbs) (D := 1) ⟨by simp, by simp⟩ (by omega) (by decide)).1
  have := h2.sz
  unfold Sz at this
  rw [h.toR.unique (isR_mk (n : Rat))]
  exact this
set_option maxRecDepth 100000 in
set_option maxHeartbeats 1000000 in
theorem rat_Of (n d : Int) (hn0 : -9223372036854775808 ≤ n) (hn1 : n ≤ 9223372036854775807) (hd0 : -9223372036854775808 ≤ d) (hd1 : d ≤ 9223372036854775807) (hd : d ≠ 0) (w : World) (hw : Good w) :
    Calls Tryz.prog 64 #[.int .i64 n, .int .i64 d] w (RV (.tuple #[.string (tx (Rat.divInt n d)), .int .i64 0]) w) := by
  have HX := Lib.hid (fun w' (hg : Good w') => integer_Of n hn0 hn1 w' hg)
  have HY := Lib.hid (fun w' (hg : Good w') => integer_Of d hd0 hd1 w' hg)
  have HN := Lib.hid (fun (a b : ByteArray) (ha : IsI a n) (hb : IsI b d) w' (hg : Good w') => rat_New a b n d ha hb hd (Nat.le_trans (isI_size ha (by omega)) (by decide)) (Nat.le_trans (isI_size hb (by omega)) (by decide)) w' hg)
  unfold RV at HN
  generalize tx (Rat.divInt n d) = t at *
  clear hn0 hn1 hd0 hd1 hd
  go_enter Tryz.func64, Tryz.ntmps64
  go_wp2_with fail
  refine (HX.out w hw).mono ?_
  rintro e w1 ⟨a, rfl, ha, hb1⟩
  have HA := Lib.hid ha
  clear ha
  go_wp2_with fail
  refine (HY.out _ (hw.below hb1)).mono ?_
  rintro e w2 ⟨b, rfl, hb, hb2⟩
  have HB := Lib.hid hb
  have hb02 := hb1.trans (hb2.mono hb1.size)
  clear hb
  go_wp2_with fail
  refine (HN.out a b HA.out HB.out _ (hw.below hb02)).mono ?_
  rintro e w3 ⟨rfl, hb3⟩
  go_wp2
  go_ret2
  exact ⟨rfl, hb02.trans (hb3.mono hb02.size)⟩
def absQ (q : Rat) : Rat := if q < 0 then -q else q
set_option maxRecDepth 100000 in
set_option maxHeartbeats 1000000 in
theorem rat_Abs (q : Rat) (w : World) : Calls Tryz.prog 157 #[.string (tx q)] w (RV (.string (tx (absQ q))) w) := by
  obtain ⟨s, hs⟩ : ∃ s, s = tx q := ⟨_, rfl⟩
  have h : IsR s q := by rw [hs]; exact isR_mk q
  rw [← hs]
  have hp := h.pos
  have hf := h.first hp
  have H := Lib.hid h
  have hp1 : 1 ≤ s.size := hp
  by_cases h1 : q < 0
  · rw [decide_eq_true h1] at hf
    have HU := Lib.hid (fun (r : ByteArray) (h : IsR r (-q)) => show r = tx (absQ q) by unfold absQ; rw [if_pos h1]; exact h.unique (isR_mk (-q)))
    have H1 := Lib.hid h1
    clear h1 h hs
    generalize tx (absQ q) = t at *
    go_enter Tryz.func157, Tryz.ntmps157
    go_wp2
    go_ret
    have e : s.extract 1 s.size = t := HU.out _ (by
      unfold IsR
      have h2 : s.data.toList = 45 :: rtext (-q) := H.out.trans (rtext_neg_tail H1.out)
      have h3 : s.size = (rtext (-q)).length + 1 := by rw [Lib.size_eq, h2]; rfl
      rw [Lib.extract_data, h2, h3]
      simp)
    exact ⟨by rw [← e]; rfl, Below.refl _ _⟩
  · rw [decide_eq_false h1] at hf
    have HU := Lib.hid (show s = tx (absQ q) by unfold absQ; rw [if_neg h1]; exact hs)
    clear h1 h hs
    generalize tx (absQ q) = t at *
    go_enter Tryz.func157, Tryz.ntmps157
    go_wp2
    go_ret
    exact ⟨by rw [← HU.out]; rfl, Below.refl _ _⟩
/-- sums -/
def sumR (C : List Rat) : Rat := C.foldl (· + ·) 0
theorem sumR_snoc (C : List Rat) (q : Rat) : sumR (C ++ [q]) = sumR C + q := by unfold sumR; rw [List.foldl_append]; rfl
set_option maxRecDepth 100000 in
set_option maxHeartbeats 4000000 in
theorem rat_Sum (v : Value) (C : List Rat) (hC : ∀ c ∈ C, Sz 500000000 c) (hS : ∀ k, k ≤ C.length → Sz 500000000 (sumR (C.take k))) (w : World) (hw : Good w) (hv : Txs w v C) :
    Calls Tryz.prog 121 #[v] w (RV (.string (tx (sumR C))) w) := by
  obtain ⟨b, c, rfl, hcn, hcm, hbl, hcell⟩ := hv
  have hcm' : C.length ≤ 9223372036854775807 := by unfold maxLen at hcm; omega
  have HAD := Lib.hid (fun i (h : i < C.length) w' (hg : Good w') => k_add (sumR (C.take i)) C[i] ((hS i (by omega)).mono (by decide)) ((hC _ (List.getElem_mem h)).mono (by decide)) w' hg)
  have HNX := Lib.hid (fun i (h : i < C.length) => show sumR (C.take i) + C[i] = sumR (C.take (i + 1)) by rw [List.take_succ_eq_append_getElem h, sumR_snoc])
  unfold RV at HAD
  have HT0 := Lib.hid (show (⟨#[48]⟩ : ByteArray) = tx (sumR (C.take 0)) by rw [List.take_zero]; exact tx0.symm)
  have HFN := Lib.hid (show sumR (C.take C.length) = sumR C by rw [List.take_length])
  have hbw := Below.refl w.heap.size w
  clear hC hS
  go_enter Tryz.func121, Tryz.ntmps121
  go_wp2_with fail
  go_loopw [3, 5, 8] (fun sv _ iv wr => ∃ (k : Nat) (s : ByteArray), k ≤ C.length ∧ s = tx (sumR (C.take k)) ∧ sv = .string s ∧ iv = .int .i64 (k : Int) ∧ Below w.heap.size w wr) (fun _ _ iv _ => C.length - (intOf iv).toNat)
  case atStart => exact ⟨0, _, Nat.zero_le _, HT0.out, rfl, rfl, hbw⟩
  case round =>
    obtain ⟨k, s, hkl, hs, rfl, rfl, hbr⟩ := hrel
    have HS := Lib.hid hs
    clear hs
    by_cases hk : k < C.length
    · have c0 := hcell k hk
      rw [← hbr.cell (p := ⟨b, k, none⟩) hbl] at c0
      have hkn : decide ((k : Int) < (C.length : Int)) = true := decide_eq_true (by omega)
      have i1 : (0 : Int) ≤ (k : Int) := by omega
      have i2 : (k : Int) < (C.length : Int) := by omega
      have H1 := Lib.hid (HAD.out k hk)
      have HN := Lib.hid (HNX.out k hk)
      rw [← HS.out, HN.out] at H1
      generalize tx C[k] = t at *
      obtain ⟨s2, hs2⟩ : ∃ s2, s2 = tx (sumR (C.take (k + 1))) := ⟨_, rfl⟩
      rw [← hs2] at H1
      have HS2 := Lib.hid hs2
      clear hs2
      go_wp2_with fail
      refine (H1.out _ (hw.below hbr)).mono ?_
      rintro e w1 ⟨rfl, hb1⟩
      go_wp2
      refine ⟨⟨k + 1, s2, hk, HS2.out, rfl, int_succ k, hbr.trans (hb1.mono hbr.size)⟩, ?_⟩
      show C.length - ((k : Int) + 1).toNat < C.length - ((k : Int)).toNat
      omega
    · have hkn : decide ((k : Int) < (C.length : Int)) = false := decide_eq_false (by omega)
      have hkz : k = C.length := by omega
      have HR := Lib.hid (show s = tx (sumR C) by rw [HS.out, hkz, HFN.out])
      clear hkz
      go_wp2
      go_ret
      exact ⟨by rw [← HR.out]; rfl, hbr⟩
end Go.Proofs.YtbogpbjddaoeiaaGreatDoor
