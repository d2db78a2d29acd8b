import Derived.Test.YtbogpbjddaoeiaaGreatDoorPtsZ
import Derived.Test.YtbogpbjddaoeiaaGreatDoorCovZ
import Derived.Deep.WholeRow
namespace Go.Proofs.YtbogpbjddaoeiaaGreatDoor
open Go.RowKit
def cellsZ (P : List ZP) : List Value := P.flatMap fun q => [.int .i64 q.1, .int .i64 q.2]
theorem cellsZ_len (P : List ZP) : (cellsZ P).length = P.length * 2 := by
  induction P with
  | nil => rfl
  | cons p r ih => unfold cellsZ at *; rw [List.flatMap_cons, List.length_append, ih, List.length_cons]; simp; omega
theorem cellsZ_snoc (P : List ZP) (q : ZP) : cellsZ (P ++ [q]) = cellsZ P ++ [.int .i64 q.1, .int .i64 q.2] := by unfold cellsZ; simp
theorem cellsZ_get : ∀ (P : List ZP) (i : Nat) (hi : i < P.length) (j : Nat) (hj : j < 2), (cellsZ P)[i * 2 + j]? = some ([Value.int .i64 P[i].1, .int .i64 P[i].2][j])
  | [], i, hi, _, _ => by simp at hi
  | q :: r, 0, _, j, hj => by
    unfold cellsZ
    rw [List.flatMap_cons, List.getElem?_append_left (by simp; omega)]
    simp only [Nat.zero_mul, Nat.zero_add, List.getElem_cons_zero]
    rw [List.getElem?_eq_getElem (by simpa using hj)]
  | q :: r, i + 1, hi, j, hj => by
    unfold cellsZ
    rw [List.flatMap_cons, List.getElem?_append_right (by simp; omega)]
    have := cellsZ_get r i (by simpa using hi) j hj
    unfold cellsZ at this
    rw [show (i + 1) * 2 + j - [Value.int .i64 q.1, .int .i64 q.2].length = i * 2 + j by simp; omega]
    simpa using this
/-- The slice v holds these pairs of ints. -/
def Zees (w : World) (v : Value) (P : List ZP) : Prop :=
  ∃ p c, v = .slice p P.length c ∧ P.length ≤ c ∧ c ≤ maxLen ∧ (0 < P.length → ∃ b off, p = some ⟨b, off, none⟩ ∧ b < w.heap.size ∧ ∀ i (h : i < P.length), w.cell? ⟨b, off + i * 2, none⟩ = some (.int .i64 P[i].1) ∧ w.cell? ⟨b, off + i * 2 + 1, none⟩ = some (.int .i64 P[i].2))
theorem Zees.below {w w' : World} {v : Value} {P : List ZP} (h : Zees w v P) (hb : Below w.heap.size w w') : Zees w' v P := by
  obtain ⟨p, c, hv, hc, hm, hx⟩ := h
  refine ⟨p, c, hv, hc, hm, fun h0 => ?_⟩
  obtain ⟨b, off, hp, hbl, hcell⟩ := hx h0
  refine ⟨b, off, hp, Nat.lt_of_lt_of_le hbl hb.size, fun i hi => ?_⟩
  rw [hb.cell (p := ⟨b, off + i * 2, none⟩) hbl, hb.cell (p := ⟨b, off + i * 2 + 1, none⟩) hbl]
  exact hcell i hi
theorem zees_of_owns {w : World} {base : Nat} {t : TypeId} {v : Value} {P : List ZP} (h : w.ownsRow base t 2 v P.length (cellsZ P)) : Zees w v P := by
  obtain ⟨_, p, c, rfl, hc, hm, hx⟩ := Reads.of_owns h
  refine ⟨p, c, rfl, hc, hm, fun h0 => ?_⟩
  obtain ⟨b, off, hp, hbl, hcell⟩ := hx h0
  refine ⟨b, off, hp, hbl, fun i hi => ?_⟩
  have hg := fun j hj => cellsZ_get P i hi j hj
  have hl := cellsZ_len P
  have go : ∀ j (hj : j < 2), w.cell? ⟨b, off + (i * 2 + j), none⟩ = some ([Value.int .i64 P[i].1, .int .i64 P[i].2][j]) := by
    intro j hj
    have h1 := hcell (i * 2 + j) (by omega)
    rw [h1, ← hg j hj, List.getElem?_eq_getElem]
  exact ⟨go 0 (by decide), go 1 (by decide)⟩
/-- the law's intervals, in halves -/
def endZ (d : Duo) : ZP := (d.1, d.1 + 1 + max d.2 (-d.2) % 12)
def endsZ (D : List Duo) : List ZP := (D.take 8).map endZ
theorem endsZ_len (D : List Duo) : (endsZ D).length = min D.length 8 := by unfold endsZ; rw [List.length_map, List.length_take]; omega
theorem endZ_ok {d : Duo} (h : okDuo d) : -128 ≤ (endZ d).1 ∧ (endZ d).1 < (endZ d).2 ∧ (endZ d).2 ≤ 139 := by
  unfold okDuo at h
  unfold endZ
  show -128 ≤ d.1 ∧ d.1 < d.1 + 1 + max d.2 (-d.2) % 12 ∧ d.1 + 1 + max d.2 (-d.2) % 12 ≤ 139
  omega
theorem endsZ_ok {D : List Duo} (h : ∀ d ∈ D, okDuo d) : ∀ p ∈ endsZ D, -128 ≤ p.1 ∧ p.1 < p.2 ∧ p.2 ≤ 139 := by
  intro p hp
  unfold endsZ at hp
  obtain ⟨d, hd, rfl⟩ := List.mem_map.1 hp
  exact endZ_ok (h d (List.mem_of_mem_take hd))
/-- the cells of some intervals -/
def setOf (L : List ZP) (j : Nat) : Bool := covB L ((j : Int) - 300)
theorem setOf_isSet {L : List ZP} (h : ∀ p ∈ L, -300 ≤ p.1 ∧ p.1 < p.2 ∧ p.2 ≤ 300) {C : List ZP} (hC : Norm C) (hc : ∀ i, cov C i ↔ cov L i) : IsSet (setOf L) C := by
  refine ⟨hC, fun i => (hc i).trans ⟨fun hi => ?_, fun ⟨j, e, hj, _⟩ => ?_⟩⟩
  · obtain ⟨p, hp, h1, h2⟩ := hi
    have := h p hp
    refine ⟨(i + 300).toNat, by omega, ?_, by omega⟩
    unfold setOf
    rw [covB_iff]
    exact ⟨p, hp, by omega, by omega⟩
  · unfold setOf at hj
    rw [covB_iff] at hj
    rw [e]; exact hj
end Go.Proofs.YtbogpbjddaoeiaaGreatDoor
namespace Go.Proofs.YtbogpbjddaoeiaaGreatDoor
open Go.RowKit
open Go.Lib (decDigits itoa nDigits)
theorem slZ : SliceOf 37 60 (.agg #[.int .i64 0, .int .i64 0]) 2 16 := ⟨Tryz.underlying37, by kernel_rfl, rfl, by decide⟩
def EnLoop (D : List Duo) (w : World) (k : Nat) (ov : Value) (wr : World) : Prop := k ≤ D.length ∧ k ≤ 8 ∧ wr.ownsRow w.heap.size 60 2 ov k (cellsZ ((D.take k).map endZ)) ∧ Below w.heap.size w wr
theorem EnLoop.next {D : List Duo} {w w' : World} {k : Nat} {v' : Value} (hk : k < D.length) (h8 : k < 8) (ho : w'.ownsRow w.heap.size 60 2 v' (k + 1) (cellsZ ((D.take k).map endZ) ++ [.int .i64 D[k].1, .int .i64 (D[k].1 + 1 + max D[k].2 (-D[k].2) % 12)])) (hb : Below w.heap.size w w') : EnLoop D w (k + 1) v' w' :=
  ⟨hk, h8, by rw [List.take_succ_eq_append_getElem hk, List.map_append, List.map_singleton, cellsZ_snoc]; exact ho, hb⟩
def EndsPost (D : List Duo) (w : World) (e : Ending) (w' : World) : Prop := ∃ v, e = .returned v ∧ Zees w' v (endsZ D) ∧ Below w.heap.size w w'
theorem EnLoop.done {D : List Duo} {w wr : World} {k : Nat} {ov : Value} (h : EnLoop D w k ov wr) (hk : ¬ (k < D.length ∧ k < 8)) : Zees wr ov (endsZ D) := by
  obtain ⟨h1, h2, h3, _⟩ := h
  have hl : ((D.take k).map endZ).length = k := by rw [List.length_map, List.length_take]; omega
  have e : endsZ D = (D.take k).map endZ := by
    unfold endsZ
    rcases Nat.lt_or_ge k 8 with h4 | h4
    · have : k = D.length := by omega
      rw [List.take_of_length_le (by omega), this, List.take_length]
    · have : k = 8 := by omega
      rw [this]
  rw [e]
  exact zees_of_owns (by rw [hl]; exact h3)
set_option maxRecDepth 100000 in
set_option maxHeartbeats 8000000 in
theorem law_ends (v : Value) (D : List Duo) (w : World) (hv : Duos w v D) :
    Calls Tryz.prog 22 #[v] w (EndsPost D w) := by
  obtain ⟨p, c, rfl, hc, hmx, hxx⟩ := hv
  have hmax : D.length ≤ 9223372036854775807 := by unfold maxLen at hmx; omega
  have hst : EnLoop D w 0 (.slice none 0 0) w := ⟨Nat.zero_le _, by decide, World.ownsRow_nil _ _ _ _, Below.refl _ _⟩
  have HST0 := Lib.hid hst
  clear hst
  go_enter Tryz.func22, Tryz.ntmps22
  go_wp2_with fail
  go_loopw [3, 4] (fun ov iv wr => ∃ (k : Nat) (vv : Value), EnLoop D w k vv wr ∧ vv = ov ∧ iv = .int .i64 (k : Int)) (fun _ iv _ => D.length - (intOf iv).toNat)
  case atStart => exact ⟨0, _, HST0.out, rfl, rfl⟩
  case round =>
    obtain ⟨k, ov, hst, rfl, rfl⟩ := hrel
    have HPT := Lib.hid hst
    obtain ⟨hkl, hk8, hown, hbr⟩ := hst
    by_cases hk : k < D.length ∧ k < 8
    · obtain ⟨hk, h8⟩ := hk
      obtain ⟨b, off, rfl, hbl, hcell⟩ := hxx (by omega)
      obtain ⟨okd, c0, c1⟩ := hcell k hk
      rw [← hbr.cell (p := ⟨b, off + k * 2, none⟩) hbl] at c0
      rw [← hbr.cell (p := ⟨b, off + k * 2 + 1, none⟩) hbl] at c1
      have hkn : decide ((k : Int) < (D.length : Int)) = true := decide_eq_true (by omega)
      have hkn8 : decide ((k : Int) < (8 : Int)) = true := decide_eq_true (by omega)
      have i1 : (0 : Int) ≤ (k : Int) := by omega
      have i2 : (k : Int) < (D.length : Int) := by omega
      have hblr : b < wr.heap.size := Nat.lt_of_lt_of_le hbl hbr.size
      unfold okDuo at okd
      have HNX := Lib.hid (fun (v' : Value) (w' : World) => EnLoop.next (D := D) (w := w) (w' := w') (v' := v') hk h8)
      have hol := cellsZ_len ((D.take k).map endZ)
      rw [List.length_map, List.length_take] at hol
      obtain ⟨i0, hi, hz0, hz1, hz2⟩ := info_parts slZ.info
      clear hcell hxx HPT
      generalize D[k].1 = a at *
      generalize D[k].2 = bb at *
      have k1 : IntKind.i64.wrap a = a := IntWalk.i64_in _ (by omega)
      have k2 : IntKind.i64.wrap bb = bb := IntWalk.i64_in _ (by omega)
      have k3 : IntKind.i64.wrap (-bb) = -bb := IntWalk.i64_in _ (by omega)
      obtain ⟨mx, hmxe⟩ : ∃ mx, max bb (-bb) = mx := ⟨_, rfl⟩
      have k4 : mx.tmod 12 = mx % 12 := Int.tmod_eq_emod_of_nonneg (by omega)
      obtain ⟨r, hr⟩ : ∃ r, mx % 12 = r := ⟨_, rfl⟩
      have HMX := Lib.hid hmxe
      rw [hmxe, hr] at HNX
      rw [hr] at k4
      have k5 : IntKind.i64.wrap r = r := IntWalk.i64_in _ (by omega)
      have k6 : IntKind.i64.wrap (a + 1) = a + 1 := IntWalk.i64_in _ (by omega)
      have k7 : IntKind.i64.wrap (a + 1 + r) = a + 1 + r := IntWalk.i64_in _ (by omega)
      clear hr
      go_wp2_with fail
      refine wp_held_list (fun W' => Below wr.heap.size wr W') [0, 1, 2, 3, 4, 5, 6, 7, 8, 9, 10, 11, 12, 13, 14, 15, 16, 17, 18, 19] [20, 21] 22 (by kernel_rfl) (by kernel_rfl) ⟨rfl, rfl, rfl, Nat.le_refl _, fun _ _ => rfl⟩ ?_
      iterate 20
        refine wpTakeL_step rfl ?_ rfl ?_ ?_
        rotate_left
        · intro W' hS'
          have s0 := (hS'.cell (p := ⟨b, off + k * 2 + 1, none⟩) hblr).trans c1
          go_simp
          try with_reducible rfl
        try simp only [List.getElem_toArray, List.getElem_cons_zero, List.getElem_cons_succ, Act.put, List.setIfInBounds_toArray, List.set_cons_zero, List.set_cons_succ]
      have hH0 : Below wr.heap.size wr wr.drew := ⟨rfl, rfl, rfl, Nat.le_refl _, fun _ _ => rfl⟩
      clear c0 c1
      refine wpKeepL_step rfl rfl (fun K hK => ?_)
      go_simp
      refine hK _ _ ⟨hH0, ?_⟩
      clear hK K
      try simp only [List.getElem_toArray, List.getElem_cons_zero, List.getElem_cons_succ, Act.put, List.setIfInBounds_toArray, List.set_cons_zero, List.set_cons_succ]
      refine wpKeepL_step rfl rfl (fun K hK => ?_)
      go_simp
      refine hK _ _ ⟨hH0.trans ((alloc_below _ _).mono hH0.size), ?_⟩
      clear hK K
      try simp only [List.getElem_toArray, List.getElem_cons_zero, List.getElem_cons_succ, Act.put, List.setIfInBounds_toArray, List.set_cons_zero, List.set_cons_succ]
      unfold wpKeepL
      simp only [List.drop_succ_cons, List.drop_zero]
      try simp only [List.getElem_toArray, List.getElem_cons_zero, List.getElem_cons_succ, Act.put, List.setIfInBounds_toArray, List.set_cons_zero, List.set_cons_succ]
      have hown4 := owns_below hown hH0
      have hbw4 := hbr.trans (hH0.mono hbr.size)
      have hbs4 : w.heap.size ≤ wr.heap.size := hbw4.size
      refine wpKeep_step rfl (fun K hK => ?_)
      refine wp_append_own _ (.tmp 22) (.tmp 43) 37 rfl w.heap.size 60 i0 (.agg #[.int .i64 0, .int .i64 0]) 2 16 slZ.ht hi hz0 hz1 hz2 slZ.hzs slZ.hsz _ _ _ rfl (hown4.alloc _) ⟨wr.heap.size, 0, none⟩ 1 1 [.int .i64 a, .int .i64 (a + 1 + r)] rfl rfl (cell_two_new _ _ _ _) (by simp [Value.oneCell']) (by unfold maxLen; omega) (by omega) (by simp; omega) ?_
      intro v' w5 hown5 hgrow _
      have hb5 : Below w.heap.size w w5 := (hbw4.trans ((alloc_below wr.drew _).mono hbs4)).grown hgrow (by simp; omega) (fun g hg => (hown4.lt g hg).1)
      have HN := Lib.hid (HNX.out v' w5 hown5 hb5)
      clear hown5 hown4
      refine hK _ _ ⟨trivial, ?_⟩
      clear hK K
      try simp only [Act.put, List.setIfInBounds_toArray, List.set_cons_zero, List.set_cons_succ]
      refine wpKeep_step rfl (fun K hK => ?_)
      go_simp
      refine hK _ _ ⟨trivial, wpKeep_nil ?_⟩
      clear hK K
      try simp only [List.getElem_toArray, List.getElem_cons_zero, List.getElem_cons_succ, Act.put, List.setIfInBounds_toArray, List.set_cons_zero, List.set_cons_succ]
      refine NormalOnly.mk ?_
      go_wp2
      refine ⟨⟨k + 1, v', HN.out, rfl, int_succ k⟩, ?_⟩
      show D.length - ((k : Int) + 1).toNat < D.length - ((k : Int)).toNat
      omega
    · have HD := Lib.hid (HPT.out.done hk)
      obtain ⟨hl1, p', c', rfl, hc', hm', hr1⟩ := Reads.of_owns hown
      by_cases hkl2 : k < D.length
      · have e1 : decide ((k : Int) < (D.length : Int)) = true := decide_eq_true (by omega)
        have e2 : decide ((k : Int) < (8 : Int)) = false := decide_eq_false (by omega)
        clear hl1 hr1 hown hxx HPT
        go_wp2
        go_ret
        exact ⟨_, rfl, HD.out, hbr⟩
      · have e1 : decide ((k : Int) < (D.length : Int)) = false := decide_eq_false (by omega)
        clear hl1 hr1 hown hxx HPT
        go_wp2
        go_ret
        exact ⟨_, rfl, HD.out, hbr⟩
end Go.Proofs.YtbogpbjddaoeiaaGreatDoor
namespace Go.Proofs.YtbogpbjddaoeiaaGreatDoor
open Go.RowKit
open Go.Lib (decDigits itoa nDigits)
/-- a number of halves -/
def hf (n : Int) : Rat := mkRat n 2
def hfP (p : ZP) : QP := (hf p.1, hf p.2)
def halfP (p : ZP) : Pair := (tx (hf p.1), tx (hf p.2))
theorem hf_fr {n : Int} (h1 : -1000 ≤ n) (h2 : n ≤ 1000) : Fr 1000 2 (hf n) := half_fr h1 h2
theorem law_half (n : Int) (w : World) (h1 : -1000 ≤ n) (h2 : n ≤ 1000) :
    Calls Tryz.prog 32 #[.int .i64 n] w fun e w' => e = .returned (.string (tx (hf n))) ∧ Below w.heap.size w w' := by
  have HM := Lib.hid (fun w' => make_half n w' h1 h2)
  have HT := Lib.hid (fun w' => ref_Text' (hf n) w' ((hf_fr h1 h2).mono (by omega) (by omega)))
  unfold fracV at HT
  unfold hf at HT ⊢
  generalize (mkRat n 2).num = a at *
  generalize ((mkRat n 2).den : Int) = b at *
  generalize tx (mkRat n 2) = t at *
  go_enter Tryz.func32, Tryz.ntmps32
  go_wp2_with fail
  refine (HM.out w).mono ?_
  rintro e w1 ⟨rfl, hb1⟩
  go_wp2_with fail
  refine (HT.out w1).mono ?_
  rintro e w2 ⟨rfl, hb2⟩
  go_wp2
  go_ret
  exact ⟨rfl, hb1.trans (hb2.mono hb1.size)⟩
def PaLoop (Z : List ZP) (w : World) (k : Nat) (ov : Value) (wr : World) : Prop := k ≤ Z.length ∧ wr.ownsRow w.heap.size 33 2 ov k (cellsS ((Z.take k).map halfP)) ∧ Below w.heap.size w wr
theorem PaLoop.next {Z : List ZP} {w w' : World} {k : Nat} {v' : Value} (hk : k < Z.length) (ho : w'.ownsRow w.heap.size 33 2 v' (k + 1) (cellsS ((Z.take k).map halfP) ++ [.string (tx (hf Z[k].1)), .string (tx (hf Z[k].2))])) (hb : Below w.heap.size w w') : PaLoop Z w (k + 1) v' w' :=
  ⟨hk, by rw [List.take_succ_eq_append_getElem hk, List.map_append, List.map_singleton]; exact (cellsS_snoc _ _).symm ▸ ho, hb⟩
/-- a fresh row of parts -/
def PartsNew (Z : List ZP) (w : World) (e : Ending) (w' : World) : Prop := ∃ v, e = .returned v ∧ w'.ownsRow w.heap.size 33 2 v Z.length (cellsS (Z.map halfP)) ∧ Pairs w' v (Z.map halfP) ∧ Below w.heap.size w w'
set_option maxRecDepth 100000 in
set_option maxHeartbeats 8000000 in
theorem law_parts (v : Value) (Z : List ZP) (w : World) (hv : Zees w v Z) (hZ : ∀ p ∈ Z, -1000 ≤ p.1 ∧ p.1 ≤ 1000 ∧ -1000 ≤ p.2 ∧ p.2 ≤ 1000) (hl : Z.length ≤ 1000) :
    Calls Tryz.prog 21 #[v] w (PartsNew Z w) := by
  obtain ⟨p, c, rfl, hc, hmx, hxx⟩ := hv
  have hst : PaLoop Z w 0 (.slice none 0 0) w := ⟨Nat.zero_le _, World.ownsRow_nil _ _ _ _, Below.refl _ _⟩
  have HST0 := Lib.hid hst
  clear hst
  go_enter Tryz.func21, Tryz.ntmps21
  go_wp2_with fail
  go_loopw [3, 4] (fun ov iv wr => ∃ (k : Nat) (vv : Value), PaLoop Z w k vv wr ∧ vv = ov ∧ iv = .int .i64 (k : Int)) (fun _ iv _ => Z.length - (intOf iv).toNat)
  case atStart => exact ⟨0, _, HST0.out, rfl, rfl⟩
  case round =>
    obtain ⟨k, ov, hst, rfl, rfl⟩ := hrel
    obtain ⟨hkl, hown, hbr⟩ := hst
    by_cases hk : k < Z.length
    · obtain ⟨b, off, rfl, hbl, hcell⟩ := hxx (by omega)
      obtain ⟨c0, c1⟩ := hcell k hk
      rw [← hbr.cell (p := ⟨b, off + k * 2, none⟩) hbl] at c0
      rw [← hbr.cell (p := ⟨b, off + k * 2 + 1, none⟩) hbl] at c1
      have hkn : decide ((k : Int) < (Z.length : Int)) = true := decide_eq_true (by omega)
      have i1 : (0 : Int) ≤ (k : Int) := by omega
      have i2 : (k : Int) < (Z.length : Int) := by omega
      have hblr : b < wr.heap.size := Nat.lt_of_lt_of_le hbl hbr.size
      obtain ⟨z1, z2, z3, z4⟩ := hZ _ (List.getElem_mem hk)
      have HT1 := Lib.hid (fun w' => law_half Z[k].1 w' z1 z2)
      have HT2 := Lib.hid (fun w' => law_half Z[k].2 w' z3 z4)
      have HNX := Lib.hid (fun (v' : Value) (w' : World) => PaLoop.next (Z := Z) (w := w) (w' := w') (v' := v') hk)
      have hol := cellsS_len ((Z.take k).map halfP)
      rw [List.length_map, List.length_take] at hol
      obtain ⟨i0, hi, hz0, hz1, hz2⟩ := info_parts slPart.info
      clear hcell hxx hZ
      generalize tx (hf Z[k].1) = t1 at *
      generalize tx (hf Z[k].2) = t2 at *
      generalize Z[k].1 = a at *
      generalize Z[k].2 = bb at *
      go_wp2_with fail
      refine wp_held_list (fun W' => Below wr.heap.size wr W') [0, 1, 2, 3, 4, 5, 7, 8, 9, 10, 11] [6, 12, 13, 14] 15 (by kernel_rfl) (by kernel_rfl) ⟨rfl, rfl, rfl, Nat.le_refl _, fun _ _ => rfl⟩ ?_
      iterate 11
        refine wpTakeL_step rfl ?_ rfl ?_ ?_
        rotate_left
        · intro W' hS'
          have s0 := (hS'.cell (p := ⟨b, off + k * 2, none⟩) hblr).trans c0
          have s1 := (hS'.cell (p := ⟨b, off + k * 2 + 1, none⟩) hblr).trans c1
          go_simp
          try with_reducible rfl
        try simp only [List.getElem_toArray, List.getElem_cons_zero, List.getElem_cons_succ, Act.put, List.setIfInBounds_toArray, List.set_cons_zero, List.set_cons_succ]
      have hH0 : Below wr.heap.size wr wr.drew := ⟨rfl, rfl, rfl, Nat.le_refl _, fun _ _ => rfl⟩
      clear c0 c1
      refine wpKeepL_step rfl rfl (fun K hK => ?_)
      go_simp
      refine (HT1.out _).mono ?_
      rintro e w3 ⟨rfl, hbw3⟩
      have hH1 := hH0.trans (hbw3.mono hH0.size)
      refine hK _ _ ⟨hH1, ?_⟩
      clear hK K
      try simp only [List.getElem_toArray, List.getElem_cons_zero, List.getElem_cons_succ, Act.put, List.setIfInBounds_toArray, List.set_cons_zero, List.set_cons_succ]
      refine wpKeepL_step rfl rfl (fun K hK => ?_)
      go_simp
      refine (HT2.out _).mono ?_
      rintro e w4 ⟨rfl, hbw4⟩
      have hH2 := hH1.trans (hbw4.mono hH1.size)
      refine hK _ _ ⟨hH2, ?_⟩
      clear hK K
      try simp only [List.getElem_toArray, List.getElem_cons_zero, List.getElem_cons_succ, Act.put, List.setIfInBounds_toArray, List.set_cons_zero, List.set_cons_succ]
      refine wpKeepL_step rfl rfl (fun K hK => ?_)
      go_simp
      refine hK _ _ ⟨hH2, ?_⟩
      clear hK K
      try simp only [List.getElem_toArray, List.getElem_cons_zero, List.getElem_cons_succ, Act.put, List.setIfInBounds_toArray, List.set_cons_zero, List.set_cons_succ]
      refine wpKeepL_step rfl rfl (fun K hK => ?_)
      go_simp
      refine hK _ _ ⟨hH2.trans ((alloc_below _ _).mono hH2.size), ?_⟩
      clear hK K
      try simp only [List.getElem_toArray, List.getElem_cons_zero, List.getElem_cons_succ, Act.put, List.setIfInBounds_toArray, List.set_cons_zero, List.set_cons_succ]
      unfold wpKeepL
      simp only [List.drop_succ_cons, List.drop_zero]
      try simp only [List.getElem_toArray, List.getElem_cons_zero, List.getElem_cons_succ, Act.put, List.setIfInBounds_toArray, List.set_cons_zero, List.set_cons_succ]
      have hown4 := owns_below hown hH2
      have hbw4 := hbr.trans (hH2.mono hbr.size)
      have hbs4 := hbw4.size
      refine wpKeep_step rfl (fun K hK => ?_)
      refine wp_append_own _ (.tmp 11) (.tmp 25) 22 rfl w.heap.size 33 i0 (.agg #[.string ⟨#[]⟩, .string ⟨#[]⟩]) 2 32 slPart.ht hi hz0 hz1 hz2 slPart.hzs slPart.hsz _ _ _ rfl (hown4.alloc _) ⟨w4.heap.size, 0, none⟩ 1 1 [.string t1, .string t2] rfl rfl (cell_two_new _ _ _ _) (by simp [Value.oneCell']) (by unfold maxLen; omega) (by omega) (by simp; omega) ?_
      intro v' w5 hown5 hgrow _
      have hb5 : Below w.heap.size w w5 := (hbw4.trans ((alloc_below w4 _).mono hbs4)).grown hgrow (by simp; omega) (fun g hg => (hown4.lt g hg).1)
      have HN := Lib.hid (HNX.out v' w5 hown5 hb5)
      clear hown5 hown4
      refine hK _ _ ⟨trivial, ?_⟩
      clear hK K
      try simp only [Act.put, List.setIfInBounds_toArray, List.set_cons_zero, List.set_cons_succ]
      refine wpKeep_step rfl (fun K hK => ?_)
      go_simp
      refine hK _ _ ⟨trivial, wpKeep_nil ?_⟩
      clear hK K
      try simp only [List.getElem_toArray, List.getElem_cons_zero, List.getElem_cons_succ, Act.put, List.setIfInBounds_toArray, List.set_cons_zero, List.set_cons_succ]
      refine NormalOnly.mk ?_
      go_wp2
      refine ⟨⟨k + 1, v', HN.out, rfl, int_succ k⟩, ?_⟩
      show Z.length - ((k : Int) + 1).toNat < Z.length - ((k : Int)).toNat
      omega
    · have hkn : decide ((k : Int) < (Z.length : Int)) = false := decide_eq_false (by omega)
      obtain rfl : k = Z.length := by omega
      rw [List.take_length] at hown
      have HO := Lib.hid hown
      have HP := Lib.hid (show Pairs wr ov (Z.map halfP) from pairs_of_cells (by rw [List.length_map]; exact hown))
      clear hown hxx
      go_wp2
      go_ret
      exact ⟨_, rfl, HO.out, HP.out, hbr⟩
end Go.Proofs.YtbogpbjddaoeiaaGreatDoor
namespace Go.Proofs.YtbogpbjddaoeiaaGreatDoor
open Go.RowKit
open Go.Lib (decDigits itoa nDigits)
def cellsB (s : Nat → Bool) : Array Value := ((List.range 600).map fun j => Value.bool (s j)).toArray
theorem cellsB_size (s : Nat → Bool) : (cellsB s).size = 600 := by unfold cellsB; simp
theorem cellsB_get (s : Nat → Bool) {j : Nat} (h : j < 600) : (cellsB s)[j]? = some (.bool (s j)) := by unfold cellsB; simp [h]
theorem cellsB_one (s : Nat → Bool) : (cellsB s).all (·.oneCell') = true := by
  rw [Array.all_eq_true_iff_forall_mem]
  intro v hv
  unfold cellsB at hv
  rw [List.mem_toArray] at hv
  obtain ⟨j, _, rfl⟩ := List.mem_map.1 hv
  rfl
theorem cellsB_set (s : Nat → Bool) {N : Nat} (h : N < 600) : (cellsB s).setIfInBounds N (.bool true) = cellsB (fun j => s j || decide (j = N)) := by
  apply Array.ext_getElem?
  intro j
  rw [Array.getElem?_setIfInBounds]
  by_cases hj : N = j
  · subst hj
    rw [if_pos rfl, cellsB_size, if_pos h, cellsB_get _ h]
    simp
  · rw [if_neg hj]
    by_cases hl : j < 600
    · rw [cellsB_get _ hl, cellsB_get _ hl, decide_eq_false (fun e => hj e.symm), Bool.or_false]
    · rw [Array.getElem?_eq_none (by rw [cellsB_size]; omega), Array.getElem?_eq_none (by rw [cellsB_size]; omega)]
theorem setOf_nil : setOf [] = fun _ => false := rfl
theorem cellsB_zero : cellsB (setOf []) = Array.replicate 600 (.bool false) := by
  apply Array.ext_getElem?
  intro j
  by_cases hl : j < 600
  · rw [cellsB_get _ hl, Array.getElem?_replicate, if_pos hl, setOf_nil]
  · rw [Array.getElem?_eq_none (by rw [cellsB_size]; omega), Array.getElem?_replicate, if_neg hl]
theorem infoSet : (Tryz.prog.info? 79).map (fun i => (i.zero, i.size)) = some (some (.agg (Array.replicate 600 (.bool false))), 600) := by kernel_rfl
theorem zeroSet : ∀ w, (zeroValue 79).run Tryz.prog w = .ok (.agg (cellsB (setOf []))) w := by
  rw [cellsB_zero]; exact (zero_of_info infoSet).1
theorem sizeSet (s : Nat → Bool) : (Tryz.prog.info? 79).map (·.size) = some (cellsB s).size := by rw [cellsB_size]; exact (zero_of_info infoSet).2
def sIn (L : List ZP) (z : ZP) (c : Int) (j : Nat) : Bool := setOf L j || (decide (z.1 ≤ (j : Int) - 300) && decide ((j : Int) - 300 < c))
theorem sIn_zero (L : List ZP) (z : ZP) : sIn L z z.1 = setOf L := by
  funext j
  unfold sIn
  rw [show (decide (z.1 ≤ (j : Int) - 300) && decide ((j : Int) - 300 < z.1)) = false by
    rw [Bool.and_eq_false_iff, decide_eq_false_iff_not, decide_eq_false_iff_not]; omega, Bool.or_false]
theorem sIn_step {L : List ZP} {z : ZP} {c : Int} (hc : z.1 ≤ c) {N : Nat} (hN : (N : Int) = c + 300) : (fun j => sIn L z c j || decide (j = N)) = sIn L z (c + 1) := by
  funext j
  unfold sIn
  rw [Bool.or_assoc]
  congr 1
  rw [Bool.eq_iff_iff]
  simp only [Bool.or_eq_true, Bool.and_eq_true, decide_eq_true_eq]
  omega
theorem sIn_done (L : List ZP) (z : ZP) : sIn L z z.2 = setOf (L ++ [z]) := by
  funext j
  unfold sIn setOf covB
  rw [List.any_append]
  simp
theorem sIn_set {L : List ZP} {z : ZP} {c : Int} (hc : z.1 ≤ c) {N : Nat} (hN : (N : Int) = c + 300) (h : N < 600) : (cellsB (sIn L z c)).setIfInBounds N (.bool true) = cellsB (sIn L z (c + 1)) := by
  rw [cellsB_set _ h, sIn_step hc hN]
theorem below_setRow {n g : Nat} {w W : World} (h : Below n w W) (hg : n ≤ g) (cs : Array Value) : Below n w (W.setRow g cs) :=
  ⟨h.os, h.tape, h.output, by rw [setRow_size]; exact h.size, fun k hk => by rw [setRow_other _ _ _ _ (by omega)]; exact h.block k hk⟩
def SetPost (s : Nat → Bool) (w : World) (e : Ending) (w' : World) : Prop := e = .returned (.agg (cellsB s)) ∧ Below w.heap.size w w'
set_option maxRecDepth 100000 in
set_option maxHeartbeats 8000000 in
theorem ref_Of (v : Value) (Z : List ZP) (w : World) (hv : Zees w v Z) (hZ : ∀ p ∈ Z, -300 ≤ p.1 ∧ p.1 < p.2 ∧ p.2 ≤ 300) (hl : Z.length ≤ 1000) :
    Calls Tryz.prog 42 #[v] w (SetPost (setOf Z) w) := by
  obtain ⟨p, c, rfl, hc, hmx, hxx⟩ := hv
  obtain ⟨W1, hW1⟩ : ∃ W1, W1 = w.alloc (Obj.cells (cellsB (setOf [])) 79) := ⟨_, rfl⟩
  have hb1 : Below w.heap.size w W1 := by rw [hW1]; exact alloc_below _ _
  have HS1 := Lib.hid (show W1.heap.size = w.heap.size + 1 by rw [hW1]; simp)
  have hr1 : W1.heap[w.heap.size]? = some (.cells (cellsB (setOf [])) 79 (0, 0)) := by rw [hW1]; exact World.alloc_heap_new _ _
  have HR1 := Lib.hid hr1
  have HW1 := Lib.hid hW1
  have hlt1 := lt_of_some hr1
  have hzs := zeroSet
  clear hW1 hr1
  go_enter Tryz.func42, Tryz.ntmps42
  go_wp2_with fail
  rw [← HW1.out, ← HS1.out]
  clear hzs
  go_loopw [4] (fun iv wr => ∃ (k : Nat), k ≤ Z.length ∧ iv = .int .i64 (k : Int) ∧ wr = W1.alloc (Obj.cells (cellsB (setOf (Z.take k))) 79)) (fun iv _ => Z.length - (intOf iv).toNat)
  case atStart => exact ⟨0, Nat.zero_le _, rfl, rfl⟩
  case round =>
    obtain ⟨k, hk, rfl, rfl⟩ := hrel
    by_cases hkl : k < Z.length
    · obtain ⟨b, off, rfl, hbl, hcell⟩ := hxx (by omega)
      obtain ⟨c0, c1⟩ := hcell k hkl
      have hbl1 : b < W1.heap.size := Nat.lt_of_lt_of_le hbl hb1.size
      have d0 : ∀ C, (W1.alloc (Obj.cells C 79)).cell? ⟨b, off + k * 2, none⟩ = some (.int .i64 Z[k].1) := fun C => ((alloc_below W1 _).cell (p := ⟨b, off + k * 2, none⟩) hbl1).trans ((hb1.cell (p := ⟨b, off + k * 2, none⟩) hbl).trans c0)
      have d1 : ∀ C, (W1.alloc (Obj.cells C 79)).cell? ⟨b, off + k * 2 + 1, none⟩ = some (.int .i64 Z[k].2) := fun C => ((alloc_below W1 _).cell (p := ⟨b, off + k * 2 + 1, none⟩) hbl1).trans ((hb1.cell (p := ⟨b, off + k * 2 + 1, none⟩) hbl).trans c1)
      have hkn : decide ((k : Int) < (Z.length : Int)) = true := decide_eq_true (by omega)
      have i1 : (0 : Int) ≤ (k : Int) := by omega
      have i2 : (k : Int) < (Z.length : Int) := by omega
      obtain ⟨z1, z2, z3⟩ := hZ _ (List.getElem_mem hkl)
      have HTK := Lib.hid (List.take_succ_eq_append_getElem hkl)
      generalize Z[k] = z at *
      have HZ0 := Lib.hid (sIn_zero (Z.take k) z)
      have HZD := Lib.hid (sIn_done (Z.take k) z)
      have HSET := Lib.hid (fun (c : Int) (N : Nat) (h : z.1 ≤ c) (hN : (N : Int) = c + 300) (hl : N < 600) => sIn_set (L := Z.take k) h hN hl)
      generalize Z.take k = T at *
      clear c0 c1 hcell hxx hZ
      rw [← HZ0.out]
      go_wp2_with fail
      go_loopw [5] (fun kv wr => ∃ c : Int, z.1 ≤ c ∧ c ≤ z.2 ∧ kv = .int .i64 c ∧ wr = W1.alloc (Obj.cells (cellsB (sIn T z c)) 79)) (fun kv _ => (z.2 - intOf kv).toNat)
      case atStart => exact ⟨z.1, Int.le_refl _, by omega, rfl, rfl⟩
      case round =>
        obtain ⟨c, hc1, hc2, rfl, rfl⟩ := hrel
        by_cases hcl : c < z.2
        · have e1 : decide (c < z.2) = true := decide_eq_true hcl
          obtain ⟨N, hN⟩ : ∃ N : Nat, (N : Int) = c + 300 := ⟨(c + 300).toNat, by omega⟩
          have hN6 : N < 600 := by omega
          have hset := HSET.out c N hc1 hN hN6
          have hget := cellsB_get (sIn T z c) hN6
          have j1 : IntKind.i64.wrap (c + 300) = c + 300 := IntWalk.i64_in _ (by omega)
          have j2 : (c + 300).toNat = N := by omega
          have j3 : (0 : Int) ≤ c + 300 := by omega
          have j4 : c + 300 < 600 := by omega
          have j5 : decide ((0 : Int) ≤ c + 300) = true := decide_eq_true j3
          have j6 : decide (c + 300 < (600 : Int)) = true := decide_eq_true j4
          have HN := Lib.hid hN
          clear hN
          go_wp2
          refine ⟨⟨c + 1, by omega, by omega, rfl, rfl⟩, ?_⟩
          show (z.2 - (c + 1)).toNat < (z.2 - c).toNat
          omega
        · have e1 : decide (c < z.2) = false := decide_eq_false hcl
          obtain rfl : c = z.2 := by omega
          rw [HZD.out, ← HTK.out]
          go_wp2
          refine ⟨⟨k + 1, hkl, int_succ k, rfl⟩, ?_⟩
          show Z.length - ((k : Int) + 1).toNat < Z.length - ((k : Int)).toNat
          omega
    · have hkn : decide ((k : Int) < (Z.length : Int)) = false := decide_eq_false (by omega)
      obtain rfl : k = Z.length := by omega
      rw [List.take_length]
      clear hxx hZ
      have hrow : (W1.alloc (Obj.cells (cellsB (setOf Z)) 79)).heap[W1.heap.size]? = some (.cells (cellsB (setOf Z)) 79 (0, 0)) := World.alloc_heap_new _ _
      have hres : (W1.alloc (Obj.cells (cellsB (setOf Z)) 79)).heap[w.heap.size]? = some (.cells (cellsB (setOf [])) 79 (0, 0)) := ((alloc_below W1 _).block _ hlt1).trans HR1.out
      have hbw := hb1.trans ((alloc_below W1 (Obj.cells (cellsB (setOf Z)) 79)).mono hb1.size)
      have HROW := Lib.hid hrow
      have HRES := Lib.hid hres
      clear hrow hres
      generalize W1.alloc (Obj.cells (cellsB (setOf Z)) 79) = W2 at *
      go_wp2_with (first
        | (refine wpList_load_row rfl 79 _ rfl W1.heap.size rfl 79 _ _ _ HROW.out Tryz.underlying79 rfl (sizeSet _) ?_)
        | (refine wpList_store_row rfl 79 _ _ rfl w.heap.size (cellsB (setOf Z)) rfl rfl 79 (cellsB (setOf [])) HRES.out (sizeSet _) (by rw [cellsB_size, cellsB_size]) (cellsB_one _) ?_))
      refine bodyPost_ret (v := .agg (cellsB (setOf Z))) ?_ rfl ⟨rfl, below_setRow hbw (Nat.le_refl _) _⟩
      exact results_cell_row Tryz.results42 _ _ w.heap.size 79 _ (0, 0) _ rfl (setRow_heap _ _ _ _ _ _ HRES.out) Tryz.underlying79 rfl (sizeSet _)
end Go.Proofs.YtbogpbjddaoeiaaGreatDoor
namespace Go.Proofs.YtbogpbjddaoeiaaGreatDoor
open Go.RowKit
open Go.Lib (decDigits itoa nDigits)
/-- the loop: k cells have been seen, the last run began at f -/
def RuSt (s : Nat → Bool) (wA : World) (k f : Nat) (Z : List ZP) (ov : Value) (wr : World) : Prop :=
  EndsSt s k f Z ∧ f ≤ k ∧ Z.length ≤ k ∧ wr.ownsRow wA.heap.size 60 2 ov Z.length (cellsZ Z) ∧ Below wA.heap.size wA wr
theorem RuSt.same {s : Nat → Bool} {wA wr : World} {k f f' : Nat} {Z : List ZP} {ov : Value} (h : RuSt s wA k f Z ov wr) (hs : EndsSt s (k + 1) f' Z) (hf : f' ≤ k) : RuSt s wA (k + 1) f' Z ov wr :=
  ⟨hs, by omega, by have := h.2.2.1; omega, h.2.2.2.1, h.2.2.2.2⟩
theorem RuSt.put {s : Nat → Bool} {wA wr : World} {k f f' : Nat} {Z : List ZP} {ov v' : Value} {w' : World} (h : RuSt s wA k f Z ov wr) (hs : EndsSt s (k + 1) f' (Z ++ [((f' : Int) - 300, (k : Int) + 1 - 300)])) (hf : f' ≤ k)
    (ho : w'.ownsRow wA.heap.size 60 2 v' (Z.length + 1) (cellsZ Z ++ [.int .i64 ((f' : Int) - 300), .int .i64 ((k : Int) + 1 - 300)])) (hb : Below wA.heap.size wA w') : RuSt s wA (k + 1) f' (Z ++ [((f' : Int) - 300, (k : Int) + 1 - 300)]) v' w' :=
  ⟨hs, by omega, by rw [List.length_append, List.length_singleton]; have := h.2.2.1; omega, by rw [cellsZ_snoc, List.length_append, List.length_singleton]; exact ho, hb⟩
def RunsPost (s : Nat → Bool) (w : World) (e : Ending) (w' : World) : Prop := ∃ (v : Value) (Z : List ZP), e = .returned v ∧ Zees w' v Z ∧ IsSet s Z ∧ Z.length ≤ 600 ∧ Below w.heap.size w w'
set_option maxRecDepth 100000 in
set_option maxHeartbeats 16000000 in
theorem ref_Ends (s : Nat → Bool) (w : World) :
    Calls Tryz.prog 48 #[.agg (cellsB s)] w (RunsPost s w) := by
  obtain ⟨wA, hwA⟩ : ∃ wA, wA = w.alloc (Obj.cells (cellsB s) 79) := ⟨_, rfl⟩
  have hbA : Below w.heap.size w wA := by rw [hwA]; exact alloc_below _ _
  have hpA : wA.heap[w.heap.size]? = some (.cells (cellsB s) 79 (0, 0)) := by rw [hwA]; exact World.alloc_heap_new _ _
  have hltA := lt_of_some hpA
  have HPA := Lib.hid hpA
  have HWA := Lib.hid hwA
  have HST0 := Lib.hid (show RuSt s wA 0 0 [] (.slice none 0 0) wA from ⟨EndsSt.zero s, Nat.le_refl _, Nat.le_refl _, World.ownsRow_nil _ _ _ _, Below.refl _ _⟩)
  clear hwA hpA
  go_enter Tryz.func48, Tryz.ntmps48
  go_wp2_with fail
  rw [← HWA.out]
  go_loopw [3, 4, 5] (fun ov fv iv wr => ∃ (k f : Nat) (Z : List ZP) (vv : Value), RuSt s wA k f Z vv wr ∧ vv = ov ∧ fv = .int .i64 (f : Int) ∧ iv = .int .i64 (k : Int)) (fun _ _ iv _ => 600 - (intOf iv).toNat)
  case atStart => exact ⟨0, 0, [], _, HST0.out, rfl, rfl, rfl⟩
  case round =>
    obtain ⟨k, f, Z, ov, hst, rfl, rfl, rfl⟩ := hrel
    have HST := Lib.hid hst
    obtain ⟨hes, hfk, hzk, hown, hbr⟩ := hst
    have hle := hes.le
    have HES := Lib.hid hes
    clear hes
    by_cases hk : k < 600
    · have hcl : ∀ j, j < 600 → wr.cell? ⟨w.heap.size, j, none⟩ = some (.bool (s j)) := fun j hj => by
        rw [hbr.cell (p := ⟨w.heap.size, j, none⟩) hltA, cell_of_row _ _ j _ _ _ HPA.out, cellsB_get s hj]
      have HCL := Lib.hid hcl
      have c0 := hcl k hk
      clear hcl
      obtain ⟨N, hN⟩ : ∃ N : Int, N = (k : Int) := ⟨_, rfl⟩
      have HNN := Lib.hid hN
      have i5 : (0 : Int) ≤ N := by omega
      have i6 : N.toNat = k := by omega
      have i7 : N < 600 := by omega
      have i8 : decide (N < (600 : Int)) = true := decide_eq_true i7
      rw [← hN]
      clear hN
      cases hs : s k
      · rw [hs] at c0
        have HR := Lib.hid (HST.out.same (HES.out.out hk hs f) hfk)
        clear hs hown
        go_wp2
        refine ⟨⟨k + 1, f, Z, ov, HR.out, rfl, rfl, by rw [HNN.out]; exact int_succ k⟩, ?_⟩
        show 600 - (N + 1).toNat < 600 - N.toNat
        omega
      · rw [hs] at c0
        have HS := Lib.hid hs
        have hbs := hbr.size
        have hol := cellsZ_len Z
        obtain ⟨i0, hi, hz0, hz1, hz2⟩ := info_parts slZ.info
        have l1 : IntKind.i64.wrap (N - 300) = N - 300 := IntWalk.i64_in _ (by omega)
        have l2 : IntKind.i64.wrap (N + 1) = N + 1 := IntWalk.i64_in _ (by omega)
        have l3 : IntKind.i64.wrap (N + 1 - 300) = N + 1 - 300 := IntWalk.i64_in _ (by omega)
        have l4 : IntKind.i64.wrap ((f : Int) - 300) = (f : Int) - 300 := IntWalk.i64_in _ (by omega)
        clear hs
        by_cases hk0 : k = 0
        · have a0 : (N == 0) = true := beq_iff_eq.2 (by omega)
          have HF := Lib.hid (show (k = 0 ∨ s (k - 1) = false) ∧ k = k ∨ (0 < k ∧ s (k - 1) = true) ∧ k = f from .inl ⟨.inl hk0, rfl⟩)
          clear hk0
          by_cases hk9 : k = 599
          · have b0 : (N == 599) = true := beq_iff_eq.2 (by omega)
            have HC := Lib.hid (HES.out.close hk HS.out k HF.out (.inl hk9))
            clear hk9
            go_wp2_with (at_builtin; refine wpList_append_own _ rfl (.tmp 39) (.tmp 46) 37 rfl wA.heap.size 60 i0 (.agg #[.int .i64 0, .int .i64 0]) 2 16 slZ.ht hi hz0 hz1 hz2 slZ.hzs slZ.hsz _ _ _ rfl (hown.alloc _) ⟨wr.heap.size, 0, none⟩ 1 1 [.int .i64 (N - 300), .int .i64 (N + 1 - 300)] rfl rfl (cell_two_new _ _ _ _) (by simp [Value.oneCell']) (by unfold maxLen; omega) (by omega) (by simp; omega) ?_; intro v' w5 hown5 hgrow _)
            have hb5 : Below wA.heap.size wA w5 := (hbr.trans ((alloc_below wr _).mono hbs)).grown hgrow (by simp; omega) (fun g hg => (hown.lt g hg).1)
            rw [HNN.out] at hown5
            refine ⟨⟨k + 1, k, _, v', HST.out.put HC.out (Nat.le_refl _) hown5 hb5, rfl, by rw [HNN.out], by rw [HNN.out]; exact int_succ k⟩, ?_⟩
            show 600 - (N + 1).toNat < 600 - N.toNat
            omega
          · have b0 : (N == 599) = false := beq_eq_false_iff_ne.2 (by omega)
            have n1 : (0 : Int) ≤ N + 1 := by omega
            have n2 : (N + 1).toNat = k + 1 := by omega
            have n3 : N + 1 < 600 := by omega
            have c2 := HCL.out (k + 1) (by omega)
            cases hs2 : s (k + 1)
            · rw [hs2] at c2
              have HC := Lib.hid (HES.out.close hk HS.out k HF.out (.inr hs2))
              clear hs2
              go_wp2_with (at_builtin; refine wpList_append_own _ rfl (.tmp 39) (.tmp 46) 37 rfl wA.heap.size 60 i0 (.agg #[.int .i64 0, .int .i64 0]) 2 16 slZ.ht hi hz0 hz1 hz2 slZ.hzs slZ.hsz _ _ _ rfl (hown.alloc _) ⟨wr.heap.size, 0, none⟩ 1 1 [.int .i64 (N - 300), .int .i64 (N + 1 - 300)] rfl rfl (cell_two_new _ _ _ _) (by simp [Value.oneCell']) (by unfold maxLen; omega) (by omega) (by simp; omega) ?_; intro v' w5 hown5 hgrow _)
              have hb5 : Below wA.heap.size wA w5 := (hbr.trans ((alloc_below wr _).mono hbs)).grown hgrow (by simp; omega) (fun g hg => (hown.lt g hg).1)
              rw [HNN.out] at hown5
              refine ⟨⟨k + 1, k, _, v', HST.out.put HC.out (Nat.le_refl _) hown5 hb5, rfl, by rw [HNN.out], by rw [HNN.out]; exact int_succ k⟩, ?_⟩
              show 600 - (N + 1).toNat < 600 - N.toNat
              omega
            · rw [hs2] at c2
              have HC := Lib.hid (HES.out.on hk HS.out k HF.out hk9 hs2)
              clear hs2 hown
              go_wp2
              refine ⟨⟨k + 1, k, Z, ov, HST.out.same HC.out (Nat.le_refl _), rfl, by rw [HNN.out], by rw [HNN.out]; exact int_succ k⟩, ?_⟩
              show 600 - (N + 1).toNat < 600 - N.toNat
              omega
        · have a0 : (N == 0) = false := beq_eq_false_iff_ne.2 (by omega)
          obtain ⟨m, hm⟩ : ∃ m, m = k - 1 := ⟨_, rfl⟩
          obtain ⟨M, hM⟩ : ∃ M : Int, M = (m : Int) := ⟨_, rfl⟩
          have m1 : IntKind.i64.wrap (N - 1) = M := (IntWalk.i64_in _ (by omega)).trans (by omega)
          have m2 : (0 : Int) ≤ M := by omega
          have m3 : M.toNat = m := by omega
          have m4 : M < 600 := by omega
          have c1 := HCL.out m (by omega)
          have HM := Lib.hid hm
          clear hM hm
          cases hs1 : s m
          · rw [hs1] at c1
            have HF := Lib.hid (show (k = 0 ∨ s (k - 1) = false) ∧ k = k ∨ (0 < k ∧ s (k - 1) = true) ∧ k = f from .inl ⟨.inr (by rw [← HM.out]; exact hs1), rfl⟩)
            clear hs1
            by_cases hk9 : k = 599
            · have b0 : (N == 599) = true := beq_iff_eq.2 (by omega)
              have HC := Lib.hid (HES.out.close hk HS.out k HF.out (.inl hk9))
              clear hk9
              go_wp2_with (at_builtin; refine wpList_append_own _ rfl (.tmp 39) (.tmp 46) 37 rfl wA.heap.size 60 i0 (.agg #[.int .i64 0, .int .i64 0]) 2 16 slZ.ht hi hz0 hz1 hz2 slZ.hzs slZ.hsz _ _ _ rfl (hown.alloc _) ⟨wr.heap.size, 0, none⟩ 1 1 [.int .i64 (N - 300), .int .i64 (N + 1 - 300)] rfl rfl (cell_two_new _ _ _ _) (by simp [Value.oneCell']) (by unfold maxLen; omega) (by omega) (by simp; omega) ?_; intro v' w5 hown5 hgrow _)
              have hb5 : Below wA.heap.size wA w5 := (hbr.trans ((alloc_below wr _).mono hbs)).grown hgrow (by simp; omega) (fun g hg => (hown.lt g hg).1)
              rw [HNN.out] at hown5
              refine ⟨⟨k + 1, k, _, v', HST.out.put HC.out (Nat.le_refl _) hown5 hb5, rfl, by rw [HNN.out], by rw [HNN.out]; exact int_succ k⟩, ?_⟩
              show 600 - (N + 1).toNat < 600 - N.toNat
              omega
            · have b0 : (N == 599) = false := beq_eq_false_iff_ne.2 (by omega)
              have n1 : (0 : Int) ≤ N + 1 := by omega
              have n2 : (N + 1).toNat = k + 1 := by omega
              have n3 : N + 1 < 600 := by omega
              have c2 := HCL.out (k + 1) (by omega)
              cases hs2 : s (k + 1)
              · rw [hs2] at c2
                have HC := Lib.hid (HES.out.close hk HS.out k HF.out (.inr hs2))
                clear hs2
                go_wp2_with (at_builtin; refine wpList_append_own _ rfl (.tmp 39) (.tmp 46) 37 rfl wA.heap.size 60 i0 (.agg #[.int .i64 0, .int .i64 0]) 2 16 slZ.ht hi hz0 hz1 hz2 slZ.hzs slZ.hsz _ _ _ rfl (hown.alloc _) ⟨wr.heap.size, 0, none⟩ 1 1 [.int .i64 (N - 300), .int .i64 (N + 1 - 300)] rfl rfl (cell_two_new _ _ _ _) (by simp [Value.oneCell']) (by unfold maxLen; omega) (by omega) (by simp; omega) ?_; intro v' w5 hown5 hgrow _)
                have hb5 : Below wA.heap.size wA w5 := (hbr.trans ((alloc_below wr _).mono hbs)).grown hgrow (by simp; omega) (fun g hg => (hown.lt g hg).1)
                rw [HNN.out] at hown5
                refine ⟨⟨k + 1, k, _, v', HST.out.put HC.out (Nat.le_refl _) hown5 hb5, rfl, by rw [HNN.out], by rw [HNN.out]; exact int_succ k⟩, ?_⟩
                show 600 - (N + 1).toNat < 600 - N.toNat
                omega
              · rw [hs2] at c2
                have HC := Lib.hid (HES.out.on hk HS.out k HF.out hk9 hs2)
                clear hs2 hown
                go_wp2
                refine ⟨⟨k + 1, k, Z, ov, HST.out.same HC.out (Nat.le_refl _), rfl, by rw [HNN.out], by rw [HNN.out]; exact int_succ k⟩, ?_⟩
                show 600 - (N + 1).toNat < 600 - N.toNat
                omega
          · rw [hs1] at c1
            have HF := Lib.hid (show (k = 0 ∨ s (k - 1) = false) ∧ f = k ∨ (0 < k ∧ s (k - 1) = true) ∧ f = f from .inr ⟨⟨by omega, by rw [← HM.out]; exact hs1⟩, rfl⟩)
            clear hs1
            by_cases hk9 : k = 599
            · have b0 : (N == 599) = true := beq_iff_eq.2 (by omega)
              have HC := Lib.hid (HES.out.close hk HS.out f HF.out (.inl hk9))
              clear hk9
              go_wp2_with (at_builtin; refine wpList_append_own _ rfl (.tmp 39) (.tmp 46) 37 rfl wA.heap.size 60 i0 (.agg #[.int .i64 0, .int .i64 0]) 2 16 slZ.ht hi hz0 hz1 hz2 slZ.hzs slZ.hsz _ _ _ rfl (hown.alloc _) ⟨wr.heap.size, 0, none⟩ 1 1 [.int .i64 ((f : Int) - 300), .int .i64 (N + 1 - 300)] rfl rfl (cell_two_new _ _ _ _) (by simp [Value.oneCell']) (by unfold maxLen; omega) (by omega) (by simp; omega) ?_; intro v' w5 hown5 hgrow _)
              have hb5 : Below wA.heap.size wA w5 := (hbr.trans ((alloc_below wr _).mono hbs)).grown hgrow (by simp; omega) (fun g hg => (hown.lt g hg).1)
              rw [HNN.out] at hown5
              refine ⟨⟨k + 1, f, _, v', HST.out.put HC.out hfk hown5 hb5, rfl, rfl, by rw [HNN.out]; exact int_succ k⟩, ?_⟩
              show 600 - (N + 1).toNat < 600 - N.toNat
              omega
            · have b0 : (N == 599) = false := beq_eq_false_iff_ne.2 (by omega)
              have n1 : (0 : Int) ≤ N + 1 := by omega
              have n2 : (N + 1).toNat = k + 1 := by omega
              have n3 : N + 1 < 600 := by omega
              have c2 := HCL.out (k + 1) (by omega)
              cases hs2 : s (k + 1)
              · rw [hs2] at c2
                have HC := Lib.hid (HES.out.close hk HS.out f HF.out (.inr hs2))
                clear hs2
                go_wp2_with (at_builtin; refine wpList_append_own _ rfl (.tmp 39) (.tmp 46) 37 rfl wA.heap.size 60 i0 (.agg #[.int .i64 0, .int .i64 0]) 2 16 slZ.ht hi hz0 hz1 hz2 slZ.hzs slZ.hsz _ _ _ rfl (hown.alloc _) ⟨wr.heap.size, 0, none⟩ 1 1 [.int .i64 ((f : Int) - 300), .int .i64 (N + 1 - 300)] rfl rfl (cell_two_new _ _ _ _) (by simp [Value.oneCell']) (by unfold maxLen; omega) (by omega) (by simp; omega) ?_; intro v' w5 hown5 hgrow _)
                have hb5 : Below wA.heap.size wA w5 := (hbr.trans ((alloc_below wr _).mono hbs)).grown hgrow (by simp; omega) (fun g hg => (hown.lt g hg).1)
                rw [HNN.out] at hown5
                refine ⟨⟨k + 1, f, _, v', HST.out.put HC.out hfk hown5 hb5, rfl, rfl, by rw [HNN.out]; exact int_succ k⟩, ?_⟩
                show 600 - (N + 1).toNat < 600 - N.toNat
                omega
              · rw [hs2] at c2
                have HC := Lib.hid (HES.out.on hk HS.out f HF.out hk9 hs2)
                clear hs2 hown
                go_wp2
                refine ⟨⟨k + 1, f, Z, ov, HST.out.same HC.out hfk, rfl, rfl, by rw [HNN.out]; exact int_succ k⟩, ?_⟩
                show 600 - (N + 1).toNat < 600 - N.toNat
                omega
    · have i8 : decide ((k : Int) < (600 : Int)) = false := decide_eq_false (by omega)
      have hk6 : k = 600 := by omega
      have HZ := Lib.hid (zees_of_owns hown)
      have HD := Lib.hid (show IsSet s Z by have := HES.out; rw [hk6] at this; exact this.done)
      clear hk6 hk
      obtain ⟨hl1, p', c', rfl, hc', hm', hr1⟩ := Reads.of_owns hown
      clear hl1 hr1 hown
      go_wp2
      go_ret
      exact ⟨_, Z, rfl, HZ.out, HD.out, by omega, hbA.trans (hbr.mono hbA.size)⟩
end Go.Proofs.YtbogpbjddaoeiaaGreatDoor
