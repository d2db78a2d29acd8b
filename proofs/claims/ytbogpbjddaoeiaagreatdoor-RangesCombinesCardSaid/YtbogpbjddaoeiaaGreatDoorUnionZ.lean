import Derived.Test.YtbogpbjddaoeiaaGreatDoorCombZ
import Derived.Test.YtbogpbjddaoeiaaGreatDoorMakeSZ
namespace Go.Proofs.YtbogpbjddaoeiaaGreatDoor
open Go.RowKit Go.Shelf
open Go.Lib (decDigits itoa nDigits)
/-- right unions between halves of a small window -/
structure Hal (Z : List ZP) : Prop where
  norm : Norm Z
  bound : ∀ p ∈ Z, -128 ≤ p.1 ∧ p.2 ≤ 139
theorem Hal.small {Z : List ZP} (h : Hal Z) : SmallZ Z := fun p hp => by have := h.bound p hp; have := h.norm.1 p hp; omega
theorem Hal.len {Z : List ZP} (h : Hal Z) : Z.length ≤ 134 := by
  have := norm_count (-128) 139 Z (by decide) h.norm h.bound
  omega
theorem Hal.check {Z : List ZP} (h : Hal Z) : checkErr (Z.map halfP) = 0 := half_check h.small h.norm (by have := h.len; omega)
theorem Hal.of_set {D : List Duo} (hok : ∀ d ∈ D, okDuo d) {Z : List ZP} (h : IsSet (setOf (endsZ D)) Z) : Hal Z := ⟨h.1, fun p hp => by have := (make_small hok h).1 p hp; omega⟩
theorem covB_bound {Z : List ZP} (h : Hal Z) {i : Int} (hi : covB Z i = true) : -128 ≤ i ∧ i < 139 := by
  obtain ⟨p, hp, h1, h2⟩ := covB_iff.1 hi
  have := h.bound p hp
  omega
theorem Hal.comb {keep : Bool → Bool → Bool} (hk : keep false false = false) {A B C : List ZP} (hA : Hal A) (hB : Hal B) (hC : Norm C) (hc : ∀ i, cov C i ↔ keep (covB A i) (covB B i) = true) : Hal C := by
  have key : ∀ i, cov C i → -128 ≤ i ∧ i < 139 := fun i hi => by
    have h := (hc i).1 hi
    cases ha : covB A i
    · cases hb : covB B i
      · rw [ha, hb, hk] at h; cases h
      · exact covB_bound hB hb
    · exact covB_bound hA ha
  refine ⟨hC, fun p hp => ?_⟩
  have hlt := hC.1 p hp
  have h1 := key p.1 ⟨p, hp, Int.le_refl _, hlt⟩
  have h2 := key (p.2 - 1) ⟨p, hp, by omega, by omega⟩
  omega
/-- what a function of two unions between halves returns -/
def CombHalf (keep : Bool → Bool → Bool) (A B : List ZP) (w : World) (e : Ending) (w' : World) : Prop :=
  ∃ (v : Value) (C : List ZP), e = .returned (.tuple #[v, .int .i64 0]) ∧ Pairs w' v (C.map halfP) ∧ Hal C ∧ (∀ i, cov C i ↔ keep (covB A i) (covB B i) = true) ∧ Below w.heap.size w w'
theorem combine_half (kf : FuncId) (keep : Bool → Bool → Bool) (hk : keep false false = false) (va vb : Value) (A B : List ZP) (w : World) (hw : Good w) (hA : Pairs w va (A.map halfP)) (hB : Pairs w vb (B.map halfP)) (nA : Hal A) (nB : Hal B)
    (eg : ∀ args w, (callFunc kf args).run Tryz.prog w = .ok (.enter kf args) w) (hkf : ∀ x y w, Calls Tryz.prog kf #[.bool x, .bool y] w fun e w' => e = .returned (.bool (keep x y)) ∧ w' = w) :
    Calls Tryz.prog 90 #[va, vb, .func (.func kf) #[] #[]] w (CombHalf keep A B w) := by
  obtain ⟨LA, eA, _⟩ := check_rps nA.check
  obtain ⟨LB, eB, _⟩ := check_rps nB.check
  have kA := nA.check
  have kB := nB.check
  rw [← eA] at hA kA
  rw [← eB] at hB kB
  refine (callsIn_wide.1 (ranges_combine va vb kf keep LA LB w hw hA hB kA kB eg hkf)).mono ?_
  rintro e w' ⟨v, E, M, hEO, hp, hpw, hret, hpv, hb⟩
  obtain ⟨W, w1, inA, inB, hsm, hfl⟩ := comb_half keep nA.small nB.small eA eB hEO.1 hEO.2.1
  obtain ⟨C, c1, c2, c3⟩ := merged_half hsm (fun p hp => (pz_mem w1 (List.mem_filter.1 hp).1).2.2.1) hfl hp hpw
  have hc : ∀ i, cov C i ↔ keep (covB A i) (covB B i) = true := fun i => (c3 i).trans (comb_cov hk w1 inA inB i)
  have hH := Hal.comb hk nA nB c2 hc
  have hl : (mergeP M).length ≤ 200 := by
    have h1 := congrArg List.length c1
    rw [List.length_map, List.length_map] at h1
    have := hH.len
    omega
  rw [c1] at hpv
  exact ⟨v, C, hret hl, hpv, hH, hc, hb⟩
theorem union_keep (x y : Bool) (w : World) : Calls Tryz.prog 91 #[.bool x, .bool y] w fun e w' => e = .returned (.bool (x || y)) ∧ w' = w := by
  cases x <;> cases y <;>
  · go_enter Tryz.func91, Tryz.ntmps91
    go_wp2
    go_ret
    exact ⟨rfl, rfl⟩
theorem union_half (va vb : Value) (A B : List ZP) (w : World) (hw : Good w) (hA : Pairs w va (A.map halfP)) (hB : Pairs w vb (B.map halfP)) (nA : Hal A) (nB : Hal B) :
    Calls Tryz.prog 43 #[va, vb] w (CombHalf (fun x y => x || y) A B w) := by
  have HC := Lib.hid (combine_half 91 (fun x y => x || y) rfl va vb A B w hw hA hB nA nB (enters_of Tryz.func91 (by kernel_rfl) rfl) union_keep)
  unfold CombHalf at HC ⊢
  obtain ⟨p, c, rfl, hza⟩ := hA
  obtain ⟨p', c', rfl, hzb⟩ := hB
  clear hza hzb
  generalize (A.map halfP).length = na at *
  generalize (B.map halfP).length = nb at *
  go_enter Tryz.func43, Tryz.ntmps43
  go_wp2_with fail
  refine HC.out.mono ?_
  rintro e w1 ⟨v, C, rfl, hp, hH, hc, hb⟩
  obtain ⟨p1, c1, rfl, hzc⟩ := id hp
  clear hzc
  obtain ⟨n1, hn1⟩ : ∃ n1, (C.map halfP).length = n1 := ⟨_, rfl⟩
  rw [hn1] at hp ⊢
  clear hn1
  have HP := Lib.hid hp
  have HHC := Lib.hid hc
  clear hp hc
  go_wp2
  go_ret2
  exact ⟨_, C, rfl, HP.out, hH, HHC.out, hb⟩
theorem inter_keep (x y : Bool) (w : World) : Calls Tryz.prog 92 #[.bool x, .bool y] w fun e w' => e = .returned (.bool (x && y)) ∧ w' = w := by
  cases x <;> cases y <;>
  · go_enter Tryz.func92, Tryz.ntmps92
    go_wp2
    go_ret
    exact ⟨rfl, rfl⟩
theorem inter_half (va vb : Value) (A B : List ZP) (w : World) (hw : Good w) (hA : Pairs w va (A.map halfP)) (hB : Pairs w vb (B.map halfP)) (nA : Hal A) (nB : Hal B) :
    Calls Tryz.prog 44 #[va, vb] w (CombHalf (fun x y => x && y) A B w) := by
  have HC := Lib.hid (combine_half 92 (fun x y => x && y) rfl va vb A B w hw hA hB nA nB (enters_of Tryz.func92 (by kernel_rfl) rfl) inter_keep)
  unfold CombHalf at HC ⊢
  obtain ⟨p, c, rfl, hza⟩ := hA
  obtain ⟨p', c', rfl, hzb⟩ := hB
  clear hza hzb
  generalize (A.map halfP).length = na at *
  generalize (B.map halfP).length = nb at *
  go_enter Tryz.func44, Tryz.ntmps44
  go_wp2_with fail
  refine HC.out.mono ?_
  rintro e w1 ⟨v, C, rfl, hp, hH, hc, hb⟩
  obtain ⟨p1, c1, rfl, hzc⟩ := id hp
  clear hzc
  obtain ⟨n1, hn1⟩ : ∃ n1, (C.map halfP).length = n1 := ⟨_, rfl⟩
  rw [hn1] at hp ⊢
  clear hn1
  have HP := Lib.hid hp
  have HHC := Lib.hid hc
  clear hp hc
  go_wp2
  go_ret2
  exact ⟨_, C, rfl, HP.out, hH, HHC.out, hb⟩
theorem subt_keep (x y : Bool) (w : World) : Calls Tryz.prog 93 #[.bool x, .bool y] w fun e w' => e = .returned (.bool (x && !y)) ∧ w' = w := by
  cases x <;> cases y <;>
  · go_enter Tryz.func93, Tryz.ntmps93
    go_wp2
    go_ret
    exact ⟨rfl, rfl⟩
theorem subt_half (va vb : Value) (A B : List ZP) (w : World) (hw : Good w) (hA : Pairs w va (A.map halfP)) (hB : Pairs w vb (B.map halfP)) (nA : Hal A) (nB : Hal B) :
    Calls Tryz.prog 45 #[va, vb] w (CombHalf (fun x y => x && !y) A B w) := by
  have HC := Lib.hid (combine_half 93 (fun x y => x && !y) rfl va vb A B w hw hA hB nA nB (enters_of Tryz.func93 (by kernel_rfl) rfl) subt_keep)
  unfold CombHalf at HC ⊢
  obtain ⟨p, c, rfl, hza⟩ := hA
  obtain ⟨p', c', rfl, hzb⟩ := hB
  clear hza hzb
  generalize (A.map halfP).length = na at *
  generalize (B.map halfP).length = nb at *
  go_enter Tryz.func45, Tryz.ntmps45
  go_wp2_with fail
  refine HC.out.mono ?_
  rintro e w1 ⟨v, C, rfl, hp, hH, hc, hb⟩
  obtain ⟨p1, c1, rfl, hzc⟩ := id hp
  clear hzc
  obtain ⟨n1, hn1⟩ : ∃ n1, (C.map halfP).length = n1 := ⟨_, rfl⟩
  rw [hn1] at hp ⊢
  clear hn1
  have HP := Lib.hid hp
  have HHC := Lib.hid hc
  clear hp hc
  go_wp2
  go_ret2
  exact ⟨_, C, rfl, HP.out, hH, HHC.out, hb⟩
/-- Within's word -/
theorem within_half (va vb : Value) (A B : List ZP) (w : World) (hw : Good w) (hA : Pairs w va (A.map halfP)) (hB : Pairs w vb (B.map halfP)) (nA : Hal A) (nB : Hal B) :
    Calls Tryz.prog 46 #[va, vb] w fun e w' => ∃ C : List ZP, e = .returned (.tuple #[.bool (decide (C.length = 0)), .int .i64 0]) ∧ Hal C ∧ (∀ i, cov C i ↔ (covB A i && !covB B i) = true) ∧ Below w.heap.size w w' := by
  have HC := Lib.hid (subt_half va vb A B w hw hA hB nA nB)
  unfold CombHalf at HC
  obtain ⟨p, c, rfl, hza⟩ := hA
  obtain ⟨p', c', rfl, hzb⟩ := hB
  clear hza hzb
  generalize (A.map halfP).length = na at *
  generalize (B.map halfP).length = nb at *
  go_enter Tryz.func46, Tryz.ntmps46
  go_wp2_with fail
  refine HC.out.mono ?_
  rintro e w1 ⟨v, C, rfl, hp, hH, hc, hb⟩
  obtain ⟨p1, c1, rfl, _⟩ := hp
  have HHC := Lib.hid hc
  have hcl : (C.map halfP).length = C.length := List.length_map _
  rw [hcl]
  obtain ⟨bz, hbz⟩ : ∃ bz : Bool, bz = decide (C.length = 0) := ⟨_, rfl⟩
  have hd : ((C.length : Int) == 0) = bz := by rw [hbz, Bool.eq_iff_iff]; simp
  have HBZ := Lib.hid hbz
  clear hc hcl hbz
  go_wp2
  go_ret2
  exact ⟨C, by rw [← HBZ.out]; rfl, hH, HHC.out, hb⟩
/-! lengths -/
theorem hf_add (a b c : Int) : hf a + (hf c - hf b) = hf (a + (c - b)) := by
  unfold hf
  rw [Rat.mkRat_eq_div, Rat.mkRat_eq_div, Rat.mkRat_eq_div, Rat.mkRat_eq_div, Rat.intCast_add, Rat.intCast_sub]
  rw [show ((2 : Nat) : Rat) = 2 from rfl]
  grind
theorem lenQ_fold : ∀ (Z : List ZP) (a : Int), (Z.map hfP).foldl (fun s p => s + (p.2 - p.1)) (hf a) = hf (a + lenZ Z)
  | [], a => by rw [List.map_nil, List.foldl_nil]; unfold lenZ; rw [Int.add_zero]
  | p :: Z, a => by
    rw [List.map_cons, List.foldl_cons]
    show (Z.map hfP).foldl _ (hf a + (hf p.2 - hf p.1)) = _
    rw [hf_add, lenQ_fold Z]
    congr 1
    show a + (p.2 - p.1) + lenZ Z = a + ((p.2 - p.1) + lenZ Z)
    omega
theorem len_half {Z : List ZP} (h : SmallZ Z) : lenSum (Z.map halfP) = hf (lenZ Z) := by
  rw [lenSum_rats, rats_halfP h]
  unfold lenQ
  have := lenQ_fold Z 0
  rw [show hf 0 = 0 by unfold hf; rfl, Int.zero_add] at this
  exact this
theorem lenZ_bound : ∀ (a b : Int) (L : List ZP), a ≤ b → Norm L → (∀ p ∈ L, a ≤ p.1 ∧ p.2 ≤ b) → 0 ≤ lenZ L ∧ lenZ L ≤ b - a
  | a, b, [], h, _, _ => by unfold lenZ; omega
  | a, b, p :: r, h, hn, hb => by
    have h1 := hb p (List.mem_cons_self ..)
    have h2 := hn.head
    have ih := lenZ_bound p.2 b r h1.2 hn.tail fun q hq => ⟨Int.le_of_lt ((List.pairwise_cons.1 hn.2).1 q hq), (hb q (List.mem_cons_of_mem _ hq)).2⟩
    show 0 ≤ (p.2 - p.1) + lenZ r ∧ (p.2 - p.1) + lenZ r ≤ b - a
    omega
theorem Hal.length {Z : List ZP} (h : Hal Z) : 0 ≤ lenZ Z ∧ lenZ Z ≤ 267 := by
  have := lenZ_bound (-128) 139 Z (by decide) h.norm h.bound
  omega
theorem length_half (v : Value) (Z : List ZP) (w : World) (hw : Good w) (hv : Pairs w v (Z.map halfP)) (nZ : Hal Z) :
    Calls Tryz.prog 47 #[v] w fun e w' => e = .returned (.tuple #[.string (tx (hf (lenZ Z))), .int .i64 0]) ∧ Below w.heap.size w w' := by
  refine (ranges_Length v _ w hw hv (szOk_of (checkErr_ok nZ.check).1)).mono ?_
  rintro e w' ⟨h1, _⟩
  obtain ⟨r, hr, ⟨u, rfl, hu⟩, hb⟩ := h1 nZ.check
  rw [len_half nZ.small] at hr
  have hl := nZ.length
  obtain ⟨b1, _⟩ := okR2 (hf_fr (n := lenZ Z) (by omega) (by omega)) (by decide) (by decide)
  have hrt : r = tx (hf (lenZ Z)) := hr.unique (isR_mk _)
  subst hrt
  rw [if_pos b1] at hu
  exact ⟨by rw [hu], hb⟩
end Go.Proofs.YtbogpbjddaoeiaaGreatDoor
