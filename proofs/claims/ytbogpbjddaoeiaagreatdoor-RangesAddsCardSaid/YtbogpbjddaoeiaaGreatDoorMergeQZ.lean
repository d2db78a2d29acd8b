import Derived.Test.YtbogpbjddaoeiaaGreatDoorZrowZ
import Derived.Test.YtbogpbjddaoeiaaGreatDoorPlainQZ
namespace Go.Proofs.YtbogpbjddaoeiaaGreatDoor
open Go.RowKit
open Go.Lib (decDigits itoa nDigits)
def NormQ (L : List QP) : Prop := (∀ p ∈ L, p.1 < p.2) ∧ L.Pairwise (fun x y => x.2 < y.1)
def RNormQ (A : List QP) : Prop := (∀ p ∈ A, p.1 < p.2) ∧ A.Pairwise (fun x y => y.2 < x.1)
theorem RNormQ.norm {A : List QP} (h : RNormQ A) : NormQ A.reverse := ⟨fun p hp => h.1 p (List.mem_reverse.1 hp), List.pairwise_reverse.2 h.2⟩
theorem mergeQ1_step {A : List QP} {p : QP} (h : RNormQ A) (hp : p.1 < p.2) : RNormQ (mergeQ1 A p) := by
  cases A with
  | nil => exact ⟨fun q hq => (by rw [List.mem_singleton.1 hq]; exact hp), List.pairwise_singleton _ _⟩
  | cons q r =>
    have hq := h.1 q (List.mem_cons_self ..)
    obtain ⟨h1, h2⟩ := List.pairwise_cons.1 h.2
    rw [show mergeQ1 (q :: r) p = if q.2 < p.1 then p :: q :: r else (q.1, maxQ q.2 p.2) :: r from rfl]
    by_cases hlt : q.2 < p.1
    · rw [if_pos hlt]
      refine ⟨fun x hx => ?_, List.pairwise_cons.2 ⟨fun x hx => ?_, h.2⟩⟩
      · rcases List.mem_cons.1 hx with rfl | hx
        · exact hp
        · exact h.1 x hx
      · rcases List.mem_cons.1 hx with rfl | hx
        · exact hlt
        · exact rat_lt_trans (rat_lt_trans (h1 x hx) hq) hlt
    · rw [if_neg hlt]
      refine ⟨fun x hx => ?_, List.pairwise_cons.2 ⟨fun x hx => h1 x hx, h2⟩⟩
      rcases List.mem_cons.1 hx with rfl | hx
      · show q.1 < maxQ q.2 p.2
        unfold maxQ
        split
        · exact rat_lt_trans hq (by assumption)
        · exact hq
      · exact h.1 x (List.mem_cons_of_mem _ hx)
theorem mergeQ_fold : ∀ (M A : List QP), RNormQ A → (∀ p ∈ M, p.1 < p.2) → RNormQ (M.foldl mergeQ1 A)
  | [], _, hA, _ => hA
  | p :: M, A, hA, hM => mergeQ_fold M (mergeQ1 A p) (mergeQ1_step hA (hM p (List.mem_cons_self ..))) fun x hx => hM x (List.mem_cons_of_mem _ hx)
theorem mergeQ_norm {M : List QP} (hM : ∀ p ∈ M, p.1 < p.2) : NormQ (mergeQ M) := (mergeQ_fold M [] ⟨fun p hp => (by cases hp), List.Pairwise.nil⟩ hM).norm
/-! halves -/
theorem hf_lt {a b : Int} : hf a < hf b ↔ a < b := by
  constructor
  · intro h
    rcases Int.lt_trichotomy a b with h1 | h1 | h1
    · exact h1
    · subst h1; exact (Rat.lt_irrefl h).elim
    · exact (Rat.lt_irrefl (rat_lt_trans h (half_lt h1))).elim
  · exact half_lt
theorem maxQ_hf (a b : Int) : maxQ (hf a) (hf b) = hf (if a < b then b else a) := by
  unfold maxQ
  by_cases h : a < b
  · rw [if_pos h, if_pos (hf_lt.2 h)]
  · rw [if_neg h, if_neg fun h' => h (hf_lt.1 h')]
theorem mergeZ1_hf (A : List ZP) (p : ZP) : mergeQ1 (A.map hfP) (hfP p) = (mergeZ1 A p).map hfP := by
  cases A with
  | nil => rfl
  | cons q r =>
    rw [List.map_cons, show mergeQ1 (hfP q :: r.map hfP) (hfP p) = if (hfP q).2 < (hfP p).1 then hfP p :: hfP q :: r.map hfP else ((hfP q).1, maxQ (hfP q).2 (hfP p).2) :: r.map hfP from rfl,
      show mergeZ1 (q :: r) p = if q.2 < p.1 then p :: q :: r else (q.1, if q.2 < p.2 then p.2 else q.2) :: r from rfl]
    by_cases h : q.2 < p.1
    · rw [if_pos h, if_pos (show (hfP q).2 < (hfP p).1 from hf_lt.2 h)]; rfl
    · rw [if_neg h, if_neg (show ¬ (hfP q).2 < (hfP p).1 from fun h' => h (hf_lt.1 h')), List.map_cons]
      congr 1
      show (hf q.1, maxQ (hf q.2) (hf p.2)) = (hf q.1, hf (if q.2 < p.2 then p.2 else q.2))
      rw [maxQ_hf]
theorem mergeF_hf : ∀ (M A : List ZP), (M.map hfP).foldl mergeQ1 (A.map hfP) = (M.foldl mergeZ1 A).map hfP
  | [], _ => rfl
  | p :: M, A => by rw [List.map_cons, List.foldl_cons, mergeZ1_hf, mergeF_hf M, List.foldl_cons]
theorem mergeZ_hf (M : List ZP) : mergeQ (M.map hfP) = (mergeZ M).map hfP := by
  unfold mergeQ mergeZ
  rw [List.map_reverse, ← mergeF_hf M []]
  rfl
/-- ends of small numbers -/
def SmallZ (Z : List ZP) : Prop := ∀ p ∈ Z, -1000 ≤ p.1 ∧ p.1 ≤ 1000 ∧ -1000 ≤ p.2 ∧ p.2 ≤ 1000
theorem halfP_ok {p : ZP} (h : -1000 ≤ p.1 ∧ p.1 ≤ 1000 ∧ -1000 ≤ p.2 ∧ p.2 ≤ 1000) : ratB (halfP p).1.data.toList = true ∧ ratB (halfP p).2.data.toList = true ∧ ratV (halfP p).1 = hf p.1 ∧ ratV (halfP p).2 = hf p.2 := by
  obtain ⟨a1, a2⟩ := okR2 (hf_fr h.1 h.2.1) (by decide) (by decide)
  obtain ⟨b1, b2⟩ := okR2 (hf_fr h.2.2.1 h.2.2.2) (by decide) (by decide)
  exact ⟨a1, b1, a2, b2⟩
theorem rats_halfP : ∀ {Z : List ZP}, SmallZ Z → rats (Z.map halfP) = Z.map hfP
  | [], _ => rfl
  | p :: Z, h => by
    obtain ⟨_, _, a, b⟩ := halfP_ok (h p (List.mem_cons_self ..))
    rw [List.map_cons, rats_cons, a, b, rats_halfP fun q hq => h q (List.mem_cons_of_mem _ hq)]
    rfl
theorem text_of {s : ByteArray} {q : Rat} (h : ratB s.data.toList = true) (hq : ratV s = q) : s = tx q := by
  have := ratV_isR h
  rw [hq] at this
  exact this.unique (isR_mk q)
theorem texts_of : ∀ {L : List RP} {Z : List ZP}, rats (L.map (·.1)) = Z.map hfP → L.map (·.1) = Z.map halfP
  | [], [], _ => rfl
  | [], z :: Z, h => by cases h
  | x :: L, [], h => by cases h
  | x :: L, z :: Z, h => by
    rw [List.map_cons, rats_cons, List.map_cons] at h
    obtain ⟨h1, h2⟩ := List.cons.inj h
    rw [List.map_cons, List.map_cons, texts_of h2]
    congr 1
    have e1 : ratV x.1.1 = hf z.1 := congrArg Prod.fst h1
    have e2 : ratV x.1.2 = hf z.2 := congrArg Prod.snd h1
    exact Prod.ext (text_of x.2.1 e1) (text_of x.2.2 e2)
theorem perm_map_lift {α β : Type} {f : α → β} {A X : List β} (h : A.Perm X) : ∀ B : List α, X = B.map f → ∃ C : List α, C.Perm B ∧ A = C.map f := by
  induction h with
  | nil =>
    intro B hB
    cases B with
    | nil => exact ⟨[], .refl _, rfl⟩
    | cons b B => cases hB
  | cons x _ ih =>
    intro B hB
    cases B with
    | nil => cases hB
    | cons b B =>
      obtain ⟨rfl, h2⟩ := List.cons.inj hB
      obtain ⟨C, hC, e⟩ := ih B h2
      exact ⟨b :: C, hC.cons _, by rw [e]; rfl⟩
  | swap x y l =>
    intro B hB
    cases B with
    | nil => cases hB
    | cons b B =>
      cases B with
      | nil => cases hB
      | cons c B =>
        obtain ⟨rfl, h2⟩ := List.cons.inj hB
        obtain ⟨rfl, rfl⟩ := List.cons.inj h2
        exact ⟨c :: b :: B, .swap _ _ _, rfl⟩
  | trans _ _ ih1 ih2 =>
    intro B hB
    obtain ⟨C, hC, e⟩ := ih2 B hB
    obtain ⟨D, hD, e'⟩ := ih1 C e
    exact ⟨D, hD.trans hC, e'⟩
/-- what is sorted and merged out of intervals between halves -/
theorem merged_half {M R : List RP} {Z : List ZP} (hZ : SmallZ Z) (hlt : ∀ p ∈ Z, p.1 < p.2) (hR : R.map (·.1) = Z.map halfP) (hp : M.Perm R) (hw : M.Pairwise (fun x y => ¬ ratV y.1.1 < ratV x.1.1)) :
    ∃ C : List ZP, (mergeP M).map (·.1) = C.map halfP ∧ Norm C ∧ ∀ i, cov C i ↔ cov Z i := by
  have hp' : (M.map (·.1)).Perm (Z.map halfP) := hR ▸ hp.map (·.1)
  obtain ⟨C, hC, e⟩ := perm_map_lift hp' Z rfl
  have hCs : SmallZ C := fun p hp => hZ p (hC.mem_iff.1 hp)
  have hrm : rats (M.map (·.1)) = C.map hfP := by rw [e, rats_halfP hCs]
  have hpw := pairwise_rats hw
  rw [hrm, List.pairwise_map] at hpw
  have hs : C.Pairwise (fun x y => x.1 ≤ y.1) := hpw.imp fun {x y} hxy => by
    have : ¬ y.1 < x.1 := fun h => hxy (hf_lt.2 h)
    omega
  obtain ⟨n1, n2⟩ := mergeZ_norm (fun p hp => hlt p (hC.mem_iff.1 hp)) hs
  refine ⟨mergeZ C, texts_of ?_, n1, fun i => (n2 i).trans (cov_perm hC i)⟩
  rw [mergeP_rats, hrm, mergeZ_hf]
theorem IsSet.bound {s : Nat → Bool} {Z : List ZP} (h : IsSet s Z) : ∀ p ∈ Z, -300 ≤ p.1 ∧ p.1 < p.2 ∧ p.2 ≤ 300 := by
  intro p hp
  have hlt := h.1.1 p hp
  obtain ⟨j, e, _, hj⟩ := (h.2 p.1).1 ⟨p, hp, Int.le_refl _, hlt⟩
  obtain ⟨j2, e2, _, hj2⟩ := (h.2 (p.2 - 1)).1 ⟨p, hp, by omega, by omega⟩
  omega
theorem IsSet.small {s : Nat → Bool} {Z : List ZP} (h : IsSet s Z) : SmallZ Z := fun p hp => by have := h.bound p hp; omega
end Go.Proofs.YtbogpbjddaoeiaaGreatDoor
namespace Go.Proofs.YtbogpbjddaoeiaaGreatDoor
open Go.RowKit
open Go.Lib (decDigits itoa nDigits)
/-- the union of a description, as texts -/
def MakePost (D : List Duo) (w : World) (e : Ending) (w' : World) : Prop := ∃ (v : Value) (Z : List ZP), e = .returned v ∧ Pairs w' v (Z.map halfP) ∧ IsSet (setOf (endsZ D)) Z ∧ Z.length ≤ 600 ∧ Below w.heap.size w w'
theorem law_Make (v : Value) (D : List Duo) (w : World) (hv : Duos w v D) :
    Calls Tryz.prog 24 #[v] w (MakePost D w) := by
  have hok := hv.ok
  have HE := Lib.hid (law_ends v D w hv)
  have HO := Lib.hid (fun w' u (h : Zees w' u (endsZ D)) => ref_Of u (endsZ D) w' h (fun p hp => by have := endsZ_ok hok p hp; omega) (by rw [endsZ_len]; omega))
  have HR := Lib.hid (fun w' => ref_Ends (setOf (endsZ D)) w')
  have HP := Lib.hid (fun w' u Z (h : Zees w' u Z) (hs : IsSet (setOf (endsZ D)) Z) (hl : Z.length ≤ 600) => law_parts u Z w' h hs.small (by omega))
  obtain ⟨p, c, rfl, hc, hmx, _⟩ := hv
  clear hok
  unfold EndsPost at HE
  unfold SetPost at HO
  unfold RunsPost at HR
  unfold PartsNew at HP
  generalize hE : endsZ D = E at *
  have HE2 := Lib.hid hE
  clear hE
  generalize hS : setOf E = s at *
  have HS := Lib.hid hS
  clear hS
  generalize cellsB s = C at *
  go_enter Tryz.func24, Tryz.ntmps24
  go_wp2_with fail
  refine HE.out.mono ?_
  rintro e w1 ⟨v1, rfl, hz1, hb1⟩
  obtain ⟨p1, c1, rfl, _⟩ := id hz1
  go_wp2_with fail
  refine (HO.out _ _ hz1).mono ?_
  rintro e w2 ⟨rfl, hb2⟩
  go_wp2_with fail
  refine (HR.out _).mono ?_
  rintro e w3 ⟨v3, Z, rfl, hz3, hs3, hl3, hb3⟩
  obtain ⟨p3, c3, rfl, _⟩ := id hz3
  go_wp2_with fail
  refine (HP.out _ _ _ hz3 hs3 hl3).mono ?_
  rintro e w4 ⟨v4, rfl, _, hp4, hb4⟩
  obtain ⟨p4, c4, rfl, _⟩ := id hp4
  have HP4 := Lib.hid hp4
  have HS3 := Lib.hid hs3
  clear hp4 hs3
  go_wp2
  go_ret
  exact ⟨_, Z, rfl, by have := HP4.out; rw [List.length_map] at this; exact this, by rw [HE2.out, HS.out]; exact HS3.out, hl3, hb1.trans ((hb2.trans ((hb3.trans (hb4.mono hb3.size)).mono hb2.size)).mono hb1.size)⟩
end Go.Proofs.YtbogpbjddaoeiaaGreatDoor
