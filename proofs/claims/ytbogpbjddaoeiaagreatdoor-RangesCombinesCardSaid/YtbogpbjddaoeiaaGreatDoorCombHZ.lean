import Derived.Test.YtbogpbjddaoeiaaGreatDoorEndsPZ
import Derived.Test.YtbogpbjddaoeiaaGreatDoorOfEZ
import Derived.Test.YtbogpbjddaoeiaaGreatDoorMergeQZ
namespace Go.Proofs.YtbogpbjddaoeiaaGreatDoor
open Go.RowKit
def pairsT : TP → List TP → List RP
  | _, [] => []
  | f, k :: r => ⟨(f.1, k.1), f.2, k.2⟩ :: pairsT k r
def piecesT : List TP → List RP
  | [] => []
  | f :: r => pairsT f r
theorem pairsT_half : ∀ (f : TP) (r : List TP) (a : Int) (l : List Int), f.1 = tx (hf a) → r.map (·.1) = l.map (fun z => tx (hf z)) → (pairsT f r).map (·.1) = (pairsZ a l).map halfP
  | _, [], _, [], _, _ => rfl
  | _, [], _, _ :: _, _, h => by cases h
  | _, _ :: _, _, [], _, h => by cases h
  | f, k :: r, a, z :: l, h0, h => by
    obtain ⟨h1, h2⟩ := List.cons.inj h
    show (f.1, k.1) :: (pairsT k r).map (·.1) = halfP (a, z) :: (pairsZ z l).map halfP
    have h1' : k.1 = tx (hf z) := h1
    rw [pairsT_half k r z l h1 h2, h0, h1']
    rfl
theorem piecesT_half {E : List TP} {Z : List Int} (h : E.map (·.1) = Z.map (fun z => tx (hf z))) : (piecesT E).map (·.1) = (pz Z).map halfP := by
  cases E with
  | nil =>
    cases Z with
    | nil => rfl
    | cons _ _ => cases h
  | cons f r =>
    cases Z with
    | nil => cases h
    | cons a l =>
      obtain ⟨h1, h2⟩ := List.cons.inj h
      exact pairsT_half f r a l h1 h2
/-- all ends of a union, in halves -/
def endsI (Z : List ZP) : List Int := Z.flatMap fun p => [p.1, p.2]
theorem mem_ends {L : List RP} {Z : List ZP} (hZ : SmallZ Z) (h : L.map (·.1) = Z.map halfP) {x : TP} (hx : x ∈ endsT L) : ∃ z ∈ endsI Z, (-1000 ≤ z ∧ z ≤ 1000) ∧ ratV x.1 = hf z := by
  unfold endsT at hx
  obtain ⟨y, hy, hxy⟩ := List.mem_flatMap.1 hx
  have hm : y.1 ∈ Z.map halfP := by rw [← h]; exact List.mem_map.2 ⟨y, hy, rfl⟩
  obtain ⟨z, hz, e⟩ := List.mem_map.1 hm
  obtain ⟨_, _, a, b⟩ := halfP_ok (hZ z hz)
  have hs := hZ z hz
  unfold twoT at hxy
  rcases List.mem_cons.1 hxy with rfl | hxy
  · exact ⟨z.1, List.mem_flatMap.2 ⟨z, hz, List.mem_cons_self ..⟩, ⟨hs.1, hs.2.1⟩, by show ratV y.1.1 = _; rw [← e]; exact a⟩
  · rw [List.mem_singleton.1 hxy]
    exact ⟨z.2, List.mem_flatMap.2 ⟨z, hz, List.mem_cons_of_mem _ (List.mem_cons_self ..)⟩, ⟨hs.2.2.1, hs.2.2.2⟩, by show ratV y.1.2 = _; rw [← e]; exact b⟩
theorem ends_mem {L : List RP} {Z : List ZP} (hZ : SmallZ Z) (h : L.map (·.1) = Z.map halfP) {z : Int} (hz : z ∈ endsI Z) : ∃ x ∈ endsT L, ratV x.1 = hf z := by
  unfold endsI at hz
  obtain ⟨p, hp, hzp⟩ := List.mem_flatMap.1 hz
  have hm : halfP p ∈ L.map (·.1) := by rw [h]; exact List.mem_map.2 ⟨p, hp, rfl⟩
  obtain ⟨y, hy, e⟩ := List.mem_map.1 hm
  obtain ⟨_, _, a, b⟩ := halfP_ok (hZ p hp)
  rcases List.mem_cons.1 hzp with rfl | hzp
  · exact ⟨⟨y.1.1, y.2.1⟩, List.mem_flatMap.2 ⟨y, hy, List.mem_cons_self ..⟩, by show ratV y.1.1 = _; rw [e]; exact a⟩
  · rw [List.mem_singleton.1 hzp]
    exact ⟨⟨y.1.2, y.2.2⟩, List.mem_flatMap.2 ⟨y, hy, List.mem_cons_of_mem _ (List.mem_cons_self ..)⟩, by show ratV y.1.2 = _; rw [e]; exact b⟩
theorem hf_inj {a b : Int} (h : hf a = hf b) : a = b := by
  rcases Int.lt_trichotomy a b with h1 | h1 | h1
  · have := hf_lt.2 h1; rw [h] at this; exact (Rat.lt_irrefl this).elim
  · exact h1
  · have := hf_lt.2 h1; rw [h] at this; exact (Rat.lt_irrefl this).elim
theorem lift_ends : ∀ (E : List TP), (∀ x ∈ E, ∃ z : Int, ratV x.1 = hf z) → ∃ W : List Int, E.map (·.1) = W.map (fun z => tx (hf z)) ∧ E.map (fun x => ratV x.1) = W.map hf
  | [], _ => ⟨[], rfl, rfl⟩
  | x :: E, h => by
    obtain ⟨W, h1, h2⟩ := lift_ends E fun y hy => h y (List.mem_cons_of_mem _ hy)
    obtain ⟨z, hz⟩ := h x (List.mem_cons_self ..)
    exact ⟨z :: W, by rw [List.map_cons, List.map_cons, h1, text_of x.2 hz], by rw [List.map_cons, List.map_cons, h2, hz]⟩
theorem filter_lift {g : Pair → Bool} {k : ZP → Bool} : ∀ (R : List RP) (Z : List ZP), R.map (·.1) = Z.map halfP → (∀ z ∈ Z, g (halfP z) = k z) → (R.filter (fun x => g x.1)).map (·.1) = (Z.filter k).map halfP
  | [], [], _, _ => rfl
  | [], _ :: _, h, _ => by cases h
  | _ :: _, [], h, _ => by cases h
  | x :: R, z :: Z, h, hg => by
    obtain ⟨h1, h2⟩ := List.cons.inj h
    have ih := filter_lift R Z h2 fun y hy => hg y (List.mem_cons_of_mem _ hy)
    have hz := hg z (List.mem_cons_self ..)
    have h1' : x.1 = halfP z := h1
    rw [List.filter_cons, List.filter_cons, h1', hz]
    cases k z
    · simpa using ih
    · simp only [if_true, List.map_cons, h1', ih]
/-- the middle of an interval between halves -/
theorem mid_lt {a b c : Int} : (hf a + hf b) * (1 / 2) < hf c ↔ a + b < 2 * c := by
  unfold hf
  rw [Rat.mkRat_eq_div, Rat.mkRat_eq_div, Rat.mkRat_eq_div]
  have h : ((a : Rat) / ((2 : Nat) : Rat) + (b : Rat) / ((2 : Nat) : Rat)) * (1 / 2) < (c : Rat) / ((2 : Nat) : Rat) ↔ (a : Rat) + (b : Rat) < 2 * (c : Rat) := by
    rw [show ((2 : Nat) : Rat) = 2 from rfl]
    constructor
    · intro h; grind
    · intro h; grind
  rw [h]
  have e1 : (a : Rat) + (b : Rat) = ((a + b : Int) : Rat) := by rw [Rat.intCast_add]
  have e2 : 2 * (c : Rat) = ((2 * c : Int) : Rat) := by rw [Rat.intCast_mul]; rfl
  rw [e1, e2, Rat.intCast_lt_intCast]
theorem lt_mid {a b c : Int} : hf c < (hf a + hf b) * (1 / 2) ↔ 2 * c < a + b := by
  unfold hf
  rw [Rat.mkRat_eq_div, Rat.mkRat_eq_div, Rat.mkRat_eq_div]
  have h : (c : Rat) / ((2 : Nat) : Rat) < ((a : Rat) / ((2 : Nat) : Rat) + (b : Rat) / ((2 : Nat) : Rat)) * (1 / 2) ↔ 2 * (c : Rat) < (a : Rat) + (b : Rat) := by
    rw [show ((2 : Nat) : Rat) = 2 from rfl]
    constructor
    · intro h; grind
    · intro h; grind
  rw [h]
  have e1 : (a : Rat) + (b : Rat) = ((a + b : Int) : Rat) := by rw [Rat.intCast_add]
  have e2 : 2 * (c : Rat) = ((2 * c : Int) : Rat) := by rw [Rat.intCast_mul]; rfl
  rw [e1, e2, Rat.intCast_lt_intCast]
theorem hasV_half {Z : List ZP} (hZ : SmallZ Z) (p : ZP) : hasV (Z.map halfP) ((hf p.1 + hf p.2) * (1 / 2)) = hasM Z p := by
  induction Z with
  | nil => rfl
  | cons z Z ih =>
    have ih' := ih fun q hq => hZ q (List.mem_cons_of_mem _ hq)
    obtain ⟨_, _, a, b⟩ := halfP_ok (hZ z (List.mem_cons_self ..))
    unfold hasV hasM at *
    rw [List.map_cons, List.any_cons, List.any_cons, ih']
    congr 1
    unfold inP
    rw [a, b, Bool.eq_iff_iff]
    simp only [Bool.and_eq_true, Bool.not_eq_true', decide_eq_false_iff_not, decide_eq_true_eq, mid_lt, lt_mid]
    omega
/-- the middle of an interval -/
noncomputable def midP (p : Pair) : Rat := (ratV p.1 + ratV p.2) * (1 / 2)
/-- what combine keeps -/
noncomputable def keepP (keep : Bool → Bool → Bool) (A B : List Pair) (p : Pair) : Bool := keep (hasV A (midP p)) (hasV B (midP p))
theorem comb_half (keep : Bool → Bool → Bool) {LA LB : List RP} {ZA ZB : List ZP} {E : List TP} (hA : SmallZ ZA) (hB : SmallZ ZB) (eA : LA.map (·.1) = ZA.map halfP) (eB : LB.map (·.1) = ZB.map halfP)
    (hE : E.Pairwise (fun x y => ratV x.1 < ratV y.1)) (hm : ∀ x, x ∈ E ↔ x ∈ endsT (LA ++ LB)) :
    ∃ W : List Int, W.Pairwise (· < ·) ∧ EndsIn ZA W ∧ EndsIn ZB W ∧ SmallZ (combZ keep ZA ZB W) ∧ ((piecesT E).filter (fun x => keepP keep (LA.map (·.1)) (LB.map (·.1)) x.1)).map (·.1) = (combZ keep ZA ZB W).map halfP := by
  have hAB : SmallZ (ZA ++ ZB) := fun p hp => by
    rcases List.mem_append.1 hp with h | h
    · exact hA p h
    · exact hB p h
  have eAB : (LA ++ LB).map (·.1) = (ZA ++ ZB).map halfP := by rw [List.map_append, List.map_append, eA, eB]
  obtain ⟨W, w1, w2⟩ := lift_ends E fun x hx => by
    obtain ⟨z, _, _, h⟩ := mem_ends hAB eAB ((hm x).1 hx)
    exact ⟨z, h⟩
  have hasc : W.Pairwise (· < ·) := by
    have h1 : (E.map (fun x => ratV x.1)).Pairwise (· < ·) := List.pairwise_map.2 hE
    rw [w2, List.pairwise_map] at h1
    exact h1.imp fun h => hf_lt.1 h
  have hmem : ∀ z, z ∈ W ↔ ∃ x ∈ E, ratV x.1 = hf z := fun z => by
    constructor
    · intro hz
      have h1 : hf z ∈ E.map (fun x => ratV x.1) := by rw [w2]; exact List.mem_map.2 ⟨z, hz, rfl⟩
      obtain ⟨x, hx, e⟩ := List.mem_map.1 h1
      exact ⟨x, hx, e⟩
    · rintro ⟨x, hx, e⟩
      have h1 : ratV x.1 ∈ W.map hf := by rw [← w2]; exact List.mem_map.2 ⟨x, hx, rfl⟩
      obtain ⟨y, hy, e'⟩ := List.mem_map.1 h1
      rw [← hf_inj (e'.trans e)]
      exact hy
  have hin : ∀ z ∈ endsI (ZA ++ ZB), z ∈ W := fun z hz => by
    obtain ⟨x, hx, e⟩ := ends_mem hAB eAB hz
    exact (hmem z).2 ⟨x, (hm x).2 hx, e⟩
  have hsm : ∀ z ∈ W, -1000 ≤ z ∧ z ≤ 1000 := fun z hz => by
    obtain ⟨x, hx, e⟩ := (hmem z).1 hz
    obtain ⟨y, _, hy, e'⟩ := mem_ends hAB eAB ((hm x).1 hx)
    rw [hf_inj (e.symm.trans e')]
    exact hy
  have inA : ∀ p ∈ ZA ++ ZB, p.1 ∈ W ∧ p.2 ∈ W := fun p hp =>
    ⟨hin _ (List.mem_flatMap.2 ⟨p, hp, List.mem_cons_self ..⟩), hin _ (List.mem_flatMap.2 ⟨p, hp, List.mem_cons_of_mem _ (List.mem_cons_self ..)⟩)⟩
  have hps : SmallZ (pz W) := fun p hp => by
    obtain ⟨a, b, _⟩ := pz_mem hasc hp
    have := hsm _ a
    have := hsm _ b
    omega
  refine ⟨W, hasc, fun p hp => inA p (List.mem_append.2 (.inl hp)), fun p hp => inA p (List.mem_append.2 (.inr hp)), fun p hp => hps p (List.mem_filter.1 hp).1, ?_⟩
  refine filter_lift (piecesT E) (pz W) (piecesT_half w1) fun z hz => ?_
  obtain ⟨_, _, a, b⟩ := halfP_ok (hps z hz)
  unfold keepP midP
  rw [a, b, eA, eB, hasV_half hA, hasV_half hB]
end Go.Proofs.YtbogpbjddaoeiaaGreatDoor
