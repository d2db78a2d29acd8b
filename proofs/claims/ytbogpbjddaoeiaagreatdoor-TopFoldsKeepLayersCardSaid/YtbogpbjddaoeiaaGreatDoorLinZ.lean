import Derived.Test.YtbogpbjddaoeiaaGreatDoorPlainQZ
namespace Go.Proofs.YtbogpbjddaoeiaaGreatDoor
/-- the value behind a knot -/
def goQ : QP → List QP → Rat → Rat
  | p, [], _ => p.2
  | p, k :: r, x => if x < k.1 then p.2 + (k.2 - p.2) * (k.1 - p.1)⁻¹ * (x - p.1) else goQ k r x
def valF : List QP → Rat → Rat
  | [], _ => 0
  | p :: r, x => if x < p.1 then p.2 else goQ p r x
theorem valF_cons (p : QP) (r : List QP) (x : Rat) : valF (p :: r) x = if x < p.1 then p.2 else goQ p r x := rfl
abbrev AscQ (L : List QP) : Prop := L.Pairwise (fun x y => x.1 < y.1)
theorem valQ_cons (p : QP) (L : List QP) (n : Nat) : valQ (p :: L) (n + 1) = valQ L n := by unfold valQ; rw [List.getElem?_cons_succ]
theorem atQ_cons (p : QP) (L : List QP) (n : Nat) : atQ (p :: L) (n + 1) = atQ L n := by unfold atQ; rw [List.getElem?_cons_succ]
theorem slopeQ_cons (p : QP) (L : List QP) (n : Nat) : slopeQ (p :: L) (n + 1 + 1) = slopeQ L (n + 1) := by
  unfold slopeQ
  rw [List.length_cons, valQ_cons, atQ_cons, Nat.add_sub_cancel, valQ_cons, atQ_cons, Nat.add_sub_cancel]
  by_cases h : n + 1 = L.length
  · rw [if_pos (Or.inr (by omega)), if_pos (Or.inr h)]
  · rw [if_neg (by omega), if_neg (by omega)]
theorem valueQ_go : ∀ (r : List QP) (p : QP) (x : Rat), ¬ x < p.1 → valueQ (p :: r) x = goQ p r x
  | [], p, x, h => by
    unfold valueQ segQ slopeQ
    rw [if_neg h]
    simp only [segQ, Nat.zero_add, List.length_cons, List.length_nil, or_true, if_true, Nat.sub_self]
    show (if (1 : Nat) = 0 then valQ [p] 0 else valQ [p] 0 + 0 * (x - atQ [p] 0)) = p.2
    rw [if_neg (by decide), Rat.zero_mul, Rat.add_zero]
    rfl
  | k :: r, p, x, h => by
    unfold goQ
    by_cases hk : x < k.1
    · rw [if_pos hk]
      have hs : segQ (p :: k :: r) x = 1 := by rw [segQ, if_neg h, segQ, if_pos hk]
      unfold valueQ
      rw [hs, if_neg (by decide)]
      have hsl : slopeQ (p :: k :: r) 1 = (k.2 - p.2) * (k.1 - p.1)⁻¹ := by
        unfold slopeQ
        rw [if_neg (by simp)]
        rfl
      rw [hsl]
      rfl
    · rw [if_neg hk, ← valueQ_go r k x hk]
      have hs : segQ (p :: k :: r) x = segQ r x + 1 + 1 := by rw [segQ, if_neg h, segQ, if_neg hk]
      have hs2 : segQ (k :: r) x = segQ r x + 1 := by rw [segQ, if_neg hk]
      unfold valueQ
      rw [hs, hs2, if_neg (by omega), if_neg (by omega), slopeQ_cons, Nat.add_sub_cancel, Nat.add_sub_cancel, valQ_cons, atQ_cons]
theorem valueQ_valF (L : List QP) (x : Rat) : valueQ L x = valF L x := by
  cases L with
  | nil => rfl
  | cons p r =>
    simp only [valF_cons]
    by_cases h : x < p.1
    · rw [if_pos h]
      unfold valueQ
      have hs : segQ (p :: r) x = 0 := by rw [segQ, if_pos h]
      rw [hs, if_pos rfl]
      rfl
    · rw [if_neg h]
      exact valueQ_go r p x h
/-! linear on an interval -/
def LinOn (h : Rat → Rat) (a b : Rat) : Prop := ∃ m c : Rat, ∀ x, a ≤ x → x ≤ b → h x = c + m * x
theorem LinOn.add {f g : Rat → Rat} {a b : Rat} (hf : LinOn f a b) (hg : LinOn g a b) : LinOn (fun x => f x + g x) a b := by
  obtain ⟨m, c, h⟩ := hf
  obtain ⟨m', c', h'⟩ := hg
  refine ⟨m + m', c + c', fun x h1 h2 => ?_⟩
  show f x + g x = _
  rw [h x h1 h2, h' x h1 h2]
  grind
theorem lin_const {h : Rat → Rat} {a b d : Rat} (hc : ∀ x, a ≤ x → x ≤ b → h x = d) : LinOn h a b := ⟨0, d, fun x h1 h2 => by rw [hc x h1 h2]; grind⟩
theorem rat_le_or (a b : Rat) : a ≤ b ∨ b < a := by
  by_cases h : a ≤ b
  · exact .inl h
  · exact .inr (Rat.not_le.1 h)
theorem gap_mul {a b d : Rat} (h : a < b) : d * (b - a)⁻¹ * (b - a) = d := by
  rw [Rat.mul_assoc, Rat.inv_mul_cancel _ (by intro h0; have : a = b := by grind
                                              rw [this] at h; exact Rat.lt_irrefl h), Rat.mul_one]
theorem goQ_start {p : QP} {r : List QP} (h : AscQ (p :: r)) : goQ p r p.1 = p.2 := by
  cases r with
  | nil => rfl
  | cons k r =>
    unfold goQ
    rw [if_pos ((List.pairwise_cons.1 h).1 k (List.mem_cons_self ..))]
    grind
theorem goQ_lin : ∀ (r : List QP) (p : QP) (a b : Rat), AscQ (p :: r) → p.1 ≤ a → (∀ k ∈ r, k.1 ≤ a ∨ b ≤ k.1) → LinOn (goQ p r) a b
  | [], p, a, b, _, _, _ => lin_const (d := p.2) fun _ _ _ => rfl
  | k :: r, p, a, b, hA, hp, hk => by
    have hA2 := (List.pairwise_cons.1 hA).2
    have hpk := (List.pairwise_cons.1 hA).1 k (List.mem_cons_self ..)
    rcases hk k (List.mem_cons_self ..) with h1 | h1
    · obtain ⟨m, c, h⟩ := goQ_lin r k a b hA2 h1 fun q hq => hk q (List.mem_cons_of_mem _ hq)
      refine ⟨m, c, fun x hx hx2 => ?_⟩
      rw [← h x hx hx2]
      unfold goQ
      rw [if_neg (by rw [Rat.not_lt]; exact Rat.le_trans h1 hx)]
      cases r <;> rfl
    · obtain ⟨m, hm⟩ : ∃ m, m = (k.2 - p.2) * (k.1 - p.1)⁻¹ := ⟨_, rfl⟩
      have hmm : m * (k.1 - p.1) = k.2 - p.2 := by rw [hm]; exact gap_mul hpk
      refine ⟨m, p.2 - m * p.1, fun x hx hx2 => ?_⟩
      unfold goQ
      rw [← hm]
      by_cases hxk : x < k.1
      · rw [if_pos hxk]; grind
      · rw [if_neg hxk]
        have : x = k.1 := Rat.le_antisymm (Rat.le_trans hx2 h1) (Rat.not_lt.1 hxk)
        rw [this, goQ_start hA2]
        grind
theorem valF_lin {Q : List QP} (hA : AscQ Q) {a b : Rat} (hk : ∀ k ∈ Q, k.1 ≤ a ∨ b ≤ k.1) : LinOn (valF Q) a b := by
  cases Q with
  | nil => exact lin_const (d := 0) fun _ _ _ => rfl
  | cons p r =>
    rcases hk p (List.mem_cons_self ..) with h1 | h1
    · obtain ⟨m, c, h⟩ := goQ_lin r p a b hA h1 fun q hq => hk q (List.mem_cons_of_mem _ hq)
      refine ⟨m, c, fun x hx hx2 => ?_⟩
      rw [← h x hx hx2]
      simp only [valF_cons]
      rw [if_neg (by rw [Rat.not_lt]; exact Rat.le_trans h1 hx)]
    · refine lin_const (d := p.2) fun x hx hx2 => ?_
      simp only [valF_cons]
      by_cases hxk : x < p.1
      · rw [if_pos hxk]
      · rw [if_neg hxk]
        have : x = p.1 := Rat.le_antisymm (Rat.le_trans hx2 h1) (Rat.not_lt.1 hxk)
        rw [this, goQ_start hA]
theorem goQ_up : ∀ (r : List QP) (p : QP) (b x : Rat), b ≤ x → (∀ k ∈ r, k.1 ≤ b) → goQ p r x = goQ p r b
  | [], _, _, _, _, _ => rfl
  | k :: r, p, b, x, h, hk => by
    have h1 := hk k (List.mem_cons_self ..)
    unfold goQ
    rw [if_neg (by rw [Rat.not_lt]; exact Rat.le_trans h1 h), if_neg (by rw [Rat.not_lt]; exact h1)]
    exact goQ_up r k b x h fun q hq => hk q (List.mem_cons_of_mem _ hq)
theorem valF_up {Q : List QP} {b x : Rat} (h : b ≤ x) (hk : ∀ k ∈ Q, k.1 ≤ b) : valF Q x = valF Q b := by
  cases Q with
  | nil => rfl
  | cons p r =>
    have h1 := hk p (List.mem_cons_self ..)
    simp only [valF_cons]
    rw [if_neg (by rw [Rat.not_lt]; exact Rat.le_trans h1 h), if_neg (by rw [Rat.not_lt]; exact h1)]
    exact goQ_up r p b x h fun q hq => hk q (List.mem_cons_of_mem _ hq)
theorem valF_low {Q : List QP} (hA : AscQ Q) {a x : Rat} (h : x ≤ a) (hk : ∀ k ∈ Q, a ≤ k.1) : valF Q x = valF Q a := by
  cases Q with
  | nil => rfl
  | cons p r =>
    have h1 := hk p (List.mem_cons_self ..)
    have key : ∀ y, y ≤ p.1 → valF (p :: r) y = p.2 := fun y hy => by
      simp only [valF_cons]
      by_cases hyp : y < p.1
      · rw [if_pos hyp]
      · rw [if_neg hyp, Rat.le_antisymm hy (Rat.not_lt.1 hyp), goQ_start hA]
    rw [key x (Rat.le_trans h h1), key a h1]
/-! a function with these pieces is what its knots say -/
def Pieces (h : Rat → Rat) : Rat → List Rat → Prop
  | a, [] => ∀ x, a ≤ x → h x = h a
  | a, b :: r => LinOn h a b ∧ a < b ∧ Pieces h b r
theorem Pieces.add {f g : Rat → Rat} : ∀ {r : List Rat} {a : Rat}, Pieces f a r → Pieces g a r → Pieces (fun x => f x + g x) a r
  | [], a, h, k => fun x hx => by show f x + g x = f a + g a; rw [h x hx, k x hx]
  | b :: r, a, ⟨h1, h2, h3⟩, ⟨k1, _, k3⟩ => ⟨h1.add k1, h2, Pieces.add h3 k3⟩
theorem goQ_interp {h : Rat → Rat} : ∀ (r : List Rat) (a x : Rat), Pieces h a r → a ≤ x → goQ (a, h a) (r.map fun t => (t, h t)) x = h x
  | [], a, x, hp, hx => (hp x hx).symm
  | b :: r, a, x, ⟨⟨m, c, hl⟩, hab, hp⟩, hx => by
    rw [List.map_cons]
    unfold goQ
    try dsimp only
    by_cases hxb : x < b
    · rw [if_pos hxb]
      have e1 := hl a (Rat.le_refl) (Rat.le_of_lt hab)
      have e2 := hl b (Rat.le_of_lt hab) (Rat.le_refl)
      have e3 := hl x hx (Rat.le_of_lt hxb)
      have e4 : h b - h a = m * (b - a) := by rw [e1, e2]; grind
      have e5 : m * (b - a) * (b - a)⁻¹ = m := by
        rw [Rat.mul_assoc, Rat.mul_inv_cancel _ (by intro h0; have : a = b := by grind
                                                    rw [this] at hab; exact Rat.lt_irrefl hab), Rat.mul_one]
      rw [e4, e5, e1, e3]
      grind
    · rw [if_neg hxb]
      exact goQ_interp r b x hp (Rat.not_lt.1 hxb)
theorem valF_interp {h : Rat → Rat} {a : Rat} {r : List Rat} (hl : ∀ x, x ≤ a → h x = h a) (hp : Pieces h a r) (x : Rat) : valF ((a :: r).map fun t => (t, h t)) x = h x := by
  rw [List.map_cons]
  simp only [valF_cons]
  try dsimp only
  by_cases hx : x < a
  · rw [if_pos hx, hl x (Rat.le_of_lt hx)]
  · rw [if_neg hx]
    exact goQ_interp r a x hp (Rat.not_lt.1 hx)
theorem pieces_of {Q : List QP} (hA : AscQ Q) : ∀ (r : List Rat) (a : Rat), (a :: r).Pairwise (· < ·) → (∀ k ∈ Q, k.1 ≤ a ∨ k.1 ∈ r) → Pieces (valF Q) a r
  | [], a, _, hk => fun x hx => valF_up hx fun k hkq => by
    rcases hk k hkq with h | h
    · exact h
    · cases h
  | b :: r, a, hr, hk => by
    obtain ⟨h1, h2⟩ := List.pairwise_cons.1 hr
    have hab := h1 b (List.mem_cons_self ..)
    refine ⟨valF_lin hA fun k hkq => ?_, hab, pieces_of hA r b h2 fun k hkq => ?_⟩
    · rcases hk k hkq with h | h
      · exact .inl h
      · rcases List.mem_cons.1 h with h | h
        · exact .inr (by rw [h]; exact Rat.le_refl)
        · exact .inr (Rat.le_of_lt ((List.pairwise_cons.1 h2).1 _ h))
    · rcases hk k hkq with h | h
      · exact .inl (Rat.le_trans h (Rat.le_of_lt hab))
      · rcases List.mem_cons.1 h with h | h
        · exact .inl (by rw [h]; exact Rat.le_refl)
        · exact .inr h
/-- the sum's value is the sum of the values -/
theorem sum_value {F G : List QP} (hF : AscQ F) (hG : AscQ G) {A : List Rat} (h0 : A ≠ []) (hA : A.Pairwise (· < ·)) (mF : ∀ k ∈ F, k.1 ∈ A) (mG : ∀ k ∈ G, k.1 ∈ A) (x : Rat) :
    valF (A.map fun t => (t, valF F t + valF G t)) x = valF F x + valF G x := by
  cases A with
  | nil => exact (h0 rfl).elim
  | cons a r =>
    have hle : ∀ t ∈ a :: r, a ≤ t := fun t ht => by
      rcases List.mem_cons.1 ht with h | h
      · rw [h]; exact Rat.le_refl
      · exact Rat.le_of_lt ((List.pairwise_cons.1 hA).1 t h)
    have key : ∀ {Q : List QP}, (∀ k ∈ Q, k.1 ∈ a :: r) → ∀ k ∈ Q, k.1 ≤ a ∨ k.1 ∈ r := fun hm k hk => by
      rcases List.mem_cons.1 (hm k hk) with h | h
      · exact .inl (by rw [h]; exact Rat.le_refl)
      · exact .inr h
    refine valF_interp (h := fun t => valF F t + valF G t) (fun y hy => ?_) ((pieces_of hF r a hA (key mF)).add (pieces_of hG r a hA (key mG))) x
    show valF F y + valF G y = valF F a + valF G a
    rw [valF_low hF hy fun k hk => hle _ (mF k hk), valF_low hG hy fun k hk => hle _ (mG k hk)]
end Go.Proofs.YtbogpbjddaoeiaaGreatDoor
namespace Go.Proofs.YtbogpbjddaoeiaaGreatDoor
/-- what is kept of knots, by the slope that comes in -/
def kpS : Rat → QP → List QP → List QP
  | m, p, [] => if m = 0 then [] else [p]
  | m, p, k :: r => if m = (k.2 - p.2) * (k.1 - p.1)⁻¹ then kpS ((k.2 - p.2) * (k.1 - p.1)⁻¹) k r else p :: kpS ((k.2 - p.2) * (k.1 - p.1)⁻¹) k r
theorem kpS_mem : ∀ (r : List QP) (m : Rat) (p q : QP), q ∈ kpS m p r → q ∈ p :: r
  | [], m, p, q, h => by
    unfold kpS at h
    split at h
    · cases h
    · exact h
  | k :: r, m, p, q, h => by
    unfold kpS at h
    split at h
    · exact List.mem_cons_of_mem _ (kpS_mem r _ k q h)
    · rcases List.mem_cons.1 h with h | h
      · rw [h]; exact List.mem_cons_self ..
      · exact List.mem_cons_of_mem _ (kpS_mem r _ k q h)
theorem kpS_len : ∀ (r : List QP) (m : Rat) (p : QP), (kpS m p r).length ≤ (p :: r).length
  | [], m, p => by unfold kpS; split <;> simp
  | k :: r, m, p => by
    have := kpS_len r ((k.2 - p.2) * (k.1 - p.1)⁻¹) k
    unfold kpS
    split <;> simp only [List.length_cons] at * <;> omega
theorem simp_pieces {h : Rat → Rat} : ∀ (r : List QP) (p : QP) (m a : Rat), AscQ (p :: r) → a < p.1 → (∀ x, a ≤ x → x ≤ p.1 → h x = h a + m * (x - a)) → (∀ x, p.1 ≤ x → h x = goQ p r x) → Pieces h a ((kpS m p r).map (·.1))
  | [], p, m, a, _, hap, hm, hg => by
    have hp1 : h p.1 = p.2 := hg p.1 Rat.le_refl
    unfold kpS
    by_cases h0 : m = 0
    · rw [if_pos h0]
      intro x hx
      rcases rat_le_or x p.1 with h1 | h1
      · rw [hm x hx h1, h0]; grind
      · rw [hg x (Rat.le_of_lt h1)]
        have := hm p.1 (Rat.le_of_lt hap) Rat.le_refl
        rw [hp1, h0] at this
        show p.2 = _
        rw [this]; grind
    · rw [if_neg h0]
      refine ⟨⟨m, h a - m * a, fun x hx hx2 => by rw [hm x hx hx2]; grind⟩, hap, fun x hx => ?_⟩
      rw [hg x hx, hp1]
      rfl
  | k :: r, p, m, a, hA, hap, hm, hg => by
    have hA2 := (List.pairwise_cons.1 hA).2
    have hpk := (List.pairwise_cons.1 hA).1 k (List.mem_cons_self ..)
    obtain ⟨m', hm'⟩ : ∃ m', m' = (k.2 - p.2) * (k.1 - p.1)⁻¹ := ⟨_, rfl⟩
    have hmm : m' * (k.1 - p.1) = k.2 - p.2 := by rw [hm']; exact gap_mul hpk
    have hg2 : ∀ x, k.1 ≤ x → h x = goQ k r x := fun x hx => by
      rw [hg x (Rat.le_trans (Rat.le_of_lt hpk) hx)]
      show (if x < k.1 then _ else goQ k r x) = _
      rw [if_neg (Rat.not_lt.2 hx)]
    have hp1 : h p.1 = p.2 := by rw [hg p.1 Rat.le_refl, goQ_start hA]
    have hin : ∀ x, p.1 ≤ x → x ≤ k.1 → h x = h p.1 + m' * (x - p.1) := fun x hx hx2 => by
      rcases rat_le_or k.1 x with h1 | h1
      · have hxk : x = k.1 := Rat.le_antisymm hx2 h1
        rw [hxk, hg2 k.1 Rat.le_refl, goQ_start hA2, hp1, hmm]; grind
      · rw [hg x hx, hp1]
        show (if x < k.1 then p.2 + (k.2 - p.2) * (k.1 - p.1)⁻¹ * (x - p.1) else _) = _
        rw [if_pos h1, ← hm']
    unfold kpS
    rw [← hm']
    by_cases h0 : m = m'
    · rw [if_pos h0]
      refine simp_pieces r k m' a hA2 (rat_lt_trans hap hpk) (fun x hx hx2 => ?_) hg2
      rcases rat_le_or x p.1 with h1 | h1
      · rw [hm x hx h1, h0]
      · rw [hin x (Rat.le_of_lt h1) hx2, hm p.1 (Rat.le_of_lt hap) Rat.le_refl, h0]; grind
    · rw [if_neg h0]
      refine ⟨⟨m, h a - m * a, fun x hx hx2 => by rw [hm x hx hx2]; grind⟩, hap, ?_⟩
      exact simp_pieces r k m' p.1 hA2 hpk hin hg2
theorem simp_first {h : Rat → Rat} : ∀ (r : List QP) (p : QP), AscQ (p :: r) → (∀ x, x ≤ p.1 → h x = h p.1) → (∀ x, p.1 ≤ x → h x = goQ p r x) →
    (kpS 0 p r = [] ∧ ∀ x, h x = h p.1) ∨ ∃ q t, kpS 0 p r = q :: t ∧ (∀ x, x ≤ q.1 → h x = h q.1) ∧ Pieces h q.1 (t.map (·.1))
  | [], p, _, hl, hg => .inl ⟨rfl, fun x => by
      rcases rat_le_or x p.1 with h1 | h1
      · exact hl x h1
      · rw [hg x (Rat.le_of_lt h1), hg p.1 Rat.le_refl]; rfl⟩
  | k :: r, p, hA, hl, hg => by
    have hA2 := (List.pairwise_cons.1 hA).2
    have hpk := (List.pairwise_cons.1 hA).1 k (List.mem_cons_self ..)
    obtain ⟨m', hm'⟩ : ∃ m', m' = (k.2 - p.2) * (k.1 - p.1)⁻¹ := ⟨_, rfl⟩
    have hmm : m' * (k.1 - p.1) = k.2 - p.2 := by rw [hm']; exact gap_mul hpk
    have hg2 : ∀ x, k.1 ≤ x → h x = goQ k r x := fun x hx => by
      rw [hg x (Rat.le_trans (Rat.le_of_lt hpk) hx)]
      show (if x < k.1 then _ else goQ k r x) = _
      rw [if_neg (Rat.not_lt.2 hx)]
    have hp1 : h p.1 = p.2 := by rw [hg p.1 Rat.le_refl, goQ_start hA]
    have hin : ∀ x, p.1 ≤ x → x ≤ k.1 → h x = h p.1 + m' * (x - p.1) := fun x hx hx2 => by
      rcases rat_le_or k.1 x with h1 | h1
      · have hxk : x = k.1 := Rat.le_antisymm hx2 h1
        rw [hxk, hg2 k.1 Rat.le_refl, goQ_start hA2, hp1, hmm]; grind
      · rw [hg x hx, hp1]
        show (if x < k.1 then p.2 + (k.2 - p.2) * (k.1 - p.1)⁻¹ * (x - p.1) else _) = _
        rw [if_pos h1, ← hm']
    have hk : kpS 0 p (k :: r) = if 0 = m' then kpS m' k r else p :: kpS m' k r := by rw [hm']; rfl
    rw [hk]
    by_cases h0 : 0 = m'
    · rw [if_pos h0, ← h0]
      have hpkv : h k.1 = h p.1 := by rw [hin k.1 (Rat.le_of_lt hpk) Rat.le_refl, ← h0]; grind
      have hl2 : ∀ x, x ≤ k.1 → h x = h k.1 := fun x hx => by
        rcases rat_le_or x p.1 with h1 | h1
        · rw [hl x h1, hpkv]
        · rw [hin x (Rat.le_of_lt h1) hx, hpkv, ← h0]; grind
      rcases simp_first r k hA2 hl2 hg2 with ⟨e1, e2⟩ | h
      · exact .inl ⟨e1, fun x => by rw [e2 x, hpkv]⟩
      · exact .inr h
    · rw [if_neg h0]
      exact .inr ⟨p, _, rfl, hl, simp_pieces r k m' p.1 hA2 hpk hin hg2⟩
theorem goQ_knot : ∀ (r : List QP) (p q : QP), AscQ (p :: r) → q ∈ p :: r → goQ p r q.1 = q.2
  | [], p, q, _, hq => by rw [List.mem_singleton.1 hq]; rfl
  | k :: r, p, q, hA, hq => by
    have hA2 := (List.pairwise_cons.1 hA).2
    rcases List.mem_cons.1 hq with h | h
    · rw [h]; exact goQ_start hA
    · have : ¬ q.1 < k.1 := by
        rcases List.mem_cons.1 h with h' | h'
        · rw [h']; exact Rat.lt_irrefl
        · exact fun hc => Rat.lt_irrefl (rat_lt_trans hc ((List.pairwise_cons.1 hA2).1 q h'))
      unfold goQ
      rw [if_neg this]
      exact goQ_knot r k q hA2 h
theorem valF_knot {Q : List QP} (hA : AscQ Q) {q : QP} (hq : q ∈ Q) : valF Q q.1 = q.2 := by
  cases Q with
  | nil => cases hq
  | cons p r =>
    have : ¬ q.1 < p.1 := by
      rcases List.mem_cons.1 hq with h' | h'
      · rw [h']; exact Rat.lt_irrefl
      · exact fun hc => Rat.lt_irrefl (rat_lt_trans hc ((List.pairwise_cons.1 hA).1 q h'))
    simp only [valF_cons]
    rw [if_neg this]
    exact goQ_knot r p q hA hq
theorem knots_self {Q : List QP} (hA : AscQ Q) : ∀ (T : List QP), (∀ q ∈ T, q ∈ Q) → T = (T.map (·.1)).map fun t => (t, valF Q t)
  | [], _ => rfl
  | q :: T, h => by
    rw [List.map_cons, List.map_cons, ← knots_self hA T fun x hx => h x (List.mem_cons_of_mem _ hx), valF_knot hA (h q (List.mem_cons_self ..))]
/-- the simplest form -/
def simpF : List QP → List QP
  | [] => []
  | p :: r => if kpS 0 p r = [] then [p] else kpS 0 p r
theorem simpF_cons (p : QP) (r : List QP) : simpF (p :: r) = if kpS 0 p r = [] then [p] else kpS 0 p r := rfl
theorem simp_value {Q : List QP} (hA : AscQ Q) (x : Rat) : valF (simpF Q) x = valF Q x := by
  cases Q with
  | nil => rfl
  | cons p r =>
    have hg : ∀ x, p.1 ≤ x → valF (p :: r) x = goQ p r x := fun x hx => by
      show (if x < p.1 then _ else goQ p r x) = _
      rw [if_neg (Rat.not_lt.2 hx)]
    have hl : ∀ x, x ≤ p.1 → valF (p :: r) x = valF (p :: r) p.1 := fun x hx => valF_low hA hx fun k hk => by
      rcases List.mem_cons.1 hk with h | h
      · rw [h]; exact Rat.le_refl
      · exact Rat.le_of_lt ((List.pairwise_cons.1 hA).1 k h)
    rcases simp_first r p hA hl hg with ⟨e1, e2⟩ | ⟨q, t, e1, e2, e3⟩
    · rw [simpF_cons, if_pos e1, e2 x, valF_knot hA (List.mem_cons_self ..)]
      show (if x < p.1 then p.2 else p.2) = p.2
      split <;> rfl
    · rw [simpF_cons, if_neg (by rw [e1]; exact List.cons_ne_nil _ _)]
      have hm := knots_self hA (kpS 0 p r) fun y hy => kpS_mem r 0 p y hy
      rw [hm, e1, List.map_cons]
      exact valF_interp e2 e3 x
theorem simpF_len (Q : List QP) : (simpF Q).length ≤ Q.length := by
  cases Q with
  | nil => exact Nat.le_refl _
  | cons p r =>
    rw [simpF_cons]
    split
    · simp
    · exact kpS_len r 0 p
/-! integrals -/
def trapF (h : Rat → Rat) (p : QP) : Rat := (h p.1 + h p.2) * (1 / 2) * (p.2 - p.1)
def sumF (h : Rat → Rat) : List QP → Rat
  | [] => 0
  | p :: r => trapF h p + sumF h r
theorem sumF_fold (L : List QP) : ∀ (l : List QP) (s : Rat), l.foldl (fun s p => s + termQ L p) s = s + sumF (valF L) l
  | [], s => by show s = s + 0; rw [Rat.add_zero]
  | p :: r, s => by
    rw [List.foldl_cons, sumF_fold L r]
    show s + termQ L p + sumF (valF L) r = s + (trapF (valF L) p + sumF (valF L) r)
    unfold termQ trapF
    rw [valueQ_valF, valueQ_valF, Rat.add_assoc]
theorem sumQ_sumF (L l : List QP) : sumQ L l = sumF (valF L) l := by unfold sumQ; rw [sumF_fold, Rat.zero_add]
theorem trap_split {h : Rat → Rat} {a b c : Rat} (hab : a ≤ b) (hbc : b ≤ c) (hl : LinOn h a c) : trapF h (a, b) + trapF h (b, c) = trapF h (a, c) := by
  obtain ⟨m, d, hm⟩ := hl
  have h1 := hm a Rat.le_refl (Rat.le_trans hab hbc)
  have h2 := hm b hab hbc
  have h3 := hm c (Rat.le_trans hab hbc) Rat.le_refl
  unfold trapF
  dsimp only
  rw [h1, h2, h3]
  grind
theorem steps_add {h : Rat → Rat} : ∀ (L : List QP) (f b c : Rat), f < b → b < c → AscQ L → (∀ u v, f ≤ u → (∀ k ∈ L, k.1 ≤ u ∨ v ≤ k.1) → LinOn h u v) →
    sumF h (stepsQ b f L) + sumF h (stepsQ c b L) = sumF h (stepsQ c f L)
  | [], f, b, c, h1, h2, _, hl => by
    show trapF h (f, b) + 0 + (trapF h (b, c) + 0) = trapF h (f, c) + 0
    rw [Rat.add_zero, Rat.add_zero, Rat.add_zero]
    exact trap_split (Rat.le_of_lt h1) (Rat.le_of_lt h2) (hl f c Rat.le_refl fun k hk => by cases hk)
  | k :: r, f, b, c, h1, h2, hA, hl => by
    obtain ⟨hA1, hA2⟩ := List.pairwise_cons.1 hA
    by_cases hf : f < k.1
    · have hup : ∀ v, v ≤ k.1 → ∀ q ∈ k :: r, q.1 ≤ f ∨ v ≤ q.1 := fun v hv q hq => by
        rcases List.mem_cons.1 hq with e | e
        · rw [e]; exact .inr hv
        · exact .inr (Rat.le_trans hv (Rat.le_of_lt (hA1 q e)))
      by_cases hb : k.1 < b
      · have hkc := rat_lt_trans hb h2
        have ih := steps_add r k.1 b c hb h2 hA2 fun u v hu hk => hl u v (Rat.le_trans (Rat.le_of_lt hf) hu) fun q hq => by
          rcases List.mem_cons.1 hq with e | e
          · rw [e]; exact .inl hu
          · exact hk q e
        unfold stepsQ
        rw [if_pos hf, if_pos hb, if_neg (Rat.not_lt.2 (Rat.le_of_lt hb)), if_pos hf, if_pos hkc]
        show trapF h (f, k.1) + sumF h (stepsQ b k.1 r) + sumF h (stepsQ c b r) = trapF h (f, k.1) + sumF h (stepsQ c k.1 r)
        rw [Rat.add_assoc, ih]
      · have hbk := Rat.not_lt.1 hb
        unfold stepsQ
        rw [if_pos hf, if_neg hb, if_pos hf]
        by_cases hkb : b < k.1
        · rw [if_pos hkb]
          by_cases hkc : k.1 < c
          · rw [if_pos hkc, if_pos hkc]
            show trapF h (f, b) + 0 + (trapF h (b, k.1) + sumF h (stepsQ c k.1 r)) = trapF h (f, k.1) + sumF h (stepsQ c k.1 r)
            rw [Rat.add_zero, ← Rat.add_assoc, trap_split (Rat.le_of_lt h1) hbk (hl f k.1 Rat.le_refl (hup k.1 Rat.le_refl))]
          · rw [if_neg hkc, if_neg hkc]
            show trapF h (f, b) + 0 + (trapF h (b, c) + 0) = trapF h (f, c) + 0
            rw [Rat.add_zero, Rat.add_zero, Rat.add_zero]
            exact trap_split (Rat.le_of_lt h1) (Rat.le_of_lt h2) (hl f c Rat.le_refl (hup c (Rat.not_lt.1 hkc)))
        · rw [if_neg hkb]
          have e : b = k.1 := Rat.le_antisymm hbk (Rat.not_lt.1 hkb)
          rw [if_pos (by rw [← e]; exact h2)]
          show trapF h (f, b) + 0 + sumF h (stepsQ c b r) = trapF h (f, k.1) + sumF h (stepsQ c k.1 r)
          rw [Rat.add_zero, e]
    · have hkf := Rat.not_lt.1 hf
      have ih := steps_add r f b c h1 h2 hA2 fun u v hu hk => hl u v hu fun q hq => by
        rcases List.mem_cons.1 hq with e | e
        · rw [e]; exact .inl (Rat.le_trans hkf hu)
        · exact hk q e
      unfold stepsQ
      rw [if_neg hf, if_neg (Rat.not_lt.2 (Rat.le_trans hkf (Rat.le_of_lt h1))), if_neg hf]
      exact ih
/-- integrals that touch add up -/
theorem integral_add {Q : List QP} (hA : AscQ Q) {a b c : Rat} (h1 : a < b) (h2 : b < c) : sumQ Q (stepsQ b a Q) + sumQ Q (stepsQ c b Q) = sumQ Q (stepsQ c a Q) := by
  rw [sumQ_sumF, sumQ_sumF, sumQ_sumF]
  exact steps_add Q a b c h1 h2 hA fun u v _ hk => valF_lin hA hk
end Go.Proofs.YtbogpbjddaoeiaaGreatDoor
namespace Go.Proofs.YtbogpbjddaoeiaaGreatDoor
abbrev AscR (L : List Rat) : Prop := L.Pairwise (· < ·)
theorem asc_unique : ∀ (A B : List Rat), AscR A → AscR B → (∀ x, x ∈ A ↔ x ∈ B) → A = B
  | [], [], _, _, _ => rfl
  | [], b :: B, _, _, h => (by have := (h b).2 (List.mem_cons_self ..); cases this)
  | a :: A, [], _, _, h => (by have := (h a).1 (List.mem_cons_self ..); cases this)
  | a :: A, b :: B, hA, hB, h => by
    obtain ⟨a1, a2⟩ := List.pairwise_cons.1 hA
    obtain ⟨b1, b2⟩ := List.pairwise_cons.1 hB
    have hab : a = b := by
      rcases List.mem_cons.1 ((h a).1 (List.mem_cons_self ..)) with e | e
      · exact e
      · rcases List.mem_cons.1 ((h b).2 (List.mem_cons_self ..)) with e' | e'
        · exact e'.symm
        · exact (Rat.lt_irrefl (rat_lt_trans (b1 a e) (a1 b e'))).elim
    subst hab
    rw [asc_unique A B a2 b2 fun x => ?_]
    constructor
    · intro hx
      rcases List.mem_cons.1 ((h x).1 (List.mem_cons_of_mem _ hx)) with e | e
      · rw [e] at hx; exact (Rat.lt_irrefl (a1 a hx)).elim
      · exact e
    · intro hx
      rcases List.mem_cons.1 ((h x).2 (List.mem_cons_of_mem _ hx)) with e | e
      · rw [e] at hx; exact (Rat.lt_irrefl (b1 a hx)).elim
      · exact e
def mrgF : Nat → List Rat → List Rat → List Rat
  | 0, _, _ => []
  | _ + 1, [], g => g
  | _ + 1, f, [] => f
  | n + 1, a :: f, b :: g => if a < b then a :: mrgF n f (b :: g) else if b < a then b :: mrgF n (a :: f) g else a :: mrgF n f g
theorem mrgF_nil_left (n : Nat) (g : List Rat) : mrgF (n + 1) [] g = g := by unfold mrgF; rfl
theorem mrgF_nil_right (n : Nat) (f : List Rat) : mrgF (n + 1) f [] = f := by cases f <;> rfl
theorem mrgF_fuel : ∀ (n m : Nat) (f g : List Rat), f.length + g.length < n → f.length + g.length < m → mrgF n f g = mrgF m f g
  | 0, _, _, _, h, _ => by omega
  | _, 0, _, _, _, h => by omega
  | _ + 1, _ + 1, [], g, _, _ => by rw [mrgF_nil_left, mrgF_nil_left]
  | _ + 1, _ + 1, _ :: _, [], _, _ => rfl
  | n + 1, m + 1, a :: f, b :: g, h1, h2 => by
    simp only [List.length_cons] at h1 h2
    unfold mrgF
    rw [mrgF_fuel n m f (b :: g) (by simp only [List.length_cons]; omega) (by simp only [List.length_cons]; omega), mrgF_fuel n m (a :: f) g (by simp only [List.length_cons]; omega) (by simp only [List.length_cons]; omega), mrgF_fuel n m f g (by omega) (by omega)]
def mrg (f g : List Rat) : List Rat := mrgF (f.length + g.length + 1) f g
theorem mrg_left (a : Rat) (f : List Rat) : mrg (a :: f) [] = a :: mrg f [] := by unfold mrg; rw [mrgF_nil_right, mrgF_nil_right]
theorem mrg_right (b : Rat) (g : List Rat) : mrg [] (b :: g) = b :: mrg [] g := by unfold mrg; rw [mrgF_nil_left, mrgF_nil_left]
theorem mrg_nil : mrg [] [] = [] := by unfold mrg; rw [mrgF_nil_left]
theorem mrg_lt {a b : Rat} (f g : List Rat) (h : a < b) : mrg (a :: f) (b :: g) = a :: mrg f (b :: g) := by
  unfold mrg
  rw [show (a :: f).length + (b :: g).length + 1 = (f.length + (b :: g).length + 1) + 1 by simp only [List.length_cons]; omega]
  show (if a < b then _ else _) = _
  rw [if_pos h]
theorem mrg_gt {a b : Rat} (f g : List Rat) (h : b < a) : mrg (a :: f) (b :: g) = b :: mrg (a :: f) g := by
  unfold mrg
  rw [show (a :: f).length + (b :: g).length + 1 = ((a :: f).length + g.length + 1) + 1 by simp only [List.length_cons]; omega]
  show (if a < b then _ else if b < a then _ else _) = _
  rw [if_neg (fun h' => Rat.lt_irrefl (rat_lt_trans h h')), if_pos h]
theorem mrg_eq {a b : Rat} (f g : List Rat) (h : ¬ a < b) (h' : ¬ b < a) : mrg (a :: f) (b :: g) = a :: mrg f g := by
  unfold mrg
  rw [mrgF_fuel (f.length + g.length + 1) (f.length + g.length + 1 + 1) f g (by omega) (by omega)]
  rw [show (a :: f).length + (b :: g).length + 1 = (f.length + g.length + 1 + 1) + 1 by simp only [List.length_cons]; omega]
  show (if a < b then _ else if b < a then _ else _) = _
  rw [if_neg h, if_neg h']
theorem mrg_props : ∀ (n : Nat) (f g : List Rat), f.length + g.length ≤ n → AscR f → AscR g → AscR (mrg f g) ∧ (∀ x, x ∈ mrg f g ↔ x ∈ f ∨ x ∈ g) ∧ (mrg f g).length ≤ f.length + g.length
  | _, [], [], _, _, _ => by rw [mrg_nil]; exact ⟨List.Pairwise.nil, fun x => by simp, Nat.le_refl _⟩
  | 0, a :: f, _, h, _, _ => by simp only [List.length_cons] at h; omega
  | 0, [], b :: g, h, _, _ => by simp only [List.length_cons] at h; omega
  | _ + 1, a :: f, [], _, hf, _ => by
    have e : mrg (a :: f) [] = a :: f := by unfold mrg; exact mrgF_nil_right _ _
    rw [e]
    exact ⟨hf, fun x => by simp, by simp⟩
  | _ + 1, [], b :: g, _, _, hg => by
    have e : mrg [] (b :: g) = b :: g := by unfold mrg; exact mrgF_nil_left _ _
    rw [e]
    exact ⟨hg, fun x => by simp, by simp⟩
  | n + 1, a :: f, b :: g, h, hf, hg => by
    obtain ⟨f1, f2⟩ := List.pairwise_cons.1 hf
    obtain ⟨g1, g2⟩ := List.pairwise_cons.1 hg
    simp only [List.length_cons] at h
    by_cases h1 : a < b
    · rw [mrg_lt f g h1]
      obtain ⟨i1, i2, i3⟩ := mrg_props n f (b :: g) (by simp only [List.length_cons]; omega) f2 hg
      refine ⟨List.pairwise_cons.2 ⟨fun x hx => ?_, i1⟩, fun x => ?_, by simp only [List.length_cons] at i3 ⊢; omega⟩
      · rcases (i2 x).1 hx with e | e
        · exact f1 x e
        · rcases List.mem_cons.1 e with e | e
          · rw [e]; exact h1
          · exact rat_lt_trans h1 (g1 x e)
      · rw [List.mem_cons, i2 x]
        simp only [List.mem_cons]
        grind
    · by_cases h2 : b < a
      · rw [mrg_gt f g h2]
        obtain ⟨i1, i2, i3⟩ := mrg_props n (a :: f) g (by simp only [List.length_cons]; omega) hf g2
        refine ⟨List.pairwise_cons.2 ⟨fun x hx => ?_, i1⟩, fun x => ?_, by simp only [List.length_cons] at i3 ⊢; omega⟩
        · rcases (i2 x).1 hx with e | e
          · rcases List.mem_cons.1 e with e | e
            · rw [e]; exact h2
            · exact rat_lt_trans h2 (f1 x e)
          · exact g1 x e
        · rw [List.mem_cons, i2 x]
          simp only [List.mem_cons]
          grind
      · rw [mrg_eq f g h1 h2]
        have hab : a = b := Rat.le_antisymm (Rat.not_lt.1 h2) (Rat.not_lt.1 h1)
        subst hab
        obtain ⟨i1, i2, i3⟩ := mrg_props n f g (by omega) f2 g2
        refine ⟨List.pairwise_cons.2 ⟨fun x hx => ?_, i1⟩, fun x => ?_, by simp only [List.length_cons]; omega⟩
        · rcases (i2 x).1 hx with e | e
          · exact f1 x e
          · exact g1 x e
        · rw [List.mem_cons, i2 x]
          simp only [List.mem_cons]
          grind
/-- the knots of a sum -/
def addAts (F G : List QP) : List Rat := mrg (F.map (·.1)) (G.map (·.1))
def addF (F G : List QP) : List QP := (addAts F G).map fun t => (t, valF F t + valF G t)
theorem ascR_of {Q : List QP} (h : AscQ Q) : AscR (Q.map (·.1)) := List.pairwise_map.2 h
theorem addAts_asc {F G : List QP} (hF : AscQ F) (hG : AscQ G) : AscR (addAts F G) := (mrg_props _ _ _ (Nat.le_refl _) (ascR_of hF) (ascR_of hG)).1
theorem addAts_mem {F G : List QP} (hF : AscQ F) (hG : AscQ G) (x : Rat) : x ∈ addAts F G ↔ x ∈ F.map (·.1) ∨ x ∈ G.map (·.1) := (mrg_props _ _ _ (Nat.le_refl _) (ascR_of hF) (ascR_of hG)).2.1 x
theorem addAts_len {F G : List QP} (hF : AscQ F) (hG : AscQ G) : (addAts F G).length ≤ F.length + G.length := by
  have := (mrg_props _ _ _ (Nat.le_refl _) (ascR_of hF) (ascR_of hG)).2.2
  rw [List.length_map, List.length_map] at this
  exact this
theorem addF_asc {F G : List QP} (hF : AscQ F) (hG : AscQ G) : AscQ (addF F G) := List.pairwise_map.2 (addAts_asc hF hG)
theorem addF_value {F G : List QP} (hF : AscQ F) (hG : AscQ G) (h0 : 0 < F.length) (x : Rat) : valF (addF F G) x = valF F x + valF G x := by
  refine sum_value hF hG (fun h => ?_) (addAts_asc hF hG) (fun k hk => (addAts_mem hF hG _).2 (.inl (List.mem_map.2 ⟨k, hk, rfl⟩))) (fun k hk => (addAts_mem hF hG _).2 (.inr (List.mem_map.2 ⟨k, hk, rfl⟩))) x
  cases F with
  | nil => simp at h0
  | cons p r =>
    have := (addAts_mem hF hG p.1).2 (.inl (List.mem_map.2 ⟨p, List.mem_cons_self .., rfl⟩))
    rw [h] at this
    cases this
end Go.Proofs.YtbogpbjddaoeiaaGreatDoor
