import Derived.Test.YtbogpbjddaoeiaaGreatDoorAddsPZ
import Derived.Test.YtbogpbjddaoeiaaGreatDoorInts1Z
namespace Go.Proofs.YtbogpbjddaoeiaaGreatDoor
open Go.RowKit
open Go.Lib (decDigits itoa nDigits)
theorem slopeQ_next {S : List QP} {k : Nat} (h : k + 1 < S.length) : slopeQ S (k + 1) = (S[k + 1].2 - (S[k]'(by omega)).2) * (S[k + 1].1 - (S[k]'(by omega)).1)⁻¹ := slopeQ_eq (by omega) h rfl
theorem keep_both {S : List QP} : ∀ (n k : Nat) (hk : k < S.length), S.length - k ≤ n → keepG (slopeQ S) S k ++ kpS (slopeQ S k) S[k] (S.drop (k + 1)) = keepG (slopeQ S) S S.length
  | 0, k, hk, h => by omega
  | n + 1, k, hk, h => by
    by_cases hk2 : k + 1 < S.length
    · have ih := keep_both n (k + 1) hk2 (by omega)
      rw [List.drop_eq_getElem_cons hk2]
      have e := slopeQ_next hk2
      by_cases hs : slopeQ S k = slopeQ S (k + 1)
      · rw [keepG_no hs] at ih
        unfold kpS
        rw [← e, if_pos hs]
        exact ih
      · rw [keepG_yes hk hs, List.append_assoc] at ih
        unfold kpS
        rw [← e, if_neg hs]
        exact ih
    · have hl : S.length = k + 1 := by omega
      have e : slopeQ S (k + 1) = 0 := slopeQ_end (.inr hl.symm)
      rw [List.drop_of_length_le (by omega)]
      unfold kpS
      by_cases hs : slopeQ S k = slopeQ S (k + 1)
      · rw [if_pos (by rw [hs, e]), List.append_nil, hl, keepG_no hs]
      · rw [if_neg (by rw [← e]; exact hs), hl, keepG_yes hk hs]
theorem simpG_simpF (S : List QP) : simpG (slopeQ S) S = simpF S := by
  cases S with
  | nil => rfl
  | cons p r =>
    have h := keep_both (S := p :: r) (p :: r).length 0 (by simp) (by omega)
    have e0 : slopeQ (p :: r) 0 = 0 := slopeQ_end (.inl rfl)
    rw [e0] at h
    have h' : kpS 0 p r = keepG (slopeQ (p :: r)) (p :: r) (p :: r).length := h
    unfold simpG
    rw [simpF_cons, ← h']
    rfl
theorem simp_valueQ {S : List QP} (hA : AscQ S) (x : Rat) : valueQ (simpG (slopeQ S) S) x = valueQ S x := by
  rw [simpG_simpF, valueQ_valF, valueQ_valF]
  exact simp_value hA x
theorem keepG_sub {α : Type} (s : Nat → Rat) (L : List α) : ∀ k, k ≤ L.length → (keepG s L k).Sublist (L.take k)
  | 0, _ => List.Sublist.refl _
  | k + 1, hk => by
    have ih := keepG_sub s L k (by omega)
    have hk' : k < L.length := by omega
    rw [List.take_succ_eq_append_getElem hk']
    by_cases hs : s k = s (k + 1)
    · rw [keepG_no hs]
      exact ih.trans (List.sublist_append_left _ _)
    · rw [keepG_yes hk' hs]
      exact ih.append (List.Sublist.refl _)
theorem simpG_asc {S : List QP} (s : Nat → Rat) (hA : AscQ S) : AscQ (simpG s S) := by
  unfold simpG
  split
  · exact hA.sublist (List.take_sublist _ _)
  · have h := keepG_sub s S S.length (Nat.le_refl _)
    rw [List.take_length] at h
    exact hA.sublist h
theorem simpG_pos {α : Type} {s : Nat → Rat} {L : List α} (h : 0 < L.length) : 0 < (simpG s L).length := by
  unfold simpG
  split
  · rw [List.length_take]; omega
  · rename_i h1
    exact List.length_pos_iff.2 h1
theorem addF_valueQ {F G : List QP} (hF : AscQ F) (hG : AscQ G) (h0 : 0 < F.length) (x : Rat) : valueQ (addF F G) x = valueQ F x + valueQ G x := by
  rw [valueQ_valF, valueQ_valF, valueQ_valF]
  exact addF_value hF hG h0 x
/-! bounds at twelfths -/
theorem Halved.value12 {Q : List QP} (h : Halved Q) (hp : AscQ Q) {x : Rat} (hx : Dn 8200 12 x) (hl : 0 < Q.length) : Dn 2200000 20160 (valueQ Q x) := by
  have hle : segQ Q x ≤ Q.length := by rw [← cntQ_seg hp]; exact cntQ_le Q x
  by_cases h0 : segQ Q x = 0
  · rw [valueQ_zero h0 hl]
    exact ((h.all _ (List.getElem_mem hl)).2.scale (c := 10080) (by decide) rfl).mono (by decide)
  · have hm : segQ Q x - 1 < Q.length := by omega
    rw [valueQ_pos rfl h0 rfl hm]
    have ha := h.all _ (List.getElem_mem hm)
    exact ((ha.2.scale (c := 10080) (by decide) rfl).add (by decide) ((h.slope hle).mul (hx.sub (by decide) (ha.1.scale (c := 6) (by decide) rfl)))).mono (by decide)
theorem term12 {Q : List QP} (h : Halved Q) (hp : AscQ Q) (hl : 0 < Q.length) {x y : Rat} (hx : Dn 8200 12 x) (hy : Dn 8200 12 y) : Dn 72160000000 483840 (termQ Q (x, y)) := by
  have h1 := Dn.add (by decide) (h.value12 hp hx hl) (h.value12 hp hy hl)
  have h2 : Dn 1 2 (1 / 2) := ⟨1, by decide +kernel, by decide⟩
  have h3 := Dn.sub (by decide) hy hx
  have h4 := Dn.mul (Dn.mul h1 h2) h3
  exact h4.mono (by decide)
theorem fold12 {Q : List QP} (h : Halved Q) (hp : AscQ Q) (hl : 0 < Q.length) : ∀ (l : List QP), (∀ p ∈ l, Dn 8200 12 p.1 ∧ Dn 8200 12 p.2) → ∀ (k : Nat) (s : Rat), Dn (72160000000 * k) 483840 s → Dn (72160000000 * (k + l.length)) 483840 (l.foldl (fun s p => s + termQ Q p) s)
  | [], _, k, s, hs => hs
  | p :: r, hm, k, s, hs => by
    have h1 := hm p (List.mem_cons_self ..)
    have h2 := term12 h hp hl h1.1 h1.2
    have h3 := Dn.add (by decide) hs h2
    have h4 := fold12 h hp hl r (fun p hp => hm p (List.mem_cons_of_mem _ hp)) (k + 1) (s + termQ Q p) (h3.mono (by omega))
    rw [List.foldl_cons, List.length_cons]
    exact h4.mono (by omega)
theorem stepsQ_12 {hi : Rat} (hh : Dn 8200 12 hi) : ∀ (f : Rat) (L : List QP), Dn 8200 12 f → (∀ p ∈ L, Dn 8200 12 p.1) → (∀ p ∈ stepsQ hi f L, Dn 8200 12 p.1 ∧ Dn 8200 12 p.2) ∧ (stepsQ hi f L).length ≤ L.length + 1
  | f, [], hf, _ => ⟨fun p hp => by rw [List.mem_singleton.1 hp]; exact ⟨hf, hh⟩, Nat.le_refl _⟩
  | f, k :: r, hf, hL => by
    have hk := hL k (List.mem_cons_self ..)
    have hr := fun p hp => hL p (List.mem_cons_of_mem k hp)
    unfold stepsQ
    split
    · split
      · obtain ⟨a, b⟩ := stepsQ_12 hh k.1 r hk hr
        refine ⟨fun p hp => ?_, by simp only [List.length_cons]; omega⟩
        rcases List.mem_cons.1 hp with e | e
        · rw [e]; exact ⟨hf, hk⟩
        · exact a p e
      · exact ⟨fun p hp => by rw [List.mem_singleton.1 hp]; exact ⟨hf, hh⟩, by simp⟩
    · obtain ⟨a, b⟩ := stepsQ_12 hh f r hf hr
      exact ⟨a, by simp only [List.length_cons]; omega⟩
theorem sum12 {Q : List QP} (h : Halved Q) (hp : AscQ Q) (hl : 0 < Q.length) (h8 : Q.length ≤ 8) {lo hi : Rat} (hlo : Dn 8200 12 lo) (hhi : Dn 8200 12 hi) : Fr 400000000000000000 483840 (sumQ Q (stepsQ hi lo Q)) := by
  obtain ⟨a, b⟩ := stepsQ_12 hhi lo Q hlo fun p hq => ((h.all p hq).1.scale (c := 6) (by decide) rfl).mono (by decide)
  have h1 := fold12 h hp hl _ a 0 0 ⟨0, by decide +kernel, by decide⟩
  have h2 : Dn (72160000000 * 9) 483840 (sumQ Q (stepsQ hi lo Q)) := h1.mono (by omega)
  exact (h2.fr (by decide)).mono (by decide) (by decide)
theorem quarter12 {n : Int} (h1 : -32768 ≤ n) (h2 : n ≤ 32767) : Dn 8192 12 (mkRat n 4) := by
  have h : Dn 8192 4 (mkRat n 4) := ⟨n, rfl, by omega⟩
  exact h.scale (c := 3) (by decide) rfl
theorem isR_73 : IsR ⟨#[55, 47, 51]⟩ (7 / 3) := by
  show [55, 47, 51] = rtext (7 / 3)
  rw [rtext_of (q := 7 / 3) (n := ((7 : Nat) : Int)) (d := 3) (by decide +kernel) (by decide +kernel), rjoin_small (by decide) (by decide)]
  rfl
theorem isR_5 : IsR ⟨#[53]⟩ 5 := by
  show [53] = rtext 5
  have h := dig_text 5 (by decide)
  exact h.symm
end Go.Proofs.YtbogpbjddaoeiaaGreatDoor
