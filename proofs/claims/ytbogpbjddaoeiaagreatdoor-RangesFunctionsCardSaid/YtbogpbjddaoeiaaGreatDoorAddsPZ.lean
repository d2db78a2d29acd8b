import Derived.Test.YtbogpbjddaoeiaaGreatDoorLinZ
import Derived.Test.YtbogpbjddaoeiaaGreatDoorSimpWZ
import Derived.Test.YtbogpbjddaoeiaaGreatDoorDnZ
import Derived.Test.YtbogpbjddaoeiaaGreatDoorMergeQZ
import Derived.Test.YtbogpbjddaoeiaaGreatDoorWideZ
namespace Go.Proofs.YtbogpbjddaoeiaaGreatDoor
open Go.RowKit Go.Shelf
open Go.Lib (decDigits itoa nDigits)
def sumV (F G : List QP) (t : Rat) : QP := (t, valueQ F t + valueQ G t)
theorem addF_sumV (F G : List QP) : (addAts F G).map (sumV F G) = addF F G := by
  unfold addF sumV
  simp only [valueQ_valF]
/-- the law's loop -/
structure AdSt (F G : List QP) (w : World) (i k : Nat) (ov : Value) (wr : World) : Prop where
  hi : i ≤ F.length
  hk : k ≤ G.length
  pre : ∃ P : List Rat, P ++ mrg ((F.drop i).map (·.1)) ((G.drop k).map (·.1)) = addAts F G ∧ wr.ownsRow w.heap.size 66 4 ov P.length (cellsQ (P.map (sumV F G)))
  low : Below w.heap.size w wr
theorem AdSt.zero (F G : List QP) (w wr : World) (h : Below w.heap.size w wr) : AdSt F G w 0 0 (.slice none 0 0) wr :=
  ⟨Nat.zero_le _, Nat.zero_le _, ⟨[], rfl, World.ownsRow_nil _ _ _ _⟩, h⟩
/-- what a round may put out -/
def NextAt (F G : List QP) (i k i' k' : Nat) (t : Rat) : Prop := i' ≤ F.length ∧ k' ≤ G.length ∧ mrg ((F.drop i).map (·.1)) ((G.drop k).map (·.1)) = t :: mrg ((F.drop i').map (·.1)) ((G.drop k').map (·.1))
theorem next_left1 {F G : List QP} {i : Nat} (hi : i < F.length) : NextAt F G i G.length (i + 1) G.length F[i].1 := by
  refine ⟨hi, Nat.le_refl _, ?_⟩
  rw [List.drop_length, List.drop_eq_getElem_cons hi, List.map_cons, List.map_nil]
  exact mrg_left _ _
theorem next_left2 {F G : List QP} {i k : Nat} (hi : i < F.length) (hk : k < G.length) (h : F[i].1 < G[k].1) : NextAt F G i k (i + 1) k F[i].1 := by
  refine ⟨hi, Nat.le_of_lt hk, ?_⟩
  rw [List.drop_eq_getElem_cons hi, List.drop_eq_getElem_cons hk, List.map_cons, List.map_cons]
  exact mrg_lt _ _ h
theorem next_right1 {F G : List QP} {k : Nat} (hk : k < G.length) : NextAt F G F.length k F.length (k + 1) G[k].1 := by
  refine ⟨Nat.le_refl _, hk, ?_⟩
  rw [List.drop_length, List.drop_eq_getElem_cons hk, List.map_cons, List.map_nil]
  exact mrg_right _ _
theorem next_right2 {F G : List QP} {i k : Nat} (hi : i < F.length) (hk : k < G.length) (h : G[k].1 < F[i].1) : NextAt F G i k i (k + 1) G[k].1 := by
  refine ⟨Nat.le_of_lt hi, hk, ?_⟩
  rw [List.drop_eq_getElem_cons hi, List.drop_eq_getElem_cons hk, List.map_cons, List.map_cons]
  exact mrg_gt _ _ h
theorem next_both {F G : List QP} {i k : Nat} (hi : i < F.length) (hk : k < G.length) (h : ¬ F[i].1 < G[k].1) (h' : ¬ G[k].1 < F[i].1) : NextAt F G i k (i + 1) (k + 1) F[i].1 := by
  refine ⟨hi, hk, ?_⟩
  rw [List.drop_eq_getElem_cons hi, List.drop_eq_getElem_cons hk, List.map_cons, List.map_cons]
  exact mrg_eq _ _ h h'
theorem AdSt.put {F G : List QP} {w w' : World} {i k i' k' : Nat} {P : List Rat} {t : Rat} {v' : Value} (hP : P ++ mrg ((F.drop i).map (·.1)) ((G.drop k).map (·.1)) = addAts F G) (hn : NextAt F G i k i' k' t)
    (ho : w'.ownsRow w.heap.size 66 4 v' (P.length + 1) (cellsQ (P.map (sumV F G)) ++ [.int .i64 t.num, .int .i64 (t.den : Int), .int .i64 (valueQ F t + valueQ G t).num, .int .i64 ((valueQ F t + valueQ G t).den : Int)])) (hb : Below w.heap.size w w') : AdSt F G w i' k' v' w' := by
  obtain ⟨h1, h2, h3⟩ := hn
  refine ⟨h1, h2, ⟨P ++ [t], ?_, ?_⟩, hb⟩
  · rw [← hP, h3, List.append_assoc]; rfl
  · rw [List.map_append, List.map_cons, List.map_nil, cellsQ_snoc, List.length_append]
    exact ho
theorem AdSt.done {F G : List QP} {w wr : World} {i k : Nat} {ov : Value} (h : AdSt F G w i k ov wr) (hi : ¬ i < F.length) (hk : ¬ k < G.length) : Quads wr ov (addF F G) := by
  obtain ⟨h1, h2, ⟨P, hP, ho⟩, _⟩ := h
  rw [List.drop_of_length_le (by omega), List.drop_of_length_le (by omega), List.map_nil, mrg_nil, List.append_nil] at hP
  subst hP
  rw [← addF_sumV]
  exact quads_of_owns (by rw [List.length_map]; exact ho)
theorem mem_len {α : Type} {P A X : List α} (h : P ++ X = A) : P.length ≤ A.length := by rw [← h, List.length_append]; omega
theorem Dn.wide {B B' D : Nat} {q : Rat} (h : Dn B D q) (hb : B ≤ B') : Dn B' D q := h.mono hb
theorem addAts_dn {F G : List QP} (hF : Halved F) (hG : Halved G) (aF : AscQ F) (aG : AscQ G) : ∀ t ∈ addAts F G, Dn 96 2 t := fun t ht => by
  rcases (addAts_mem aF aG t).1 ht with h | h
  · obtain ⟨p, hp, rfl⟩ := List.mem_map.1 h; exact (hF.all p hp).1
  · obtain ⟨p, hp, rfl⟩ := List.mem_map.1 h; exact (hG.all p hp).1
theorem sum_fr {F G : List QP} (hF : Halved F) (hG : Halved G) (aF : AscQ F) (aG : AscQ G) (lF : 0 < F.length) (lG : 0 < G.length) {t : Rat} (ht : Dn 96 2 t) : Fr 600000000 3360 (valueQ F t + valueQ G t) := by
  have h1 := hF.value aF (ht.mono (B' := 192) (by decide)) lF
  have h2 := hG.value aG (ht.mono (B' := 192) (by decide)) lG
  exact ((Dn.add (by decide) h1 h2).fr (by decide)).mono (by decide) (by decide)
theorem addF_fr {F G : List QP} (hF : Halved F) (hG : Halved G) (aF : AscQ F) (aG : AscQ G) (lF : 0 < F.length) (lG : 0 < G.length) : FrW (addF F G) := fun p hp => by
  rw [← addF_sumV] at hp
  obtain ⟨t, ht, rfl⟩ := List.mem_map.1 hp
  have hd := addAts_dn hF hG aF aG t ht
  exact ⟨(hd.fr (by decide)).mono (by decide) (by decide), sum_fr hF hG aF aG lF lG hd⟩
theorem addF_len {F G : List QP} (aF : AscQ F) (aG : AscQ G) : (addF F G).length ≤ F.length + G.length := by
  unfold addF
  rw [List.length_map]
  exact addAts_len aF aG
theorem addF_pos {F G : List QP} (aF : AscQ F) (aG : AscQ G) (lF : 0 < F.length) : 0 < (addF F G).length := by
  unfold addF
  rw [List.length_map]
  cases F with
  | nil => simp at lF
  | cons p r => exact List.length_pos_of_mem ((addAts_mem aF aG p.1).2 (.inl (List.mem_map.2 ⟨p, List.mem_cons_self .., rfl⟩)))
/-- what Add returned is what the law summed up -/
theorem add_same {F G : List QP} {ZA ZB : List RP} {E : List TP} (aF : AscQ F) (aG : AscQ G) (eA : ZA.map (·.1) = F.map textP) (eB : ZB.map (·.1) = G.map textP) (rF : rats (F.map textP) = F) (rG : rats (G.map textP) = G)
    (hE : E.Pairwise (fun x y => ratV x.1 < ratV y.1)) (hm : ∀ x, x ∈ E ↔ x ∈ atsT (ZA ++ ZB)) : E.map (sumP (ZA.map (·.1)) (ZB.map (·.1))) = (addF F G).map textP := by
  have hat : ∀ {Z : List RP} {Q : List QP}, Z.map (·.1) = Q.map textP → rats (Q.map textP) = Q → (atsT Z).map (fun x => ratV x.1) = Q.map (·.1) := by
    intro Z Q e r
    have h1 : (rats (Z.map (·.1))).map (·.1) = Q.map (·.1) := by rw [e, r]
    rw [← h1]
    unfold rats atsT
    rw [List.map_map, List.map_map, List.map_map]
    rfl
  have hA := hat eA rF
  have hB := hat eB rG
  have hR : E.map (fun x => ratV x.1) = addAts F G := by
    refine asc_unique _ _ (List.pairwise_map.2 hE) (addAts_asc aF aG) fun t => ?_
    rw [addAts_mem aF aG, ← hA, ← hB]
    constructor
    · intro ht
      obtain ⟨x, hx, rfl⟩ := List.mem_map.1 ht
      have := (hm x).1 hx
      unfold atsT at this
      rw [List.map_append] at this
      rcases List.mem_append.1 this with h | h
      · exact .inl (List.mem_map.2 ⟨x, h, rfl⟩)
      · exact .inr (List.mem_map.2 ⟨x, h, rfl⟩)
    · intro ht
      have key : ∀ x : TP, x ∈ atsT (ZA ++ ZB) → ratV x.1 ∈ E.map (fun x => ratV x.1) := fun x hx => List.mem_map.2 ⟨x, (hm x).2 hx, rfl⟩
      rcases ht with h | h
      · obtain ⟨x, hx, rfl⟩ := List.mem_map.1 h
        exact key x (by unfold atsT at *; rw [List.map_append]; exact List.mem_append.2 (.inl hx))
      · obtain ⟨x, hx, rfl⟩ := List.mem_map.1 h
        exact key x (by unfold atsT at *; rw [List.map_append]; exact List.mem_append.2 (.inr hx))
  rw [← addF_sumV, ← hR, List.map_map, List.map_map]
  refine List.map_congr_left fun x _ => ?_
  show (x.1, tx (valueV (ZA.map (·.1)) (ratV x.1) + valueV (ZB.map (·.1)) (ratV x.1))) = (tx (ratV x.1), tx (valueQ F (ratV x.1) + valueQ G (ratV x.1)))
  rw [valueV_rats, valueV_rats, eA, eB, rF, rG]
  exact Prod.ext (text_of x.2 rfl) rfl
/-- what Add's values are -/
theorem add_right {F G : List QP} {ZA ZB : List RP} (hF : Halved F) (hG : Halved G) (aF : AscQ F) (aG : AscQ G) (lF : 0 < F.length) (lG : 0 < G.length) (eA : ZA.map (·.1) = F.map textP) (eB : ZB.map (·.1) = G.map textP) (rF : rats (F.map textP) = F) (rG : rats (G.map textP) = G) :
    ∀ x ∈ atsT (ZA ++ ZB), ratB (rtext (valueV (ZA.map (·.1)) (ratV x.1) + valueV (ZB.map (·.1)) (ratV x.1))) = true := by
  have hat : ∀ {Z : List RP} {Q : List QP}, Z.map (·.1) = Q.map textP → rats (Q.map textP) = Q → Halved Q → ∀ x ∈ atsT Z, Dn 96 2 (ratV x.1) := by
    intro Z Q e r hH x hx
    unfold atsT at hx
    obtain ⟨y, hy, rfl⟩ := List.mem_map.1 hx
    have h2 : (ratV y.1.1, ratV y.1.2) ∈ Q := by
      rw [← r, ← e]
      unfold rats
      exact List.mem_map.2 ⟨y.1, List.mem_map.2 ⟨y, hy, rfl⟩, rfl⟩
    exact (hH.all _ h2).1
  intro x hx
  have hd : Dn 96 2 (ratV x.1) := by
    unfold atsT at hx
    rw [List.map_append] at hx
    rcases List.mem_append.1 hx with h | h
    · exact hat eA rF hF x h
    · exact hat eB rG hG x h
  rw [valueV_rats, valueV_rats, eA, eB, rF, rG]
  have := (okR2 (sum_fr hF hG aF aG lF lG hd) (by decide) (by decide)).1
  simpa using this
theorem simpG_mem {α : Type} {s : Nat → Rat} {L : List α} : ∀ x ∈ simpG s L, x ∈ L := by
  have key : ∀ k, ∀ x ∈ keepG s L k, x ∈ L := by
    intro k
    induction k with
    | zero => intro x hx; cases hx
    | succ k ih =>
      intro x hx
      unfold keepG at hx
      rcases List.mem_append.1 hx with h | h
      · exact ih x h
      · split at h
        · cases h
        · cases hg : L[k]? with
          | none => rw [hg] at h; cases h
          | some y =>
            rw [hg] at h
            have : x = y := by simpa using h
            rw [this]
            exact List.mem_of_getElem? hg
  intro x hx
  unfold simpG at hx
  split at hx
  · exact List.mem_of_mem_take hx
  · exact key _ x hx
theorem simpG_len {α : Type} (s : Nat → Rat) (L : List α) : (simpG s L).length ≤ L.length := by
  unfold simpG
  split
  · rw [List.length_take]; omega
  · exact keepG_len s L _
end Go.Proofs.YtbogpbjddaoeiaaGreatDoor
