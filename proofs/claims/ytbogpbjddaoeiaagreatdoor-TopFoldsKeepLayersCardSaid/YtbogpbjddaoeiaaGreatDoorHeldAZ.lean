import Derived.Test.YtbogpbjddaoeiaaGreatDoorHeldInZ
namespace Go.Proofs.YtbogpbjddaoeiaaGreatDoor
open Go.RowKit
section
variable {P : Program} {md : Region.Mode} {ops : Array Oper} {Q : Exit → Act → World → Prop} {S : World → Prop}
theorem wpTakeL_skip {Lq : Act → Prop} {a : Act} {i : Nat} {rest : List Nat} {o : Oper} (hi : ops[i]? = some o) (hw : Region.wanted o (yielded ops a.tmps) = false)
    (h : wpTakeL P ops S Lq rest (a.put o.dst undef)) : wpTakeL P ops S Lq (i :: rest) a := ⟨o, undef, hi, .inr ⟨hw, rfl⟩, h⟩
def takesG (md : Region.Mode) (ops : Array Oper) (n : Nat) (B : Array Bool → Bool) : List Nat → Array Bool → Bool
  | [], listed => B listed
  | k :: rest, listed => decide (k < n) && (Region.ready md ops listed).contains k && Region.free md ops listed k && takesG md ops n B rest (listed.setIfInBounds k true)
def keptG (md : Region.Mode) (ops : Array Oper) (n : Nat) (B : Array Bool → Bool) : List Nat → Array Bool → Bool
  | [], listed => B listed
  | k :: rest, listed => decide (k < n) && decide (Region.ready md ops listed = [k]) && keptG md ops n B rest (listed.setIfInBounds k true)
theorem wpHL_takeG {n m : Nat} {B : Array Bool → Bool} {L : Array Bool → Act → World → Prop} {Lq : Act → Prop} (hsel : Region.noSelect ops = true) (hs : Region.sinkB md ops n = true) (hc : Region.chainB md ops n = true) (hn : n < ops.size)
    (hQ : ∀ c a w, ¬ Q (.panic c) a w) (hdone : ∀ listed a w, L listed a w → ∀ j ∈ Region.ready md ops listed, n ≤ j) (w : World) (hS : S w)
    (hfin : ∀ listed a, HeadInv md ops n listed → B listed = true → Lq a → wpHL P md ops Q S n L m listed a w) :
    ∀ (l : List Nat) (listed : Array Bool) (a : Act), HeadInv md ops n listed →
    takesG md ops n B l listed = true → wpTakeL P ops S Lq l a → wpHL P md ops Q S n L (l.length + m) listed a w
  | [], listed, a, inv, hB, h => by
    rw [List.length_nil, Nat.zero_add]
    exact hfin _ _ inv hB h
  | k :: l, listed, a, inv, hB, h => by
    simp only [takesG, Bool.and_eq_true, decide_eq_true_eq] at hB
    obtain ⟨⟨⟨hkn, hr⟩, hf⟩, hB'⟩ := hB
    have hr' : k ∈ Region.ready md ops listed := by simpa using hr
    obtain ⟨o, v, h0, hy, hK⟩ := h
    rw [List.length_cons, show l.length + 1 + m = (l.length + m) + 1 by omega]
    exact wpHL_first h0 (Region.noSelect_spec hsel) (fun c a w h => absurd h (hQ _ _ _)) hs hc hn hkn hdone (l.length + m) listed a w inv (Region.free_spec h0 hf) hr' hy hS
      (wpHL_takeG hsel hs hc hn hQ hdone w hS hfin l _ _ (inv.set hr' hkn) hB' hK)
theorem wpHL_keepG {n m : Nat} {B : Array Bool → Bool} {L : Array Bool → Act → World → Prop} {Lq : Act → World → Prop}
    (hfin : ∀ listed a w, HeadInv md ops n listed → B listed = true → S w → Lq a w → wpHL P md ops Q S n L m listed a w) :
    ∀ (l : List Nat) (listed : Array Bool) (a : Act) (w : World), HeadInv md ops n listed → S w → keptG md ops n B l listed = true → wpKeepL P ops S Q Lq l a w → wpHL P md ops Q S n L (l.length + m) listed a w
  | [], listed, a, w, inv, hS, hB, h => by
    rw [List.length_nil, Nat.zero_add]
    exact hfin _ _ _ inv hB hS h
  | k :: l, listed, a, w, inv, hS, hB, h => by
    simp only [keptG, Bool.and_eq_true, decide_eq_true_eq] at hB
    obtain ⟨⟨hkn, hr⟩, hB'⟩ := hB
    obtain ⟨o, h0, hw, ho⟩ := h
    have hr' : k ∈ Region.ready md ops listed := by rw [hr]; simp
    rw [List.length_cons, show l.length + 1 + m = (l.length + m) + 1 by omega]
    refine ⟨by rw [hr]; simp, fun i hi => ?_⟩
    rw [hr] at hi
    have hik : i = k := by simpa using hi
    subst hik
    refine ⟨hkn, ?_⟩
    unfold wpOp
    simp only [h0]
    rw [if_pos hw]
    exact .inl (Oper.wp_mono (fun a' w' h' => ⟨h'.1, wpHL_keepG hfin l _ a' w' (inv.set hr' hkn) h'.1 hB' h'.2⟩) ho)
end
def heldAB (md : Region.Mode) (ops : Array Oper) (t1 k1 t2 k2 : List Nat) (n2 : Nat) : Bool :=
  Region.noSelect ops && decide (n2 < ops.size) && decide (t1.length + (k1.length + (t2.length + k2.length)) = n2) && Region.sinkB md ops n2 && Region.chainB md ops n2 &&
    takesG md ops n2 (keptG md ops n2 (takesG md ops n2 (keptLB md ops (ops.size - n2) n2 k2) t2) k1) t1 (Array.replicate ops.size false)
theorem wpAny_held_two {P : Program} {Q : Exit → Act → World → Prop} {a : Act} {w : World} {l : List Oper} (S : World → Prop) (t1 k1 t2 k2 : List Nat) (n2 : Nat) (hB : heldAB .any l.toArray t1 k1 t2 k2 n2 = true) (hS : S w)
    (h : wpTakeL P l.toArray S (fun a1 => wpKeepL P l.toArray S (NormalOnly Q) (fun a2 w2 => wpTakeL P l.toArray S (fun a' => wpKeepL P l.toArray S (NormalOnly Q) (fun a'' w'' => wpKeep P l.toArray (fun _ => True) (NormalOnly Q) (fun a w => NormalOnly Q .normal a w) (l.drop n2) a'' w'') k2 a' w2) t2 a2) k1 a1 w) t1 a) :
    wpAny P .any l.toArray (NormalOnly Q) l.toArray.size (Array.replicate l.toArray.size false) a w := by
  simp only [heldAB, Bool.and_eq_true, decide_eq_true_eq] at hB
  obtain ⟨⟨⟨⟨⟨hsel, hn'⟩, hlen⟩, hs⟩, hc⟩, htk⟩ := hB
  have hl : n2 < l.length := by simpa using hn'
  have hdl : (l.drop n2).length = l.toArray.size - n2 := by simp
  have inv0 : HeadInv .any l.toArray n2 (Array.replicate l.toArray.size false) :=
    ⟨by simp, fun j oj _ hl => (by rw [getD_replicate_false] at hl; cases hl), fun t _ ht => getD_in (by simpa using ht) (getD_replicate_false _ _)⟩
  have hdone : ∀ listed (a : Act) (w : World), (fun listed' (a' : Act) (w' : World) => Region.seqB .any l.toArray (l.toArray.size - n2) n2 listed' = true ∧ wpKeep P l.toArray (fun _ => True) (NormalOnly Q) (fun a w => NormalOnly Q .normal a w) (l.drop n2) a' w') listed a w → ∀ j ∈ Region.ready .any l.toArray listed, n2 ≤ j :=
    fun listed a w hL => seqB_ready hL.1
  have H := wpHL_takeG (P := P) (ops := l.toArray) (md := .any) (Q := NormalOnly Q) (S := S) (n := n2) (m := k1.length + (t2.length + k2.length))
    hsel hs hc hn' (fun c a w h => h) hdone w hS
    (fun listed a inv hk hq => wpHL_keepG (m := t2.length + k2.length) (fun listed2 a2 w2 inv2 hB2 hS2 hq2 =>
      wpHL_takeG (m := k2.length) hsel hs hc hn' (fun c a w h => h) hdone w2 hS2
        (fun listed3 a3 _ hk3 hq3 => wpHL_keepL (md := .any) (Q := NormalOnly Q) (n := n2) (g := l.toArray.size - n2) k2 listed3 a3 w2 hk3 hq3) t2 listed2 a2 inv2 hB2 hq2) k1 listed a w inv hS hk hq)
    t1 _ a inv0 htk h
  have H2 := wpAny_of_HL (g := l.toArray.size - n2) (fun listed a' w' hL => by
    have := wpAny_of_seq (md := .any) (Q' := NormalOnly Q) (l.drop n2) n2 listed a' w' (fun j => by simp [List.getElem?_drop]) (by rw [hdl]; exact hL.1) (wpList_of_keep _ _ _ hL.2)
    rwa [hdl] at this) _ _ _ _ H
  have hsz : t1.length + (k1.length + (t2.length + k2.length)) + (l.toArray.size - n2) = l.toArray.size := by
    have : l.toArray.size = l.length := by simp
    omega
  rw [hsz] at H2
  exact H2
theorem wp_held_two {P : Program} {id : Nat} {Q : Exit → Act → World → Prop} {a : Act} {w : World} {l : List Oper} (S : World → Prop) (t1 k1 t2 k2 : List Nat) (n2 : Nat) (hm : P.follows .mixedOrders = true) (hB : heldAB .any l.toArray t1 k1 t2 k2 n2 = true) (hS : S w.drew)
    (h : wpTakeL P l.toArray S (fun a1 => wpKeepL P l.toArray S (NormalOnly Q) (fun a2 w2 => wpTakeL P l.toArray S (fun a' => wpKeepL P l.toArray S (NormalOnly Q) (fun a'' w'' => wpKeep P l.toArray (fun _ => True) (NormalOnly Q) (fun a w => NormalOnly Q .normal a w) (l.drop n2) a'' w'') k2 a' w2) t2 a2) k1 a1 w.drew) t1 a) : (Code.region id l.toArray true).wp P Q a w :=
  wp_normalOnly (wp_region_any hm (wpAny_held_two S t1 k1 t2 k2 n2 hB hS h))
end Go.Proofs.YtbogpbjddaoeiaaGreatDoor
namespace Go.Proofs.YtbogpbjddaoeiaaGreatDoor
open Go
section
variable {P : Program} {ops : Array Oper} {Q : Exit → Act → World → Prop} {md : Region.Mode} {S : World → Prop}
/-- the operation k, S behind it -/
def wpOne (P : Program) (ops : Array Oper) (S : World → Prop) (Q : Exit → Act → World → Prop) (k : Nat) (K : Act → World → Prop) (a : Act) (w : World) : Prop :=
  ∃ o, ops[k]? = some o ∧ Region.wanted o (yielded ops a.tmps) = true ∧ o.wp P a w (fun a' w' => S w' ∧ K a' w') Q
/-- operations by number, S behind each; the operation al comes somewhere among them -/
def wpKeepA (P : Program) (ops : Array Oper) (S : World → Prop) (Q : Exit → Act → World → Prop) (al : Nat) (Lq : Act → World → Prop) : List Nat → Act → World → Prop
  | [], a, w => wpOne P ops S Q al Lq a w
  | i :: rest, a, w => wpOne P ops S Q i (wpKeepA P ops S Q al Lq rest) a w ∧ wpOne P ops S Q al (wpKeepL P ops S Q Lq (i :: rest)) a w
def keptAB (md : Region.Mode) (ops : Array Oper) (g n al : Nat) : List Nat → Array Bool → Bool
  | [], listed => decide (al < n) && decide (Region.ready md ops listed = [al]) && Region.seqB md ops g n (listed.setIfInBounds al true)
  | k :: rest, listed => decide (k < n) && decide (al < n) && (decide (Region.ready md ops listed = [k, al]) || decide (Region.ready md ops listed = [al, k])) && keptAB md ops g n al rest (listed.setIfInBounds k true) && keptLB md ops g n (k :: rest) (listed.setIfInBounds al true)
def takesAB (md : Region.Mode) (ops : Array Oper) (g n al : Nat) (keeps : List Nat) : List Nat → Array Bool → Bool
  | [], listed => keptAB md ops g n al keeps listed
  | k :: rest, listed => decide (k < n) && (Region.ready md ops listed).contains k && Region.free md ops listed k && takesAB md ops g n al keeps rest (listed.setIfInBounds k true)
theorem wpOne_mk {K : Act → World → Prop} {a : Act} {w : World} {k : Nat} {o : Oper} (hi : ops[k]? = some o) (hw : Region.wanted o (yielded ops a.tmps) = true) (h : ∀ K' : Act → World → Prop, (∀ a w, S w ∧ K a w → K' a w) → o.wp P a w K' Q) : wpOne P ops S Q k K a w := ⟨o, hi, hw, h _ fun _ _ h => h⟩
theorem wpHL_keepA {n g al : Nat} {Lq : Act → World → Prop} : ∀ (l : List Nat) (listed : Array Bool) (a : Act) (w : World), keptAB md ops g n al l listed = true → wpKeepA P ops S Q al Lq l a w →
    wpHL P md ops Q S n (fun listed' a' w' => Region.seqB md ops g n listed' = true ∧ Lq a' w') (l.length + 1) listed a w
  | [], listed, a, w, hB, h => by
    simp only [keptAB, Bool.and_eq_true, decide_eq_true_eq] at hB
    obtain ⟨⟨hkn, hr⟩, hB'⟩ := hB
    obtain ⟨o, h0, hw, ho⟩ := h
    refine ⟨by rw [hr]; simp, fun i hi => ?_⟩
    rw [hr] at hi
    have hik : i = al := by simpa using hi
    subst hik
    refine ⟨hkn, ?_⟩
    unfold wpOp
    simp only [h0]
    rw [if_pos hw]
    exact .inl (Oper.wp_mono (fun a' w' h' => ⟨h'.1, hB', h'.2⟩) ho)
  | k :: l, listed, a, w, hB, h => by
    simp only [keptAB, Bool.and_eq_true, Bool.or_eq_true, decide_eq_true_eq] at hB
    obtain ⟨⟨⟨⟨hkn, haln⟩, hr⟩, hB1⟩, hB2⟩ := hB
    obtain ⟨⟨o1, g1, hw1, ho1⟩, ⟨o2, g2, hw2, ho2⟩⟩ := h
    have hne : Region.ready md ops listed ≠ [] := by rcases hr with hr | hr <;> rw [hr] <;> simp
    have hmem : ∀ i, i ∈ Region.ready md ops listed → i = k ∨ i = al := fun i hi => by
      rcases hr with hr | hr
      · rw [hr] at hi; simpa using hi
      · rw [hr] at hi; simpa [or_comm] using hi
    refine ⟨hne, fun i hi => ?_⟩
    rcases hmem i hi with rfl | rfl
    · refine ⟨hkn, ?_⟩
      unfold wpOp
      simp only [g1]
      rw [if_pos hw1]
      exact .inl (Oper.wp_mono (fun a' w' h' => ⟨h'.1, wpHL_keepA l _ a' w' hB1 h'.2⟩) ho1)
    · refine ⟨haln, ?_⟩
      unfold wpOp
      simp only [g2]
      rw [if_pos hw2]
      exact .inl (Oper.wp_mono (fun a' w' h' => ⟨h'.1, wpHL_keepL (k :: l) _ a' w' hB2 h'.2⟩) ho2)
theorem wpHL_takeA {n g al : Nat} {keeps : List Nat} {L : Array Bool → Act → World → Prop} {Lq : Act → Prop} (hsel : Region.noSelect ops = true) (hs : Region.sinkB md ops n = true) (hc : Region.chainB md ops n = true) (hn : n < ops.size)
    (hQ : ∀ c a w, ¬ Q (.panic c) a w) (hdone : ∀ listed a w, L listed a w → ∀ j ∈ Region.ready md ops listed, n ≤ j) (w : World) (hS : S w)
    (hfin : ∀ listed a, keptAB md ops g n al keeps listed = true → Lq a → wpHL P md ops Q S n L (keeps.length + 1) listed a w) :
    ∀ (l : List Nat) (listed : Array Bool) (a : Act), HeadInv md ops n listed →
    takesAB md ops g n al keeps l listed = true → wpTakeL P ops S Lq l a → wpHL P md ops Q S n L (l.length + (keeps.length + 1)) listed a w
  | [], listed, a, _, hB, h => by
    rw [List.length_nil, Nat.zero_add]
    exact hfin _ _ hB h
  | k :: l, listed, a, inv, hB, h => by
    simp only [takesAB, Bool.and_eq_true, decide_eq_true_eq] at hB
    obtain ⟨⟨⟨hkn, hr⟩, hf⟩, hB'⟩ := hB
    have hr' : k ∈ Region.ready md ops listed := by simpa using hr
    obtain ⟨o, v, h0, hy, hK⟩ := h
    rw [List.length_cons, show l.length + 1 + (keeps.length + 1) = (l.length + (keeps.length + 1)) + 1 by omega]
    exact wpHL_first h0 (Region.noSelect_spec hsel) (fun c a w h => absurd h (hQ _ _ _)) hs hc hn hkn hdone (l.length + (keeps.length + 1)) listed a w inv (Region.free_spec h0 hf) hr' hy hS
      (wpHL_takeA hsel hs hc hn hQ hdone w hS hfin l _ _ (inv.set hr' hkn) hB' hK)
end
def heldBB (md : Region.Mode) (ops : Array Oper) (takes keeps : List Nat) (al n2 : Nat) : Bool :=
  Region.noSelect ops && decide (n2 < ops.size) && decide (takes.length + (keeps.length + 1) = n2) && Region.sinkB md ops n2 && Region.chainB md ops n2 && takesAB md ops (ops.size - n2) n2 al keeps takes (Array.replicate ops.size false)
theorem wpAny_held_alloc {P : Program} {Q : Exit → Act → World → Prop} {a : Act} {w : World} {l : List Oper} (S : World → Prop) (takes keeps : List Nat) (al n2 : Nat) (hB : heldBB .any l.toArray takes keeps al n2 = true) (hS : S w)
    (h : wpTakeL P l.toArray S (fun a' => wpKeepA P l.toArray S (NormalOnly Q) al (fun a'' w'' => wpKeep P l.toArray (fun _ => True) (NormalOnly Q) (fun a w => NormalOnly Q .normal a w) (l.drop n2) a'' w'') keeps a' w) takes a) :
    wpAny P .any l.toArray (NormalOnly Q) l.toArray.size (Array.replicate l.toArray.size false) a w := by
  simp only [heldBB, Bool.and_eq_true, decide_eq_true_eq] at hB
  obtain ⟨⟨⟨⟨⟨hsel, hn'⟩, hlen⟩, hs⟩, hc⟩, htk⟩ := hB
  have hl : n2 < l.length := by simpa using hn'
  have hdl : (l.drop n2).length = l.toArray.size - n2 := by simp
  have inv0 : HeadInv .any l.toArray n2 (Array.replicate l.toArray.size false) :=
    ⟨by simp, fun j oj _ hl => (by rw [getD_replicate_false] at hl; cases hl), fun t _ ht => getD_in (by simpa using ht) (getD_replicate_false _ _)⟩
  have H := wpHL_takeA (P := P) (ops := l.toArray) (md := .any) (Q := NormalOnly Q) (S := S) (n := n2) (g := l.toArray.size - n2) (al := al) (keeps := keeps)
    (L := fun listed' a' w' => Region.seqB .any l.toArray (l.toArray.size - n2) n2 listed' = true ∧ wpKeep P l.toArray (fun _ => True) (NormalOnly Q) (fun a w => NormalOnly Q .normal a w) (l.drop n2) a' w')
    (Lq := fun a' => wpKeepA P l.toArray S (NormalOnly Q) al (fun a'' w'' => wpKeep P l.toArray (fun _ => True) (NormalOnly Q) (fun a w => NormalOnly Q .normal a w) (l.drop n2) a'' w'') keeps a' w)
    hsel hs hc hn' (fun c a w h => h) (fun listed a w hL => seqB_ready hL.1) w hS
    (fun listed a hk hq => wpHL_keepA (md := .any) (Q := NormalOnly Q) (n := n2) (g := l.toArray.size - n2) keeps listed a w hk hq)
    takes _ a inv0 htk h
  have H2 := wpAny_of_HL (g := l.toArray.size - n2) (fun listed a' w' hL => by
    have := wpAny_of_seq (md := .any) (Q' := NormalOnly Q) (l.drop n2) n2 listed a' w' (fun j => by simp [List.getElem?_drop]) (by rw [hdl]; exact hL.1) (wpList_of_keep _ _ _ hL.2)
    rwa [hdl] at this) _ _ _ _ H
  have hsz : takes.length + (keeps.length + 1) + (l.toArray.size - n2) = l.toArray.size := by
    have : l.toArray.size = l.length := by simp
    omega
  rw [hsz] at H2
  exact H2
theorem wp_held_alloc {P : Program} {id : Nat} {Q : Exit → Act → World → Prop} {a : Act} {w : World} {l : List Oper} (S : World → Prop) (takes keeps : List Nat) (al n2 : Nat) (hm : P.follows .mixedOrders = true) (hB : heldBB .any l.toArray takes keeps al n2 = true) (hS : S w.drew)
    (h : wpTakeL P l.toArray S (fun a' => wpKeepA P l.toArray S (NormalOnly Q) al (fun a'' w'' => wpKeep P l.toArray (fun _ => True) (NormalOnly Q) (fun a w => NormalOnly Q .normal a w) (l.drop n2) a'' w'') keeps a' w.drew) takes a) : (Code.region id l.toArray true).wp P Q a w :=
  wp_normalOnly (wp_region_any hm (wpAny_held_alloc S takes keeps al n2 hB hS h))
end Go.Proofs.YtbogpbjddaoeiaaGreatDoor
