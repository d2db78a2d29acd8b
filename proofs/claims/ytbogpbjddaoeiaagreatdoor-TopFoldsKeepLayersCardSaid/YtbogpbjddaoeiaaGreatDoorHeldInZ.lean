import Derived.Test.YtbogpbjddaoeiaaGreatDoorStillZ
import Derived.Deep.RegionHeld3
import Derived.RangeFuncCalls
namespace Go.Proofs.YtbogpbjddaoeiaaGreatDoor
open Go
def noDefer : Op → Bool
  | .defer _ => false
  | _ => true
theorem rowsIn_wide {n l : Nat} {P : Program} {row : String} {args : Array Value} {w : World} {R : Value → World → Prop} (h : Rows P row args w R) : RowsIn (Fence.wide.inRound l) n P row args w R := by
  intro c cs _
  obtain ⟨v, w', hr, hs⟩ := h c cs
  exact ⟨v, w', hr, stepsIn_wide.2 hs⟩
theorem wpIn_of_wp_wide {l n : Nat} {P : Program} {o : Oper} {a : Act} {w : World} {K K' : Act → World → Prop} {Q : Exit → Act → World → Prop} (hp : noDefer o.op = true) (hK : ∀ a w, K a w → K' a w)
    (h : o.wp P a w K (NormalOnly Q)) : o.wpIn (Fence.wide.inRound l) n P a w K' Q := by
  refine ⟨fun f hf => trivial, ?_⟩
  rw [Oper.semAt_eq _ _ _ (fun c hc => by rw [hc] at hp; simp [noDefer] at hp)]
  unfold Oper.wp at h
  generalize (execOp a.eval o).run P w = r at h
  cases r with
  | ok x w' =>
    cases x with
    | value v => exact hK _ _ h
    | skip => exact hK _ _ h
    | defer d => exact hK _ _ h
    | enter f args =>
      refine ⟨fun h => (by simp [Fence.wide] at h), CallsIn.inRound l (callsIn_wide.2 (Calls.mono h ?_))⟩
      intro e w'' he
      cases e with
      | returned v => exact hK _ _ he
      | panicked ch => exact he.elim
      | outgrown => obtain ⟨_, _, he⟩ := he; exact he.elim
    | row row args => exact ⟨fun h => (by simp [Fence.wide] at h), (rowsIn_wide h).mono fun v w' h => hK _ _ h⟩
    | _ => exact h.elim
  | halt x w' =>
    cases x <;> exact h.elim
theorem wpOpsIn_of_wpOps_wide {l n : Nat} {P : Program} {ops : Array Oper} {Q : Exit → Act → World → Prop} (hp : (ops.toList.all fun o => noDefer o.op) = true) :
    ∀ (is : List Nat) (a : Act) (w : World), wpOps P ops (NormalOnly Q) is a w → wpOpsIn (Fence.wide.inRound l) n P ops Q is a w := by
  intro is
  induction is with
  | nil => intro a w h; exact h
  | cons i rest ih =>
    intro a w h
    unfold wpOps at h
    unfold wpOpsIn
    cases hi : ops[i]? with
    | none => simp only [hi] at h; exact ih _ _ h
    | some o =>
      simp only [hi] at h ⊢
      have ho : noDefer o.op = true := by
        have := List.all_eq_true.1 hp o (by
          obtain ⟨h1, h2⟩ := Array.getElem?_eq_some_iff.1 hi
          rw [← h2]; exact Array.getElem_mem_toList h1)
        exact this
      split at h
      · rename_i hw
        rw [if_pos hw]
        rcases h with h | ⟨_, ⟨_, _, h⟩⟩
        · exact wpIn_of_wp_wide ho (fun a w => ih a w) h
        · exact h.elim
      · rename_i hw
        rw [if_neg hw]
        exact ⟨fun f hf => trivial, ih _ _ h⟩
/-- The law: the region's walk with a held condition serves within a round. -/
theorem wpIn_region_held_wide {l n : Nat} {P : Program} {id : Nat} {Q : Exit → Act → World → Prop} {a : Act} {w : World} {ops : Array Oper} (S : World → Prop) (hm : P.follows .mixedOrders = true) (hp : (ops.toList.all fun o => noDefer o.op) = true) (hS : S w.drew)
    (h : S w.drew → wpAnyH P .any ops (NormalOnly Q) S ops.size (Array.replicate ops.size false) a w.drew) : (Code.region id ops true).wpIn (Fence.wide.inRound l) n P Q a w := by
  refine wpIn_region_draw fun t => ?_
  refine wpOpsIn_of_wpOps_wide hp _ _ _ ?_
  simp only [Region.schedule, hm, Bool.true_or, if_true]
  exact wpAny_sound ops.size t _ a _ (wpAny_of_held _ _ _ _ (h hS))
/-- The law: n1 operations that yield their values in every world that meets S; then, up to n2, in their own order, operations (calls too) behind which S holds; then the last ones. -/
theorem wpIn_held_tail_wide {lr nn : Nat} {P : Program} {id : Nat} {Q : Exit → Act → World → Prop} {a : Act} {w : World} {l : List Oper} (S : World → Prop) (n1 n2 : Nat) (hm : P.follows .mixedOrders = true) (hn : n1 ≤ n2)
    (hB : heldB .any l.toArray n1 n2 = true) (hp : (l.all fun o => noDefer o.op) = true) (hS : S w.drew)
    (h : wpTake P l.toArray S (fun a' => wpKeep P l.toArray S (NormalOnly Q) (fun a'' w'' => wpKeep P l.toArray (fun _ => True) (NormalOnly Q) (fun a w => NormalOnly Q .normal a w) (l.drop n2) a'' w'') ((l.take n2).drop n1) a' w.drew) (l.take n1) a) : (Code.region id l.toArray true).wpIn (Fence.wide.inRound lr) nn P Q a w := by
  refine wpIn_region_draw fun t => ?_
  refine wpOpsIn_of_wpOps_wide (by simpa using hp) _ _ _ ?_
  simp only [Region.schedule, hm, Bool.true_or, if_true]
  exact wpAny_sound l.toArray.size t _ a _ (wpAny_held_tail S n1 n2 hn hB hS h)
end Go.Proofs.YtbogpbjddaoeiaaGreatDoor
namespace Go.Proofs.YtbogpbjddaoeiaaGreatDoor
open Go
section
variable {P : Program} {ops : Array Oper} {Q : Exit → Act → World → Prop} {md : Region.Mode} {S : World → Prop}
/-- Operations, by number, that yield their values in every world that meets S. -/
def wpTakeL (P : Program) (ops : Array Oper) (S : World → Prop) (Lq : Act → Prop) : List Nat → Act → Prop
  | [], a => Lq a
  | i :: rest, a => ∃ o v, ops[i]? = some o ∧ YieldsIf P ops S o v a ∧ wpTakeL P ops S Lq rest (a.put o.dst v)
/-- Operations, by number, S behind each. -/
def wpKeepL (P : Program) (ops : Array Oper) (S : World → Prop) (Q : Exit → Act → World → Prop) (Lq : Act → World → Prop) : List Nat → Act → World → Prop
  | [], a, w => Lq a w
  | i :: rest, a, w => ∃ o, ops[i]? = some o ∧ Region.wanted o (yielded ops a.tmps) = true ∧ o.wp P a w (fun a' w' => S w' ∧ wpKeepL P ops S Q Lq rest a' w') Q
def keptLB (md : Region.Mode) (ops : Array Oper) (g n : Nat) : List Nat → Array Bool → Bool
  | [], listed => Region.seqB md ops g n listed
  | k :: rest, listed => decide (k < n) && decide (Region.ready md ops listed = [k]) && keptLB md ops g n rest (listed.setIfInBounds k true)
def takesLB (md : Region.Mode) (ops : Array Oper) (g n : Nat) (keeps : List Nat) : List Nat → Array Bool → Bool
  | [], listed => keptLB md ops g n keeps listed
  | k :: rest, listed => decide (k < n) && (Region.ready md ops listed).contains k && Region.free md ops listed k && takesLB md ops g n keeps rest (listed.setIfInBounds k true)
theorem wpTakeL_step {Lq : Act → Prop} {a : Act} {i : Nat} {rest : List Nat} {o : Oper} (hi : ops[i]? = some o) (v : Value) (hw : Region.wanted o (yielded ops a.tmps) = true) (hv : ∀ w, S w → (execOp a.eval o).run P w = .ok (.value v) w)
    (h : wpTakeL P ops S Lq rest (a.put o.dst v)) : wpTakeL P ops S Lq (i :: rest) a := ⟨o, v, hi, .inl ⟨hw, hv⟩, h⟩
theorem wpKeepL_step {Lq : Act → World → Prop} {a : Act} {w : World} {i : Nat} {rest : List Nat} {o : Oper} (hi : ops[i]? = some o) (hw : Region.wanted o (yielded ops a.tmps) = true)
    (h : ∀ K : Act → World → Prop, (∀ a w, S w ∧ wpKeepL P ops S Q Lq rest a w → K a w) → o.wp P a w K Q) : wpKeepL P ops S Q Lq (i :: rest) a w := ⟨o, hi, hw, h _ fun _ _ h => h⟩
theorem wpHL_keepL {n g : Nat} {Lq : Act → World → Prop} : ∀ (l : List Nat) (listed : Array Bool) (a : Act) (w : World), keptLB md ops g n l listed = true → wpKeepL P ops S Q Lq l a w →
    wpHL P md ops Q S n (fun listed' a' w' => Region.seqB md ops g n listed' = true ∧ Lq a' w') l.length listed a w
  | [], _, _, _, hB, h => ⟨hB, h⟩
  | k :: l, listed, a, w, hB, h => by
    simp only [keptLB, Bool.and_eq_true, decide_eq_true_eq] at hB
    obtain ⟨⟨hkn, hr⟩, hB'⟩ := hB
    obtain ⟨o, h0, hw, ho⟩ := h
    refine ⟨by rw [hr]; simp, fun i hi => ?_⟩
    rw [hr] at hi
    have hik : i = k := by simpa using hi
    subst hik
    refine ⟨hkn, ?_⟩
    unfold wpOp
    simp only [h0]
    rw [if_pos hw]
    exact .inl (Oper.wp_mono (fun a' w' h' => ⟨h'.1, wpHL_keepL l _ a' w' hB' h'.2⟩) ho)
theorem wpHL_takeL {n g : Nat} {keeps : List Nat} {L : Array Bool → Act → World → Prop} {Lq : Act → Prop} (hsel : Region.noSelect ops = true) (hs : Region.sinkB md ops n = true) (hc : Region.chainB md ops n = true) (hn : n < ops.size)
    (hQ : ∀ c a w, ¬ Q (.panic c) a w) (hdone : ∀ listed a w, L listed a w → ∀ j ∈ Region.ready md ops listed, n ≤ j) (w : World) (hS : S w)
    (hfin : ∀ listed a, keptLB md ops g n keeps listed = true → Lq a → wpHL P md ops Q S n L keeps.length listed a w) :
    ∀ (l : List Nat) (listed : Array Bool) (a : Act), HeadInv md ops n listed →
    takesLB md ops g n keeps l listed = true → wpTakeL P ops S Lq l a → wpHL P md ops Q S n L (l.length + keeps.length) listed a w
  | [], listed, a, _, hB, h => by
    rw [List.length_nil, Nat.zero_add]
    exact hfin _ _ hB h
  | k :: l, listed, a, inv, hB, h => by
    simp only [takesLB, Bool.and_eq_true, decide_eq_true_eq] at hB
    obtain ⟨⟨⟨hkn, hr⟩, hf⟩, hB'⟩ := hB
    have hr' : k ∈ Region.ready md ops listed := by simpa using hr
    obtain ⟨o, v, h0, hy, hK⟩ := h
    rw [List.length_cons, show l.length + 1 + keeps.length = (l.length + keeps.length) + 1 by omega]
    exact wpHL_first h0 (Region.noSelect_spec hsel) (fun c a w h => absurd h (hQ _ _ _)) hs hc hn hkn hdone (l.length + keeps.length) listed a w inv (Region.free_spec h0 hf) hr' hy hS
      (wpHL_takeL hsel hs hc hn hQ hdone w hS hfin l _ _ (inv.set hr' hkn) hB' hK)
end
def heldLB (md : Region.Mode) (ops : Array Oper) (takes keeps : List Nat) (n2 : Nat) : Bool :=
  Region.noSelect ops && decide (n2 < ops.size) && decide (takes.length + keeps.length = n2) && Region.sinkB md ops n2 && Region.chainB md ops n2 && takesLB md ops (ops.size - n2) n2 keeps takes (Array.replicate ops.size false)
theorem wpAny_held_list {P : Program} {Q : Exit → Act → World → Prop} {a : Act} {w : World} {l : List Oper} (S : World → Prop) (takes keeps : List Nat) (n2 : Nat) (hB : heldLB .any l.toArray takes keeps n2 = true) (hS : S w)
    (h : wpTakeL P l.toArray S (fun a' => wpKeepL P l.toArray S (NormalOnly Q) (fun a'' w'' => wpKeep P l.toArray (fun _ => True) (NormalOnly Q) (fun a w => NormalOnly Q .normal a w) (l.drop n2) a'' w'') keeps a' w) takes a) :
    wpAny P .any l.toArray (NormalOnly Q) l.toArray.size (Array.replicate l.toArray.size false) a w := by
  simp only [heldLB, Bool.and_eq_true, decide_eq_true_eq] at hB
  obtain ⟨⟨⟨⟨⟨hsel, hn'⟩, hlen⟩, hs⟩, hc⟩, htk⟩ := hB
  have hl : n2 < l.length := by simpa using hn'
  have hdl : (l.drop n2).length = l.toArray.size - n2 := by simp
  have inv0 : HeadInv .any l.toArray n2 (Array.replicate l.toArray.size false) :=
    ⟨by simp, fun j oj _ hl => (by rw [getD_replicate_false] at hl; cases hl), fun t _ ht => getD_in (by simpa using ht) (getD_replicate_false _ _)⟩
  have H := wpHL_takeL (P := P) (ops := l.toArray) (md := .any) (Q := NormalOnly Q) (S := S) (n := n2) (g := l.toArray.size - n2) (keeps := keeps)
    (L := fun listed' a' w' => Region.seqB .any l.toArray (l.toArray.size - n2) n2 listed' = true ∧ wpKeep P l.toArray (fun _ => True) (NormalOnly Q) (fun a w => NormalOnly Q .normal a w) (l.drop n2) a' w')
    (Lq := fun a' => wpKeepL P l.toArray S (NormalOnly Q) (fun a'' w'' => wpKeep P l.toArray (fun _ => True) (NormalOnly Q) (fun a w => NormalOnly Q .normal a w) (l.drop n2) a'' w'') keeps a' w)
    hsel hs hc hn' (fun c a w h => h) (fun listed a w hL => seqB_ready hL.1) w hS
    (fun listed a hk hq => wpHL_keepL (md := .any) (Q := NormalOnly Q) (n := n2) (g := l.toArray.size - n2) keeps listed a w hk hq)
    takes _ a inv0 htk h
  have H2 := wpAny_of_HL (g := l.toArray.size - n2) (fun listed a' w' hL => by
    have := wpAny_of_seq (md := .any) (Q' := NormalOnly Q) (l.drop n2) n2 listed a' w' (fun j => by simp [List.getElem?_drop]) (by rw [hdl]; exact hL.1) (wpList_of_keep _ _ _ hL.2)
    rwa [hdl] at this) _ _ _ _ H
  have hsz : takes.length + keeps.length + (l.toArray.size - n2) = l.toArray.size := by
    have : l.toArray.size = l.length := by simp
    omega
  rw [hsz] at H2
  exact H2
theorem wp_held_list {P : Program} {id : Nat} {Q : Exit → Act → World → Prop} {a : Act} {w : World} {l : List Oper} (S : World → Prop) (takes keeps : List Nat) (n2 : Nat) (hm : P.follows .mixedOrders = true) (hB : heldLB .any l.toArray takes keeps n2 = true) (hS : S w.drew)
    (h : wpTakeL P l.toArray S (fun a' => wpKeepL P l.toArray S (NormalOnly Q) (fun a'' w'' => wpKeep P l.toArray (fun _ => True) (NormalOnly Q) (fun a w => NormalOnly Q .normal a w) (l.drop n2) a'' w'') keeps a' w.drew) takes a) : (Code.region id l.toArray true).wp P Q a w :=
  wp_normalOnly (wp_region_any hm (wpAny_held_list S takes keeps n2 hB hS h))
end Go.Proofs.YtbogpbjddaoeiaaGreatDoor
