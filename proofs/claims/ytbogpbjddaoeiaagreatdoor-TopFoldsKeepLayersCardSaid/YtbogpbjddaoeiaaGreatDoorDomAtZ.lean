import Derived.Test.YtbogpbjddaoeiaaGreatDoorKnk4Z
namespace Go.Proofs.YtbogpbjddaoeiaaGreatDoor
open Go.RowKit
/-- a round's frame: the loop's two parameters, and its two variables -/
def AxD (a : Act) (B p1 p2 j1 j2 : Nat) (s : QP) (D : List (Rat × Rat)) (k : Nat) (a' : Act) (W : World) : Prop :=
  ∃ Bx, B ≤ Bx ∧ W.heap[Bx]? = some (.cells (domC s D k) 161 (0, 0)) ∧ a' = { tmps := (((a.tmps.setIfInBounds p1 (.int .i64 (k : Int))).setIfInBounds p2 (.agg (domC s D k))).setIfInBounds j1 (.int .i64 (k : Int))).setIfInBounds j2 (.pointer (some ⟨Bx, 0, none⟩)), defers := [] }
theorem wpIn_rangeFunc_dom {F : Fence} {n : Nat} {P : Program} {g : Operand} {ps : Array Tmp} {assign body : Code} {Q : Exit → Act → World → Prop} {a : Act} {w : World} (p1 p2 j1 j2 : Nat) (s : QP) (D : List (Rat × Rat))
    (hro : F.round = none) (h1 : 1 ≤ n) {gf : Nat} {lb : Array Value} (hg : a.eval g = .func (.func gf) #[] lb) (hFg : F.fn gf) (eg : ∀ args w, (callFunc gf args).run P w = .ok (.enter gf args) w)
    {Kp : World → World → Prop} {w0 : World} {T : TypeId} (hseq : SeqAt T F (n - 1) P gf lb (domE s D) Kp (List.range D.length) w0)
    (hKt : ∀ {A B C : World}, Kp A B → Kp B C → Kp A C) (hKb : ∀ (W : World) (l : Nat) (o o' : Obj), w.heap.size ≤ l → W.heap[l]? = some o → o.isCells = false → o.isWalk = false → Kp W (W.putObj l o')) (hb0 : Below w0.heap.size w0 w) (hps : ∀ k, (domE s D k).size = ps.size)
    (I : Nat → World → Prop) (Ix : Code → Nat → World → Prop) (hI : OwnT T w.heap.size I) (hIx : ∀ c, OwnT T w.heap.size (Ix c)) (h0 : I 0 w)
    (hassign : ∀ (l k : Nat) (_ : k < D.length) (W : World) (K : Act → World → Prop), I k W → (∀ a' W', KeepsFrom w.heap.size W W' → Kp W W' → I k W' → AxD a w.heap.size p1 p2 j1 j2 s D k a' W' → K a' W') →
      assign.wpIn (F.inRound l) (n - 1 - 1) P (Exit.then K (fun _ _ _ => False)) { tmps := (ps.zip (domE s D k)).foldl (fun t (p, v) => t.setIfInBounds p v) a.tmps, defers := [] } W)
    (hbody : ∀ (l k : Nat) (_ : k < D.length) (a' : Act) (W : World), w.heap.size ≤ l → I k W → AxD a w.heap.size p1 p2 j1 j2 s D k a' W → body.wpIn (F.inRound l) (n - 1 - 1) P (RoundAt w.heap.size Kp I Ix k W) a' W)
    (hdone : ∀ (Dk : Nat) (W : World), w.heap.size ≤ Dk → I D.length W → W.heap[Dk]? = some (.deferred (some [])) → Q .normal { a with defers := { target := .collected Dk, args := #[] } :: a.defers } W)
    (hstop : ∀ (Dk : Nat) (c : Code) (k : Nat) (W : World), w.heap.size ≤ Dk → k < D.length → Ix c k W → W.heap[Dk]? = some (.deferred (some [])) → c.wpIn F n P Q { a with defers := { target := .collected Dk, args := #[] } :: a.defers } W) :
    (Code.rangeFunc g ps assign body).wpIn F n P Q a w := by
  have hl : (List.range D.length).length = D.length := List.length_range
  refine wpIn_rangeFunc_at (Q := Q) hro h1 hg hFg eg hseq hKt hKb hb0 hps I Ix hI hIx h0 (AxD a w.heap.size p1 p2 j1 j2 s D)
    (fun k a' _ X Y row hs hg hr => by obtain ⟨Bx, h1, h2, h3⟩ := hs; exact ⟨Bx, h1, cells_kept hg hr h2, h3⟩) ?_ ?_ ?_ ?_
  · intro l k hk W K hi hK
    rw [List.getElem_range]
    exact hassign l k (by omega) W K hi hK
  · intro l k hk a' W hl' _ hi hx
    exact hbody l k (by omega) a' W hl' hi hx
  · intro Dk W hD hi hK
    rw [hl] at hi
    exact hdone Dk W hD hi hK
  · intro Dk c k W hD hk hi hK
    exact hstop Dk c k W hD (by omega) hi hK
end Go.Proofs.YtbogpbjddaoeiaaGreatDoor
