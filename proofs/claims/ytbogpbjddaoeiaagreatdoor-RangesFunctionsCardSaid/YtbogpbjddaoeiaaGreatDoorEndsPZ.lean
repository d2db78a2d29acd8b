import Derived.Test.YtbogpbjddaoeiaaGreatDoorLays2Z
import Derived.Test.YtbogpbjddaoeiaaGreatDoorOfEZ
namespace Go.Proofs.YtbogpbjddaoeiaaGreatDoor
open Go.RowKit Go.Shelf Go.Sort Go.Lib
def twoT (x : RP) : List TP := [⟨x.1.1, x.2.1⟩, ⟨x.1.2, x.2.2⟩]
def endsT (L : List RP) : List TP := L.flatMap twoT
theorem endsT_append (A B : List RP) : endsT (A ++ B) = endsT A ++ endsT B := by unfold endsT; rw [List.flatMap_append]
theorem endsT_len : ∀ L : List RP, (endsT L).length = L.length * 2
  | [] => rfl
  | x :: L => by
    have := endsT_len L
    unfold endsT at *
    rw [List.flatMap_cons, List.length_append, this, List.length_cons]
    simp [twoT]; omega
theorem endsT_one (x : RP) : endsT [x] = twoT x := by unfold endsT; simp
def cellsT (l : List TP) : List Value := l.map encT
theorem cellsT_len (l : List TP) : (cellsT l).length = l.length := by unfold cellsT; rw [List.length_map]
theorem cellsT_append (a b : List TP) : cellsT (a ++ b) = cellsT a ++ cellsT b := by unfold cellsT; rw [List.map_append]
theorem slText : SliceOf 63 31 (.string ⟨#[]⟩) 1 16 := ⟨Tryz.underlying63, by kernel_rfl, rfl, by decide⟩
/-- the slice v holds these texts, in a block of texts that lies at n0 or behind -/
def TextsT (n0 : Nat) (w : World) (v : Value) (E : List TP) : Prop := ∃ p c, v = .slice p E.length c ∧ E.length ≤ c ∧ c ≤ maxLen ∧ (0 < E.length → ∃ b, p = some ⟨b, 0, none⟩ ∧ n0 ≤ b ∧ (∃ cs fz, w.heap[b]? = some (Obj.cells cs 31 fz)) ∧ ∀ i (h : i < E.length), w.cell? ⟨b, i, none⟩ = some (.string E[i].1))
/-- ends' word -/
def EndsTP (L : List RP) (w : World) (e : Ending) (w' : World) : Prop := ∃ (v : Value) (E : List TP), e = .returned v ∧ E.Pairwise (fun x y => ratV x.1 < ratV y.1) ∧ (∀ x, x ∈ E ↔ x ∈ endsT L) ∧ E.length ≤ L.length * 2 ∧ TextsT w.heap.size w' v E ∧ Below w.heap.size w w'
/-- what has been put out -/
def EnSt (L : List RP) (w : World) (ov : Value) (wr : World) : Prop := wr.ownsRow w.heap.size 31 1 ov (endsT L).length (cellsT (endsT L)) ∧ Below w.heap.size w wr
theorem EnSt.put {L : List RP} {w : World} {v' : Value} {w' : World} (x : RP) (ho : w'.ownsRow w.heap.size 31 1 v' ((endsT L).length + 2) (cellsT (endsT L) ++ [.string x.1.1, .string x.1.2])) (hb : Below w.heap.size w w') : EnSt (L ++ [x]) w v' w' := by
  refine ⟨?_, hb⟩
  rw [endsT_append, endsT_one, cellsT_append, List.length_append]
  exact ho
theorem owns_row_cells1 {w : World} {base : Nat} {e : TypeId} {n : Nat} {xs : List Value} {g cap : Nat} (h : w.ownsRow base e 1 (.slice (some ⟨g, 0, none⟩) n cap) n xs) : base ≤ g ∧ g < w.heap.size ∧ n ≤ cap ∧ cap ≤ maxLen ∧ (∃ cs, w.heap[g]? = some (Obj.cells cs e (0, 0))) ∧ ∀ (j : Nat) (u : Value), xs[j]? = some u → w.cell? ⟨g, j, none⟩ = some u ∧ w.frozen? ⟨g, j, none⟩ = false := by
  obtain ⟨hl, h | ⟨g', cap', cur, hv', hb, hg, hn, hm, hs, ht⟩⟩ := h
  · cases h.1
  · simp only [Value.slice.injEq, Option.some.injEq, Addr.mk.injEq, and_true, true_and] at hv'
    obtain ⟨rfl, rfl⟩ := hv'
    refine ⟨hb, (Array.getElem?_eq_some_iff.1 hg).1, hn, hm, ⟨cur, hg⟩, fun j u hj => ?_⟩
    have hc : cur[j]? = some u := by
      rw [← ht] at hj
      rw [List.getElem?_take] at hj
      split at hj
      · simpa using hj
      · simp at hj
    exact ⟨by simp [World.cell?, hg, hc], by simp [World.frozen?, hg]⟩
theorem holdsT_of_owns {w : World} {base : Nat} {g n cap : Nat} {E : List TP} (h : w.ownsRow base 31 1 (.slice (some ⟨g, 0, none⟩) n cap) n (cellsT E)) : Holds encT w g 0 E.toArray := by
  intro j hj
  have hj' : j < E.length := by simpa using hj
  obtain ⟨_, _, _, _, _, hc⟩ := owns_row_cells1 h
  have := hc j (encT E.toArray[j]!) (by
    rw [getElem!_pos _ j hj]
    unfold cellsT
    rw [List.getElem?_map, List.getElem?_eq_getElem hj']
    rfl)
  rw [Nat.zero_add]
  exact this
/-- what is sorted and compacted -/
theorem ends_sorted {E : List TP} {d' : Array TP} (hs : d'.size = E.length) (hp : d'.toList.Perm E) (hsort : ∀ i j, i < j → j < d'.size → ¬ ratV d'[j]!.1 < ratV d'[i]!.1) :
    (compactUpTo d' d'.size).Pairwise (fun x y => ratV x.1 < ratV y.1) ∧ (∀ x, x ∈ compactUpTo d' d'.size ↔ x ∈ E) ∧ (compactUpTo d' d'.size).length ≤ E.length := by
  obtain ⟨h1, h2, h3⟩ := compact_asc d' hsort d'.size (Nat.le_refl _)
  refine ⟨h1, fun x => ⟨fun hx => ?_, fun hx => ?_⟩, by rw [← hs]; exact compact_len _ _⟩
  · obtain ⟨j, hj, rfl⟩ := h2 x hx
    refine hp.mem_iff.1 ?_
    rw [getElem!_pos d' j hj]
    simp
  · have hx' : x ∈ d'.toList := hp.mem_iff.2 hx
    obtain ⟨j, hj, e⟩ := List.getElem_of_mem hx'
    have hj' : j < d'.size := by simpa using hj
    have := h3 j hj'
    rw [getElem!_pos d' j hj'] at this
    rw [← e]
    simpa using this
end Go.Proofs.YtbogpbjddaoeiaaGreatDoor
