import Derived.Test.YtbogpbjddaoeiaaGreatDoorPlainQZ
import Derived.Test.YtbogpbjddaoeiaaGreatDoorLawKZ
import Derived.Test.YtbogpbjddaoeiaaGreatDoorEqZ
import Derived.Test.YtbogpbjddaoeiaaGreatDoorOfEZ
import Derived.Test.YtbogpbjddaoeiaaGreatDoorMergeQZ
namespace Go.Proofs.YtbogpbjddaoeiaaGreatDoor
open Go.RowKit Go.Shelf
open Go.Lib (decDigits itoa nDigits)
/-- the law's own error, after k intervals -/
def MkSt (L : List Pair) (k : Nat) (W : Int) : Prop := k ≤ L.length ∧ ((W = 0 ∧ ofErrs L = ofErr (L.drop k)) ∨ (W ≠ 0 ∧ ofErrs L = W))
theorem MkSt.zero {L : List Pair} (h : L.length ≤ 200) : MkSt L 0 0 := ⟨Nat.zero_le _, .inl ⟨rfl, by unfold ofErrs; rw [if_neg (by omega)]; rfl⟩⟩
theorem MkSt.long {L : List Pair} (h : 200 < L.length) : MkSt L 0 4 := ⟨Nat.zero_le _, .inr ⟨by decide, by unfold ofErrs; rw [if_pos h]⟩⟩
theorem MkSt.bad {L : List Pair} {k : Nat} {e : Int} (h : MkSt L k 0) (hk : k < L.length) (he : partErr L[k].1 L[k].2 = e) (h0 : e ≠ 0) : MkSt L (k + 1) e := by
  refine ⟨hk, .inr ⟨h0, ?_⟩⟩
  rcases h.2 with ⟨_, h2⟩ | ⟨h1, _⟩
  · rw [h2, List.drop_eq_getElem_cons hk]
    show (if partErr L[k].1 L[k].2 = 0 then ofErr (L.drop (k + 1)) else partErr L[k].1 L[k].2) = e
    rw [he, if_neg h0]
  · exact (h1 rfl).elim
theorem MkSt.good {L : List Pair} {k : Nat} (h : MkSt L k 0) (hk : k < L.length) (he : partErr L[k].1 L[k].2 = 0) : MkSt L (k + 1) 0 := by
  refine ⟨hk, .inl ⟨rfl, ?_⟩⟩
  rcases h.2 with ⟨_, h2⟩ | ⟨h1, _⟩
  · rw [h2, List.drop_eq_getElem_cons hk]
    show (if partErr L[k].1 L[k].2 = 0 then ofErr (L.drop (k + 1)) else partErr L[k].1 L[k].2) = _
    rw [he, if_pos rfl]
  · exact (h1 rfl).elim
theorem MkSt.done {L : List Pair} {k : Nat} {W : Int} (h : MkSt L k W) (hx : ¬ (k < L.length ∧ W = 0)) : W = ofErrs L := by
  rcases h.2 with ⟨h1, h2⟩ | ⟨_, h2⟩
  · have : k = L.length := by have := h.1; omega
    rw [h2, this, List.drop_length, h1]; rfl
  · exact h2.symm
theorem merged_check {L : List Pair} {R M : List RP} (he : ofErrs L = 0) (hR : R.map (·.1) = L) (hp : M.Perm R) : checkErr ((mergeP M).map (·.1)) = 0 ∧ SzOk ((mergeP M).map (·.1)) := by
  have hl : L.length ≤ 200 := by
    apply Decidable.byContradiction
    intro h
    unfold ofErrs at he
    rw [if_pos (by omega)] at he
    cases he
  have he' : ofErr L = 0 := by unfold ofErrs at he; rw [if_neg (by omega)] at he; exact he
  have hML : M.length = L.length := by rw [hp.length_eq, ← hR, List.length_map]
  have hn : NormQ (rats ((mergeP M).map (·.1))) := by
    rw [mergeP_rats]
    refine mergeQ_norm fun p hp' => ?_
    unfold rats at hp'
    rw [List.map_map] at hp'
    obtain ⟨x, hx, rfl⟩ := List.mem_map.1 hp'
    have hxl : x.1 ∈ L := by rw [← hR]; exact List.mem_map.2 ⟨x, hp.mem_iff.1 hx, rfl⟩
    exact (partErr_ok (ofErr_ok L he' _ hxl)).2.2
  have hlen : ((mergeP M).map (·.1)).length ≤ 200 := by
    rw [List.length_map]
    have h1 := accP_len M M.length
    unfold accP at h1
    rw [List.take_length] at h1
    unfold mergeP
    rw [List.length_reverse]
    omega
  have hok : ∀ p ∈ (mergeP M).map (·.1), ratB p.1.data.toList = true ∧ ratB p.2.data.toList = true := fun p hp' => by
    obtain ⟨x, _, rfl⟩ := List.mem_map.1 hp'
    exact x.2
  refine ⟨checkErr_zero hlen (fun p hp' => ?_) hn.2, szOk_of hok⟩
  obtain ⟨b1, b2⟩ := hok p hp'
  exact partErr_zero b1 b2 (hn.1 (ratV p.1, ratV p.2) (List.mem_map.2 ⟨p, hp', rfl⟩))
def RetT (w : World) (e : Ending) (w' : World) : Prop := e = .returned (.bool true) ∧ Below w.heap.size w w'
end Go.Proofs.YtbogpbjddaoeiaaGreatDoor
