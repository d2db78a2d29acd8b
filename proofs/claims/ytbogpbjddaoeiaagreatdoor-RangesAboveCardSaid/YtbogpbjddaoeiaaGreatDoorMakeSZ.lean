import Derived.Test.YtbogpbjddaoeiaaGreatDoorOfEZ
import Derived.Test.YtbogpbjddaoeiaaGreatDoorMergeQZ
namespace Go.Proofs.YtbogpbjddaoeiaaGreatDoor
open Go.RowKit Go.Shelf
open Go.Lib (decDigits itoa nDigits)
theorem make_small {D : List Duo} (hok : ∀ d ∈ D, okDuo d) {Z : List ZP} (h : IsSet (setOf (endsZ D)) Z) : (∀ p ∈ Z, -128 ≤ p.1 ∧ p.1 < p.2 ∧ p.2 ≤ 139) ∧ Z.length ≤ 134 := by
  have key : ∀ p ∈ Z, -128 ≤ p.1 ∧ p.1 < p.2 ∧ p.2 ≤ 139 := by
    intro p hp
    have hlt := h.1.1 p hp
    obtain ⟨j, e, hj, _⟩ := (h.2 p.1).1 ⟨p, hp, Int.le_refl _, hlt⟩
    obtain ⟨j2, e2, hj2, _⟩ := (h.2 (p.2 - 1)).1 ⟨p, hp, by omega, by omega⟩
    unfold setOf at hj hj2
    obtain ⟨q, hq, q1, q2⟩ := covB_iff.1 hj
    obtain ⟨r, hr, r1, r2⟩ := covB_iff.1 hj2
    have := endsZ_ok hok q hq
    have := endsZ_ok hok r hr
    omega
  refine ⟨key, ?_⟩
  have := norm_count (-128) 139 Z (by decide) h.1 fun p hp => ⟨(key p hp).1, (key p hp).2.2⟩
  omega
/-- a normal list's texts are a right union -/
theorem half_check {Z : List ZP} (hs : SmallZ Z) (hn : Norm Z) (hl : Z.length ≤ 200) : checkErr (Z.map halfP) = 0 := by
  refine checkErr_zero (by rw [List.length_map]; exact hl) (fun p hp => ?_) ?_
  · obtain ⟨z, hz, rfl⟩ := List.mem_map.1 hp
    obtain ⟨a, b, c, d⟩ := halfP_ok (hs z hz)
    exact partErr_zero a b (by rw [c, d]; exact hf_lt.2 (hn.1 z hz))
  · rw [rats_halfP hs, List.pairwise_map]
    exact hn.2.imp fun hxy => hf_lt.2 hxy
theorem any_take {L : List Pair} {k : Nat} (hk : k < L.length) (q : Rat) : (L.take (k + 1)).any (inP q) = ((L.take k).any (inP q) || inP q L[k]) := by
  rw [List.take_succ_eq_append_getElem hk, List.any_append]; simp
end Go.Proofs.YtbogpbjddaoeiaaGreatDoor
