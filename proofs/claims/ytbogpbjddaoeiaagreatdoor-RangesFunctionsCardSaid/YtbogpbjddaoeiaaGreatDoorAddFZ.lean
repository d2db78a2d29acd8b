import Derived.Test.YtbogpbjddaoeiaaGreatDoorPlainQZ
import Derived.Test.YtbogpbjddaoeiaaGreatDoorAddsPZ
namespace Go.Proofs.YtbogpbjddaoeiaaGreatDoor
open Go.RowKit Go.Shelf
open Go.Lib (decDigits itoa nDigits)
/-- a slice of texts comes back, and no error -/
def OkList (L : List Pair) (w : World) (e : Ending) (w' : World) : Prop := ∃ v, e = .returned (.tuple #[v, .int .i64 0]) ∧ Pairs w' v L ∧ Below w.heap.size w w'
theorem rps_of {L : List Pair} (h : AllOk L) : ∃ Z : List RP, Z.map (·.1) = L := by
  induction L with
  | nil => exact ⟨[], rfl⟩
  | cons p L ih =>
    obtain ⟨Z, hZ⟩ := ih fun q hq => h q (List.mem_cons_of_mem _ hq)
    exact ⟨⟨p, h p (List.mem_cons_self ..)⟩ :: Z, by rw [List.map_cons, hZ]⟩
/-- what is known of a description's knots -/
structure Fn (Q : List QP) : Prop where
  fr : FrAll Q
  hv : Halved Q
  asc : AscQ Q
  pos : 0 < Q.length
  len : Q.length ≤ 8
theorem Fn.of {D : List Duo} (h : ∀ d ∈ D, okDuo d) : Fn (ptsQ D) := ⟨ptsQ_fr h, halved_ptsQ h, ptsQ_asc D, (ptsQ_len D).1, (ptsQ_len D).2⟩
theorem Fn.rats {Q : List QP} (h : Fn Q) : rats (Q.map textP) = Q := texts_rats h.fr
theorem Fn.err {Q : List QP} (h : Fn Q) : knotsErr (Q.map textP) = 0 := texts_err h.fr h.asc h.pos (by have := h.len; omega)
theorem add_fn {F G : List QP} (hF : Fn F) (hG : Fn G) (u1 u2 : Value) (w : World) (hw : Good w) (h1 : Pairs w u1 (F.map textP)) (h2 : Pairs w u2 (G.map textP)) :
    Calls Tryz.prog 51 #[u1, u2] w (OkList ((addF F G).map textP) w) := by
  obtain ⟨ZA, eA⟩ := rps_of (texts_ok hF.fr)
  obtain ⟨ZB, eB⟩ := rps_of (texts_ok hG.fr)
  have lA : ZA.length = F.length := by have := congrArg List.length eA; rwa [List.length_map, List.length_map] at this
  have lB : ZB.length = G.length := by have := congrArg List.length eB; rwa [List.length_map, List.length_map] at this
  have := hF.len
  have := hG.len
  refine (ranges_Add u1 u2 ZA ZB w hw (by rw [eA]; exact h1) (by rw [eB]; exact h2) (by rw [eA]; exact hF.err) (by rw [eB]; exact hG.err) (by omega) (add_right hF.hv hG.hv hF.asc hG.asc hF.pos hG.pos eA eB hF.rats hG.rats)).mono ?_
  rintro e w' ⟨v, E, he, hE, hm, hp, hb⟩
  rw [add_same hF.asc hG.asc eA eB hF.rats hG.rats hE hm] at hp
  exact ⟨v, he, hp, hb⟩
theorem Fn.sum {F G : List QP} (hF : Fn F) (hG : Fn G) : FrW (addF F G) ∧ AscQ (addF F G) ∧ 0 < (addF F G).length ∧ (addF F G).length ≤ 16 :=
  ⟨addF_fr hF.hv hG.hv hF.asc hG.asc hF.pos hG.pos, addF_asc hF.asc hG.asc, addF_pos hF.asc hG.asc hF.pos, by have := addF_len hF.asc hG.asc; have := hF.len; have := hG.len; omega⟩
theorem simp_fn {S : List QP} (hS : FrW S) (aS : AscQ S) (l0 : 0 < S.length) (l1 : S.length ≤ 16) (u : Value) (w : World) (hw : Good w) (h : Pairs w u (S.map textP)) :
    Calls Tryz.prog 52 #[u] w (OkList ((simpG (slopeQ S) S).map textP) w) := by
  refine (ranges_Simplify u _ w hw h (texts_errW hS aS l0 (by omega))).mono ?_
  rintro e w' ⟨v, he, hp, hb⟩
  have e1 : slopeV (S.map textP) = slopeQ S := by funext n; rw [slopeV_rats, texts_ratsW hS]
  rw [e1, simpG_map] at hp
  exact ⟨v, he, hp, hb⟩
theorem simpG_fr {S : List QP} (hS : FrW S) (s : Nat → Rat) : FrW (simpG s S) := fun p hp => hS p (simpG_mem p hp)
end Go.Proofs.YtbogpbjddaoeiaaGreatDoor
