import Derived.Test.YtbogpbjddaoeiaaGreatDoorMakes0Z
namespace Go.Proofs.YtbogpbjddaoeiaaGreatDoor
open Go.RowKit Go.Shelf
open Go.Lib (decDigits itoa nDigits)
set_option maxRecDepth 100000 in
set_option maxHeartbeats 16000000 in
theorem makes_long (hT : NeqT 33) (v u : Value) (L : List Pair) (D : List Duo) (w : World) (hw : Good w) (hv : Pairs w v L) (hu : Duos w u D) (h1 : shortB L = true) (h2 : 200 < L.length) :
    Calls Tryz.prog 3 #[v, u] w (RetT w) := by
  have HKN := Lib.hid (fun w' (hb : Below w.heap.size w w') => law_known w' (hw.below hb))
  have HS1 := Lib.hid (fun w' (hb : Below w.heap.size w w') => law_short v L w' (hv.below hb))
  have H1 := Lib.hid h1
  have hsz := shortB_sz h1
  have hok := hu.ok
  have HOF := Lib.hid (fun w' (hb : Below w.heap.size w w') => of_any v L w' (hw.below hb) (hv.below hb) hsz)
  have HCK := Lib.hid (fun w' u' (R M : List RP) (hg : Good w') (he : ofErrs L = 0) (hR : R.map (·.1) = L) (hp : M.Perm R) (h : Pairs w' u' ((mergeP M).map (·.1))) => (by
    obtain ⟨e1, e2⟩ := merged_check he hR hp
    have := ranges_Check u' _ w' hg h e2
    rw [e1] at this
    exact this : Calls Tryz.prog 20 #[u'] w' fun e w'' => e = .returned (.int .i64 0) ∧ Below w'.heap.size w' w''))
  have HEN := Lib.hid (fun w' (hb : Below w.heap.size w w') => law_ends u D w' (hu.below hb))
  have hE : ∀ p ∈ endsZ D, -300 ≤ p.1 ∧ p.1 < p.2 ∧ p.2 ≤ 300 := fun p hp => by have := endsZ_ok hok p hp; omega
  have hEl : (endsZ D).length ≤ 8 := by rw [endsZ_len]; omega
  have HPA := Lib.hid (fun w' u' (h : Zees w' u' (endsZ D)) => law_parts u' (endsZ D) w' h (fun p hp => by have := hE p hp; omega) (by omega))
  have HOH := Lib.hid (fun w' u' (hg : Good w') (h : Pairs w' u' ((endsZ D).map halfP)) => of_half u' (endsZ D) w' hg h hE (by omega))
  have HMA := Lib.hid (fun w' (hb : Below w.heap.size w w') => law_Make u D w' (hu.below hb))
  have HSA := Lib.hid (fun w' u1 u2 (C Z : List ZP) (h1 : Pairs w' u1 (C.map halfP)) (h2 : Pairs w' u2 (Z.map halfP)) (s1 : IsSet (setOf (endsZ D)) C) (s2 : IsSet (setOf (endsZ D)) Z) => (by
    have := law_same hT u1 u2 _ _ w' h1 h2
    rw [decide_eq_true (show C.map halfP = Z.map halfP by rw [s1.unique s2])] at this
    exact this : Calls Tryz.prog 23 #[u1, u2] w' fun e w'' => e = .returned (.bool true) ∧ Below w'.heap.size w' w''))
  unfold EndsPost at HEN
  unfold PartsNew at HPA
  unfold OfHalf at HOH
  unfold MakePost at HMA
  obtain ⟨p, c, rfl, hc, hmx, hxx⟩ := hv
  obtain ⟨p2, c2, rfl, _⟩ := hu
  have hmax : L.length ≤ 9223372036854775807 := by unfold maxLen at hmx; omega
  clear h1 hE hEl hok
  generalize endsZ D = E at *
  have HE := Lib.hid (show ofErrs L = 4 by unfold ofErrs; rw [if_pos h2])
  have HE0 := Lib.hid (show ofErrs L ≠ 0 by rw [HE.out]; decide)
  have g1 : decide ((200 : Int) < (L.length : Int)) = true := decide_eq_true (by omega)
  go_enter Tryz.func3, Tryz.ntmps3
  go_wp2_with fail
  refine (HKN.out w (Below.refl _ _)).mono ?_
  rintro e w1 ⟨rfl, hb1⟩
  go_wp2_with fail
  refine (HS1.out w1 hb1).mono ?_
  rintro e w2 ⟨rfl, hb2⟩
  rw [H1.out]
  have hb02 := hb1.trans (hb2.mono hb1.size)
  go_wp2_with fail
  refine (HOF.out w2 hb02).mono ?_
  intro e w3 hof
  obtain ⟨rfl, hb3⟩ := hof.2 HE0.out
  rw [HE.out]
  have hb03 := hb02.trans (hb3.mono hb02.size)
  clear hof
  have hl0 : 0 < L.length := by omega
  have e8 : decide ((0 : Int) < (L.length : Int)) = true := decide_eq_true (by omega)
  clear hxx
  go_wp2_with fail
  go_loopw [7, 8] (fun wv iv wr => wv = .int .i64 4 ∧ iv = .int .i64 0 ∧ wr = w3) (fun _ _ _ => 0)
  case atStart => exact ⟨rfl, rfl, rfl⟩
  case round =>
    obtain ⟨rfl, rfl, rfl⟩ := hrel
    go_wp2_with fail
    refine (HEN.out _ hb03).mono ?_
    rintro e w5 ⟨v6, rfl, hz5, hb5⟩
    have hb05 := (hb03).trans (hb5.mono (hb03).size)
    obtain ⟨p6, c6, rfl, _⟩ := id hz5
    go_wp2_with fail
    refine (HPA.out _ _ hz5).mono ?_
    rintro e w6 ⟨v7, rfl, _, hp6, hb6⟩
    have hb06 := hb05.trans (hb6.mono hb05.size)
    have HP6 := Lib.hid hp6
    clear hp6 hz5
    go_wp2_with fail
    refine (HOH.out _ _ (hw.below hb06) HP6.out).mono ?_
    rintro e w7 ⟨v8, C, rfl, hp7, hs7, hb7⟩
    have hb07 := hb06.trans (hb7.mono hb06.size)
    have HP7 := Lib.hid hp7
    have HS7 := Lib.hid hs7
    clear hp7 hs7
    go_wp2_with fail
    refine (HMA.out _ hb07).mono ?_
    rintro e w8 ⟨v9, Z, rfl, hp8, hs8, _, hb8⟩
    have hb08 := hb07.trans (hb8.mono hb07.size)
    have HP8 := Lib.hid hp8
    have HS8 := Lib.hid hs8
    clear hp8 hs8
    go_wp2_with fail
    refine (HSA.out _ _ _ C Z (HP7.out.below hb8) HP8.out HS7.out HS8.out).mono ?_
    rintro e w9 ⟨rfl, hb9⟩
    go_wp2
    go_ret
    exact ⟨rfl, hb08.trans (hb9.mono hb08.size)⟩
end Go.Proofs.YtbogpbjddaoeiaaGreatDoor
