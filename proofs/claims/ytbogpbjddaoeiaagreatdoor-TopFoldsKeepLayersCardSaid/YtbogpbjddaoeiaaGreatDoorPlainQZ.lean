import Derived.Test.YtbogpbjddaoeiaaGreatDoorJoin0Z
import Derived.Test.YtbogpbjddaoeiaaGreatDoorJoinZ
import Derived.Test.YtbogpbjddaoeiaaGreatDoorAbove2Z
namespace Go.Proofs.YtbogpbjddaoeiaaGreatDoor
open Go.Lib (decDigits itoa nDigits)
abbrev QP := Rat × Rat
def segQ : List QP → Rat → Nat
  | [], _ => 0
  | p :: r, x => if x < p.1 then 0 else segQ r x + 1
def atQ (L : List QP) (i : Nat) : Rat := match L[i]? with | some p => p.1 | none => 0
def valQ (L : List QP) (i : Nat) : Rat := match L[i]? with | some p => p.2 | none => 0
def slopeQ (L : List QP) (n : Nat) : Rat := if n = 0 ∨ n = L.length then 0 else (valQ L n - valQ L (n - 1)) * (atQ L n - atQ L (n - 1))⁻¹
def valueQ (L : List QP) (q : Rat) : Rat := if segQ L q = 0 then valQ L 0 else valQ L (segQ L q - 1) + slopeQ L (segQ L q) * (q - atQ L (segQ L q - 1))
noncomputable def rats (L : List Pair) : List QP := L.map fun p => (ratV p.1, ratV p.2)
theorem rats_nil : rats [] = [] := rfl
theorem rats_cons (p : Pair) (L : List Pair) : rats (p :: L) = (ratV p.1, ratV p.2) :: rats L := rfl
theorem rats_len (L : List Pair) : (rats L).length = L.length := by unfold rats; simp
theorem rats_append (L M : List Pair) : rats (L ++ M) = rats L ++ rats M := by unfold rats; simp
theorem segN_rats : ∀ (L : List Pair) (x : Rat), segN L x = segQ (rats L) x
  | [], _ => rfl
  | p :: r, x => by rw [rats_cons, segN, segQ, segN_rats r x]
theorem atV_rats (L : List Pair) (i : Nat) : atV L i = atQ (rats L) i := by unfold atV atQ rats; rw [List.getElem?_map]; cases L[i]? <;> rfl
theorem valV_rats (L : List Pair) (i : Nat) : valV L i = valQ (rats L) i := by unfold valV valQ rats; rw [List.getElem?_map]; cases L[i]? <;> rfl
theorem slopeV_rats (L : List Pair) (n : Nat) : slopeV L n = slopeQ (rats L) n := by
  unfold slopeV slopeQ; rw [rats_len]; simp only [valV_rats, atV_rats]
theorem valueV_rats (L : List Pair) (q : Rat) : valueV L q = valueQ (rats L) q := by
  unfold valueV valueQ; simp only [segN_rats, valV_rats, atV_rats, slopeV_rats]
def stepsQ (hi : Rat) : Rat → List QP → List QP
  | f, [] => [(f, hi)]
  | f, k :: r => if f < k.1 then (if k.1 < hi then (f, k.1) :: stepsQ hi k.1 r else [(f, hi)]) else stepsQ hi f r
theorem stepsP_rats (hi : ByteArray) : ∀ (f : ByteArray) (L : List Pair), rats (stepsP hi f L) = stepsQ (ratV hi) (ratV f) (rats L)
  | f, [] => rfl
  | f, k :: r => by
    rw [rats_cons, stepsP, stepsQ]
    by_cases h1 : ratV f < ratV k.1
    · rw [if_pos h1, if_pos h1]
      by_cases h2 : ratV k.1 < ratV hi
      · rw [if_pos h2, if_pos h2, rats_cons, stepsP_rats hi k.1 r]
      · rw [if_neg h2, if_neg h2]; rfl
    · rw [if_neg h1, if_neg h1, stepsP_rats hi f r]
def termQ (L : List QP) (p : QP) : Rat := (valueQ L p.1 + valueQ L p.2) * (1 / 2) * (p.2 - p.1)
def sumQ (L : List QP) (l : List QP) : Rat := l.foldl (fun s p => s + termQ L p) 0
theorem termI_rats (L : List Pair) (p : Pair) : termI L p = termQ (rats L) (ratV p.1, ratV p.2) := by
  unfold termI termQ; rw [valueV_rats, valueV_rats]
theorem sumI_rats (L l : List Pair) : sumI L l = sumQ (rats L) (rats l) := by
  unfold sumI sumQ rats
  rw [List.foldl_map]
  simp only [termI_rats]
  rfl
def lenQ (L : List QP) : Rat := L.foldl (fun s p => s + (p.2 - p.1)) 0
theorem lenSum_rats (L : List Pair) : lenSum L = lenQ (rats L) := by
  unfold lenSum lenQ rats; rw [List.foldl_map]
def overQ (L : List QP) (h t : Rat) : Rat := valueQ L t - h
def aboveXQ (L : List QP) (h : Rat) (p : QP) : Rat := p.1 + overQ L h p.1 * (overQ L h p.1 - overQ L h p.2)⁻¹ * (p.2 - p.1)
def crossQ (L : List QP) (h : Rat) (p : QP) : QP :=
  if (0 ≤ overQ L h p.1) = (0 ≤ overQ L h p.2) then p else if 0 ≤ overQ L h p.1 then (p.1, aboveXQ L h p) else (aboveXQ L h p, p.2)
def aboveQ (L : List QP) (h : Rat) (p : QP) : List QP :=
  if (0 ≤ overQ L h p.1 ∨ 0 ≤ overQ L h p.2) ∧ (crossQ L h p).1 < (crossQ L h p).2 then [crossQ L h p] else []
theorem overV_rats (L : List Pair) (h : Rat) (t : ByteArray) : overV L h t = overQ (rats L) h (ratV t) := by unfold overV overQ; rw [valueV_rats]
theorem aboveX_rats (L : List Pair) (h : Rat) (p : Pair) : aboveX L h p = aboveXQ (rats L) h (ratV p.1, ratV p.2) := by
  unfold aboveX aboveXQ; simp only [overV_rats]
theorem ratV_text {q : Rat} (h : ratB (rtext q) = true) : ratV ⟨(rtext q).toArray⟩ = q := ratV_eq (isR_mk q) (by simpa using h)
theorem crossP_rats {L : List Pair} {h : Rat} (x : AP L h) : (ratV (crossP x).1.1, ratV (crossP x).1.2) = crossQ (rats L) h (ratV x.1.1, ratV x.1.2) := by
  have hX := ratV_text x.2.2.2
  unfold crossP crossQ
  simp only [overV_rats, aboveX_rats] at hX ⊢
  by_cases h1 : (0 ≤ overQ (rats L) h (ratV x.1.1)) = (0 ≤ overQ (rats L) h (ratV x.1.2))
  · rw [if_pos h1, if_pos h1]
  · rw [if_neg h1, if_neg h1]
    by_cases h2 : 0 ≤ overQ (rats L) h (ratV x.1.1)
    · rw [if_pos h2, if_pos h2]; simp only [hX]
    · rw [if_neg h2, if_neg h2]; simp only [hX]
theorem aboveP_rats {L : List Pair} {h : Rat} (x : AP L h) : rats ((aboveP x).map (·.1)) = aboveQ (rats L) h (ratV x.1.1, ratV x.1.2) := by
  have hc := crossP_rats x
  unfold aboveP aboveQ
  rw [← hc]
  simp only [overV_rats]
  split <;> simp [rats]
theorem abovesP_rats {L : List Pair} {h : Rat} : ∀ S : List (AP L h), rats ((S.flatMap aboveP).map (·.1)) = (rats (S.map (·.1))).flatMap (aboveQ (rats L) h)
  | [] => rfl
  | x :: S => by rw [List.flatMap_cons, List.map_append, rats_append, aboveP_rats, abovesP_rats S]; rfl
def maxQ (a b : Rat) : Rat := if a < b then b else a
def mergeQ1 : List QP → QP → List QP
  | [], p => [p]
  | q :: r, p => if q.2 < p.1 then p :: q :: r else (q.1, maxQ q.2 p.2) :: r
def mergeQ (M : List QP) : List QP := (M.foldl mergeQ1 []).reverse
theorem maxP_rats (a b : ByteArray) : ratV (maxP a b) = maxQ (ratV a) (ratV b) := by unfold maxP maxQ; split <;> rfl
theorem mergeR_rats : ∀ (A : List RP) (p : RP), rats ((mergeR A p).map (·.1)) = mergeQ1 (rats (A.map (·.1))) (ratV p.1.1, ratV p.1.2)
  | [], p => rfl
  | q :: r, p => by
    rw [mergeR, List.map_cons, rats_cons, mergeQ1]
    by_cases h : ratV q.1.2 < ratV p.1.1
    · rw [if_pos h, if_pos h]; rfl
    · rw [if_neg h, if_neg h, List.map_cons, rats_cons]; simp only [maxP_rats]
theorem mergeF_rats : ∀ (M A : List RP), rats ((M.foldl mergeR A).map (·.1)) = (rats (M.map (·.1))).foldl mergeQ1 (rats (A.map (·.1)))
  | [], _ => rfl
  | p :: M, A => by rw [List.foldl_cons, mergeF_rats M, mergeR_rats]; rfl
theorem mergeP_rats (M : List RP) : rats ((mergeP M).map (·.1)) = mergeQ (rats (M.map (·.1))) := by
  unfold mergeP mergeQ
  rw [List.map_reverse]
  have := mergeF_rats M []
  unfold rats at this ⊢
  rw [List.map_reverse, this]
  rfl
/-- A sorted list whose low ends differ is the only sorted one of its elements. -/
theorem sorted_unique : ∀ (S M : List QP), S.Pairwise (fun x y => x.1 < y.1) → M.Perm S → M.Pairwise (fun x y => ¬ y.1 < x.1) → M = S
  | [], M, _, hp, _ => List.Perm.eq_nil hp
  | s :: S, [], _, hp, _ => by have := hp.length_eq; simp at this
  | s :: S, m :: M, hs, hp, hm => by
    have hs' := List.pairwise_cons.1 hs
    have hm' := List.pairwise_cons.1 hm
    have h1 : m = s := by
      apply Decidable.byContradiction
      intro hne
      have a1 : m ∈ S := by
        rcases List.mem_cons.1 (hp.mem_iff.1 (List.mem_cons_self ..)) with h | h
        · exact (hne h).elim
        · exact h
      have a2 : s ∈ M := by
        rcases List.mem_cons.1 (hp.mem_iff.2 (List.mem_cons_self ..)) with h | h
        · exact (hne h.symm).elim
        · exact h
      exact hm'.1 s a2 (hs'.1 m a1)
    subst h1
    rw [sorted_unique S M hs'.2 (List.Perm.cons_inv hp) hm'.2]
theorem perm_rats {M R : List RP} (hp : M.Perm R) : (rats (M.map (·.1))).Perm (rats (R.map (·.1))) := (hp.map _).map _
theorem pairwise_rats {M : List RP} (h : M.Pairwise (fun x y => ¬ ratV y.1.1 < ratV x.1.1)) : (rats (M.map (·.1))).Pairwise (fun x y => ¬ y.1 < x.1) := by
  unfold rats; rw [List.pairwise_map, List.pairwise_map]; exact h
/-- What is sorted and merged, by numbers. -/
theorem merged_rats {M R : List RP} {S : List QP} (hp : M.Perm R) (hw : M.Pairwise (fun x y => ¬ ratV y.1.1 < ratV x.1.1)) (hs : S.Pairwise (fun x y => x.1 < y.1)) (hS : (rats (R.map (·.1))).Perm S) : rats ((mergeP M).map (·.1)) = mergeQ S := by
  rw [mergeP_rats, sorted_unique S _ hs ((perm_rats hp).trans hS) (pairwise_rats hw)]
end Go.Proofs.YtbogpbjddaoeiaaGreatDoor
namespace Go.Proofs.YtbogpbjddaoeiaaGreatDoor
open Go.Lib (decDigits itoa nDigits)
theorem knErr_zero : ∀ (L : List Pair) (prev : Option ByteArray), AllOk L → (rats L).Pairwise (fun x y => x.1 < y.1) → (∀ p, prev = some p → ∀ x ∈ rats L, ratV p < x.1) → knErr prev L = 0
  | [], _, _, _, _ => by unfold knErr; rfl
  | (a, v) :: r, prev, h1, h2, h3 => by
    rw [rats_cons] at h2 h3
    have h2' := List.pairwise_cons.1 h2
    obtain ⟨ha, hv⟩ := h1 _ (List.mem_cons_self ..)
    unfold knErr
    dsimp only at ha hv
    rw [ha, hv]
    simp only [Bool.and_self, if_true]
    rw [if_neg]
    · exact knErr_zero r _ (fun p hp => h1 p (List.mem_cons_of_mem _ hp)) h2'.2 (fun p hp x hx => by cases hp; exact h2'.1 x hx)
    · rintro ⟨p, hp, hn⟩
      exact hn (h3 p hp _ (List.mem_cons_self ..))
theorem knotsErr_zero {L : List Pair} (h0 : 0 < L.length) (h1 : L.length ≤ 100) (hok : AllOk L) (hp : (rats L).Pairwise (fun x y => x.1 < y.1)) : knotsErr L = 0 := by
  unfold knotsErr
  rw [if_neg (by omega), if_neg (by omega)]
  exact knErr_zero L none hok hp (fun p hp => by cases hp)
theorem partErr_zero {lo hi : ByteArray} (h1 : ratB lo.data.toList = true) (h2 : ratB hi.data.toList = true) (h3 : ratV lo < ratV hi) : partErr lo hi = 0 := by
  unfold partErr
  rw [h1, h2]
  simp only [Bool.and_self, if_true]
  rw [if_pos h3]
theorem ofErr_zero : ∀ (L : List Pair), (∀ p ∈ L, partErr p.1 p.2 = 0) → ofErr L = 0
  | [], _ => rfl
  | p :: r, h => by unfold ofErr; rw [if_pos (h p (List.mem_cons_self ..))]; exact ofErr_zero r fun q hq => h q (List.mem_cons_of_mem _ hq)
theorem ofErrs_zero {L : List Pair} (h1 : L.length ≤ 200) (h : ∀ p ∈ L, partErr p.1 p.2 = 0) : ofErrs L = 0 := by
  unfold ofErrs; rw [if_neg (by omega)]; exact ofErr_zero L h
theorem ckErr_zero : ∀ (L : List Pair) (prev : Option Pair), (∀ p ∈ L, partErr p.1 p.2 = 0) → (rats L).Pairwise (fun x y => x.2 < y.1) → (∀ p, prev = some p → ∀ x ∈ rats L, ratV p.2 < x.1) → ckErr prev L = 0
  | [], _, _, _, _ => by unfold ckErr; rfl
  | q :: r, prev, h1, h2, h3 => by
    rw [rats_cons] at h2 h3
    have h2' := List.pairwise_cons.1 h2
    unfold ckErr
    rw [if_pos (h1 _ (List.mem_cons_self ..)), if_neg]
    · exact ckErr_zero r _ (fun p hp => h1 p (List.mem_cons_of_mem _ hp)) h2'.2 (fun p hp x hx => by cases hp; exact h2'.1 x hx)
    · rintro ⟨p, hp, hn⟩
      exact hn (h3 p hp _ (List.mem_cons_self ..))
theorem checkErr_zero {L : List Pair} (h1 : L.length ≤ 200) (h : ∀ p ∈ L, partErr p.1 p.2 = 0) (hp : (rats L).Pairwise (fun x y => x.2 < y.1)) : checkErr L = 0 := by
  unfold checkErr
  rw [if_neg (by omega)]
  exact ckErr_zero L none h hp (fun p hp => by cases hp)
theorem rp_zero (x : RP) (h : ratV x.1.1 < ratV x.1.2) : partErr x.1.1 x.1.2 = 0 := partErr_zero x.2.1 x.2.2 h
/-- A closed text. -/
theorem okText {s : ByteArray} (q : Rat) (h : s.data.toList = rtext q) (h1 : q.num.natAbs < 10 ^ 200) (h2 : q.den < 10 ^ 200) : ratB s.data.toList = true ∧ ratV s = q := by
  have hb : ratB s.data.toList = true := ratB_iff.2 ⟨q, h, nDigits_le_of_lt h1 (by omega), nDigits_le_of_lt h2 (by omega)⟩
  exact ⟨hb, ratV_eq h hb⟩
theorem rtext_of {q : Rat} {n : Int} {d : Nat} (h1 : q.num = n) (h2 : q.den = d) : rtext q = rjoin n d := by unfold rtext; rw [h1, h2]
theorem rjoin_small {n d : Nat} (h1 : n < 10) (h2 : d < 10) : rjoin (n : Int) d = if d = 1 then [UInt8.ofNat (48 + n)] else [UInt8.ofNat (48 + n), 47, UInt8.ofNat (48 + d)] := by
  unfold rjoin
  rw [itoa_nat, decDigits_small h1, decDigits_small h2]
  rfl
theorem rjoin_two {n : Nat} (h1 : 10 ≤ n) (h2 : n < 100) : rjoin (n : Int) 1 = [UInt8.ofNat (48 + n / 10), UInt8.ofNat (48 + n % 10)] := by
  unfold rjoin
  rw [if_pos rfl, itoa_nat, decDigits_big h1, decDigits_small (by omega)]
  rfl
/-- the digits -/
theorem dig_text (n : Nat) (h : n < 10) : rtext (n : Rat) = [UInt8.ofNat (48 + n)] := by
  rw [show ((n : Nat) : Rat) = ((n : Int) : Rat) from rfl, rtext_int, itoa_nat, decDigits_small h]
end Go.Proofs.YtbogpbjddaoeiaaGreatDoor
namespace Go.Proofs.YtbogpbjddaoeiaaGreatDoor
open Go.Lib (decDigits itoa nDigits)
theorem text0 : rtext 0 = [48] := by have := dig_text 0 (by decide); simpa using this
theorem text1 : rtext 1 = [49] := by have := dig_text 1 (by decide); simpa using this
theorem text2 : rtext 2 = [50] := dig_text 2 (by decide)
theorem text3 : rtext 3 = [51] := dig_text 3 (by decide)
theorem text4 : rtext 4 = [52] := dig_text 4 (by decide)
theorem text5 : rtext 5 = [53] := dig_text 5 (by decide)
theorem text12 : rtext 12 = [49, 50] := by
  rw [rtext_of (n := ((12 : Nat) : Int)) (d := 1) (by decide +kernel) (by decide +kernel), rjoin_two (by decide) (by decide)]; decide
theorem text1_2 : rtext (1 / 2) = [49, 47, 50] := by
  rw [rtext_of (n := ((1 : Nat) : Int)) (d := 2) (by decide +kernel) (by decide +kernel), rjoin_small (by decide) (by decide)]; decide
theorem text5_2 : rtext (5 / 2) = [53, 47, 50] := by
  rw [rtext_of (n := ((5 : Nat) : Int)) (d := 2) (by decide +kernel) (by decide +kernel), rjoin_small (by decide) (by decide)]; decide
theorem text7_2 : rtext (7 / 2) = [55, 47, 50] := by
  rw [rtext_of (n := ((7 : Nat) : Int)) (d := 2) (by decide +kernel) (by decide +kernel), rjoin_small (by decide) (by decide)]; decide
abbrev s0 : ByteArray := ⟨#[48]⟩
abbrev s1 : ByteArray := ⟨#[49]⟩
abbrev s2 : ByteArray := ⟨#[50]⟩
abbrev s3 : ByteArray := ⟨#[51]⟩
abbrev s4 : ByteArray := ⟨#[52]⟩
abbrev s5 : ByteArray := ⟨#[53]⟩
abbrev s1_2 : ByteArray := ⟨#[49, 47, 50]⟩
abbrev s5_2 : ByteArray := ⟨#[53, 47, 50]⟩
theorem ok0 : ratB s0.data.toList = true ∧ ratV s0 = 0 := okText 0 text0.symm (by decide +kernel) (by decide +kernel)
theorem ok1 : ratB s1.data.toList = true ∧ ratV s1 = 1 := okText 1 text1.symm (by decide +kernel) (by decide +kernel)
theorem ok2 : ratB s2.data.toList = true ∧ ratV s2 = 2 := okText 2 text2.symm (by decide +kernel) (by decide +kernel)
theorem ok3 : ratB s3.data.toList = true ∧ ratV s3 = 3 := okText 3 text3.symm (by decide +kernel) (by decide +kernel)
theorem ok4 : ratB s4.data.toList = true ∧ ratV s4 = 4 := okText 4 text4.symm (by decide +kernel) (by decide +kernel)
theorem ok5 : ratB s5.data.toList = true ∧ ratV s5 = 5 := okText 5 text5.symm (by decide +kernel) (by decide +kernel)
theorem ok1_2 : ratB s1_2.data.toList = true ∧ ratV s1_2 = 1 / 2 := okText (1 / 2) text1_2.symm (by decide +kernel) (by decide +kernel)
theorem ok5_2 : ratB s5_2.data.toList = true ∧ ratV s5_2 = 5 / 2 := okText (5 / 2) text5_2.symm (by decide +kernel) (by decide +kernel)
def kParts : List Pair := [(s3, s4), (s0, s1), (s1_2, s2), (s2, s5_2)]
def kKnots : List Pair := [(s0, s0), (s2, s4), (s3, s4), (s5, s0)]
def kQ : List QP := [(0, 0), (2, 4), (3, 4), (5, 0)]
theorem kKnots_rats : rats kKnots = kQ := by unfold rats kKnots kQ; simp only [List.map_cons, List.map_nil, ok0.2, ok2.2, ok3.2, ok4.2, ok5.2]
theorem kKnots_ok : AllOk kKnots := by
  intro p hp
  unfold kKnots at hp
  simp only [List.mem_cons, List.not_mem_nil, or_false] at hp
  rcases hp with rfl | rfl | rfl | rfl
  · exact ⟨ok0.1, ok0.1⟩
  · exact ⟨ok2.1, ok4.1⟩
  · exact ⟨ok3.1, ok4.1⟩
  · exact ⟨ok5.1, ok0.1⟩
theorem kKnots_err : knotsErr kKnots = 0 := knotsErr_zero (by decide) (by decide) kKnots_ok (by rw [kKnots_rats]; decide +kernel)
theorem kPart_err : partErr s0 s5 = 0 := partErr_zero ok0.1 ok5.1 (by rw [ok0.2, ok5.2]; decide +kernel)
theorem kInt_err : intErr kKnots s0 s5 = 0 := by unfold intErr; rw [if_pos kKnots_err, kPart_err]
theorem kInt : sumI kKnots (stepsP s5 s0 kKnots) = 12 := by
  rw [sumI_rats, stepsP_rats, kKnots_rats, ok0.2, ok5.2]; decide +kernel
theorem kParts_rats : rats kParts = [(3, 4), (0, 1), (1 / 2, 2), (2, 5 / 2)] := by
  unfold rats kParts; simp only [List.map_cons, List.map_nil, ok0.2, ok1.2, ok2.2, ok3.2, ok4.2, ok1_2.2, ok5_2.2]
theorem kOf_err : ofErrs kParts = 0 := by
  refine ofErrs_zero (by decide) ?_
  intro p hp
  unfold kParts at hp
  simp only [List.mem_cons, List.not_mem_nil, or_false] at hp
  rcases hp with rfl | rfl | rfl | rfl
  · exact partErr_zero ok3.1 ok4.1 (by rw [ok3.2, ok4.2]; decide +kernel)
  · exact partErr_zero ok0.1 ok1.1 (by rw [ok0.2, ok1.2]; decide +kernel)
  · exact partErr_zero ok1_2.1 ok2.1 (by rw [ok1_2.2, ok2.2]; decide +kernel)
  · exact partErr_zero ok2.1 ok5_2.1 (by rw [ok2.2, ok5_2.2]; decide +kernel)
theorem rats_one {A : List RP} {p : QP} (h : rats (A.map (·.1)) = [p]) : ∃ x : RP, A = [x] ∧ (ratV x.1.1, ratV x.1.2) = p := by
  match A, h with
  | [], h => cases h
  | [x], h => exact ⟨x, rfl, by simpa [rats] using h⟩
  | _ :: _ :: _, h => have := congrArg List.length h; simp [rats] at this
theorem rats_two {A : List RP} {p q : QP} (h : rats (A.map (·.1)) = [p, q]) : ∃ x y : RP, A = [x, y] ∧ (ratV x.1.1, ratV x.1.2) = p ∧ (ratV y.1.1, ratV y.1.2) = q := by
  match A, h with
  | [], h => cases h
  | [_], h => have := congrArg List.length h; simp [rats] at this
  | [x, y], h => exact ⟨x, y, rfl, by simpa [rats] using h⟩
  | _ :: _ :: _ :: _, h => have := congrArg List.length h; simp [rats] at this
theorem kOf {R M : List RP} (hR : R.map (·.1) = kParts) (hp : M.Perm R) (hw : M.Pairwise (fun x y => ¬ ratV y.1.1 < ratV x.1.1)) :
    ∃ x y : RP, mergeP M = [x, y] ∧ (ratV x.1.1, ratV x.1.2) = (0, 5 / 2) ∧ (ratV y.1.1, ratV y.1.2) = (3, 4) := by
  refine rats_two ?_
  rw [merged_rats (S := [(0, 1), (1 / 2, 2), (2, 5 / 2), (3, 4)]) hp hw (by decide +kernel) (by rw [hR, kParts_rats]; decide +kernel)]
  decide +kernel
theorem RP.eq_of {x : RP} {a b : ByteArray} (ha : ratB a.data.toList = true) (hb : ratB b.data.toList = true) (h1 : ratV x.1.1 = ratV a) (h2 : ratV x.1.2 = ratV b) : x.1 = (a, b) :=
  Prod.ext ((ratV_isR x.2.1).unique (by rw [h1]; exact ratV_isR ha)) ((ratV_isR x.2.2).unique (by rw [h2]; exact ratV_isR hb))
def kU : List Pair := [(s0, s5_2), (s3, s4)]
theorem kU_rats : rats kU = [(0, 5 / 2), (3, 4)] := by unfold rats kU; simp only [List.map_cons, List.map_nil, ok0.2, ok3.2, ok4.2, ok5_2.2]
theorem kOf' {R M : List RP} (hR : R.map (·.1) = kParts) (hp : M.Perm R) (hw : M.Pairwise (fun x y => ¬ ratV y.1.1 < ratV x.1.1)) :
    (mergeP M).length = 2 ∧ (mergeP M).map (·.1) = kU ∧ cellsP (mergeP M) = [.string s0, .string s5_2, .string s3, .string s4] := by
  obtain ⟨x, y, hm, hx, hy⟩ := kOf hR hp hw
  have hx1 := congrArg Prod.fst hx
  have hx2 := congrArg Prod.snd hx
  have hy1 := congrArg Prod.fst hy
  have hy2 := congrArg Prod.snd hy
  dsimp only at hx1 hx2 hy1 hy2
  have ex := RP.eq_of (x := x) ok0.1 ok5_2.1 (by rw [hx1, ok0.2]) (by rw [hx2, ok5_2.2])
  have ey := RP.eq_of (x := y) ok3.1 ok4.1 (by rw [hy1, ok3.2]) (by rw [hy2, ok4.2])
  rw [hm]
  refine ⟨rfl, by rw [List.map_cons, List.map_cons, List.map_nil, ex, ey]; rfl, ?_⟩
  unfold cellsP encP
  simp only [List.flatMap_cons, List.flatMap_nil, ex, ey]
  rfl
theorem kU_err : checkErr kU = 0 := by
  refine checkErr_zero (by decide) ?_ (by rw [kU_rats]; decide +kernel)
  intro p hp
  unfold kU at hp
  simp only [List.mem_cons, List.not_mem_nil, or_false] at hp
  rcases hp with rfl | rfl
  · exact partErr_zero ok0.1 ok5_2.1 (by rw [ok0.2, ok5_2.2]; decide +kernel)
  · exact partErr_zero ok3.1 ok4.1 (by rw [ok3.2, ok4.2]; decide +kernel)
theorem kU_len : lenSum kU = 7 / 2 := by rw [lenSum_rats, kU_rats]; decide +kernel
abbrev s7_2 : ByteArray := ⟨#[55, 47, 50]⟩
abbrev s12 : ByteArray := ⟨#[49, 50]⟩
theorem kLenRes {r : ByteArray} (h : IsR r (lenSum kU)) : r = s7_2 := h.unique (by rw [kU_len]; exact text7_2.symm)
theorem ok7_2 : ratB s7_2.data.toList = true := (okText (7 / 2) text7_2.symm (by decide +kernel) (by decide +kernel)).1
theorem ok12 : ratB s12.data.toList = true := (okText 12 text12.symm (by decide +kernel) (by decide +kernel)).1
theorem kIntRes {r : ByteArray} (h : IsR r (sumI kKnots (stepsP s5 s0 kKnots))) : r = s12 := h.unique (by rw [kInt]; exact text12.symm)
theorem kSteps : stepsP s5 s0 kKnots = [(s0, s2), (s2, s3), (s3, s5)] := by
  unfold kKnots
  rw [stepsP, if_neg (by rw [ok0.2]; decide +kernel), stepsP, if_pos (by rw [ok0.2, ok2.2]; decide +kernel), if_pos (by rw [ok2.2, ok5.2]; decide +kernel),
    stepsP, if_pos (by rw [ok2.2, ok3.2]; decide +kernel), if_pos (by rw [ok3.2, ok5.2]; decide +kernel),
    stepsP, if_pos (by rw [ok3.2, ok5.2]; decide +kernel), if_neg (by rw [ok5.2]; decide +kernel)]
theorem okR (q : Rat) (h1 : q.num.natAbs < 10 ^ 200) (h2 : q.den < 10 ^ 200) : ratB (rtext q) = true := by
  have := (okText (s := ⟨(rtext q).toArray⟩) q (by simp) h1 h2).1
  simpa using this
theorem kAt_err : atErr kKnots s2 = 0 := by unfold atErr; rw [if_pos kKnots_err, ok2.1]; rfl
theorem kAll : ∀ p ∈ stepsP s5 s0 kKnots, OkA kKnots 2 p := by
  rw [kSteps]
  intro p hp
  simp only [List.mem_cons, List.not_mem_nil, or_false] at hp
  rcases hp with rfl | rfl | rfl
  · exact ⟨ok0.1, ok2.1, by rw [aboveX_rats, kKnots_rats]; simp only [ok0.2, ok2.2]; rw [show aboveXQ kQ 2 (0, 2) = 1 by decide +kernel]; exact okR _ (by decide +kernel) (by decide +kernel)⟩
  · exact ⟨ok2.1, ok3.1, by rw [aboveX_rats, kKnots_rats]; simp only [ok2.2, ok3.2]; rw [show aboveXQ kQ 2 (2, 3) = 2 by decide +kernel]; exact okR _ (by decide +kernel) (by decide +kernel)⟩
  · exact ⟨ok3.1, ok5.1, by rw [aboveX_rats, kKnots_rats]; simp only [ok3.2, ok5.2]; rw [show aboveXQ kQ 2 (3, 5) = 4 by decide +kernel]; exact okR _ (by decide +kernel) (by decide +kernel)⟩
theorem kAbove {S : List (AP kKnots 2)} {M : List RP} (hS : S.map (·.1) = stepsP s5 s0 kKnots) (hp : M.Perm (S.flatMap aboveP)) (hw : M.Pairwise (fun x y => ¬ ratV y.1.1 < ratV x.1.1)) :
    ∃ x : RP, mergeP M = [x] ∧ (ratV x.1.1, ratV x.1.2) = (1, 4) := by
  refine rats_one ?_
  rw [merged_rats (S := [(1, 2), (2, 3), (3, 4)]) hp hw (by decide +kernel) ?_]
  · decide +kernel
  · rw [abovesP_rats, hS, stepsP_rats, kKnots_rats, ok0.2, ok5.2]
    have : (stepsQ 5 0 kQ).flatMap (aboveQ kQ 2) = [(1, 2), (2, 3), (3, 4)] := by decide +kernel
    rw [this]
theorem kAbove' {S : List (AP kKnots 2)} {M : List RP} (hS : S.map (·.1) = stepsP s5 s0 kKnots) (hp : M.Perm (S.flatMap aboveP)) (hw : M.Pairwise (fun x y => ¬ ratV y.1.1 < ratV x.1.1)) :
    (mergeP M).length = 1 ∧ cellsP (mergeP M) = [.string s1, .string s4] := by
  obtain ⟨x, hm, hx⟩ := kAbove hS hp hw
  have hx1 := congrArg Prod.fst hx
  have hx2 := congrArg Prod.snd hx
  dsimp only at hx1 hx2
  have ex := RP.eq_of (x := x) ok1.1 ok4.1 (by rw [hx1, ok1.2]) (by rw [hx2, ok4.2])
  rw [hm]
  refine ⟨rfl, ?_⟩
  unfold cellsP encP
  simp only [List.flatMap_cons, List.flatMap_nil, ex]
  rfl
end Go.Proofs.YtbogpbjddaoeiaaGreatDoor
namespace Go.Proofs.YtbogpbjddaoeiaaGreatDoor
open Go.RowKit Go.Shelf
open Go.Lib (decDigits itoa nDigits)
theorem pairs_four (w : World) (t : TypeId) (a b c d e f g h : ByteArray) :
    Pairs (w.alloc (Obj.cells #[.string a, .string b, .string c, .string d, .string e, .string f, .string g, .string h] t)) (.slice (some ⟨w.heap.size, 0, none⟩) 4 4) [(a, b), (c, d), (e, f), (g, h)] := by
  refine ⟨_, _, rfl, Nat.le_refl 4, by decide, fun _ => ⟨w.heap.size, 0, rfl, by simp, fun i hi => ?_⟩⟩
  have hi' : i < 4 := hi
  have hc : ∀ j (hj : j < 8), (w.alloc (Obj.cells #[.string a, .string b, .string c, .string d, .string e, .string f, .string g, .string h] t)).cell? ⟨w.heap.size, j, none⟩ = some (#[Value.string a, .string b, .string c, .string d, .string e, .string f, .string g, .string h][j]) := fun j hj => alloc_cells w _ t j (by simpa using hj)
  rw [Nat.zero_add]
  rcases (show i = 0 ∨ i = 1 ∨ i = 2 ∨ i = 3 by omega) with rfl | rfl | rfl | rfl
  · exact ⟨hc 0 (by decide), hc 1 (by decide)⟩
  · exact ⟨hc 2 (by decide), hc 3 (by decide)⟩
  · exact ⟨hc 4 (by decide), hc 5 (by decide)⟩
  · exact ⟨hc 6 (by decide), hc 7 (by decide)⟩
theorem owns_pairs {w : World} {base g n cap : Nat} {L : List RP} (h : w.ownsRow base 33 2 (.slice (some ⟨g, 0, none⟩) n cap) n (cellsP L)) : Pairs w (.slice (some ⟨g, 0, none⟩) (L.map (·.1)).length cap) (L.map (·.1)) := by
  have := (pairs_of_owns h).1
  rw [List.length_map]
  exact this
theorem szOk_of {L : List Pair} (h : AllOk L) : SzOk L := fun p hp => by
  have h1 := ratB_size (h p hp).1
  have h2 := ratB_size (h p hp).2
  omega
theorem kParts_sz : SzOk kParts := by
  intro p hp
  unfold kParts at hp
  simp only [List.mem_cons, List.not_mem_nil, or_false] at hp
  rcases hp with rfl | rfl | rfl | rfl <;> decide
theorem kU_sz : SzOk kU := szOk_of (checkErr_ok kU_err).1
theorem callsIn_plain {n : Nat} {P : Program} {f : FuncId} {args : Array Value} {w : World} {Q : Ending → World → Prop} (h : CallsIn Fence.wide n P f args w Q) : Calls P f args w Q := callsIn_wide.1 h
set_option maxRecDepth 100000 in
set_option maxHeartbeats 4000000 in
theorem law_known (w : World) (hw : Good w) : Calls Tryz.prog 15 #[] w fun e w' => e = .returned (.bool true) ∧ Below w.heap.size w w' := by
  go_enter Tryz.func15, Tryz.ntmps15
  go_wp2_with fail
  obtain ⟨wA, hwA⟩ : ∃ wA, wA = w.alloc (Obj.cells #[.string s3, .string s4, .string s0, .string s1, .string s1_2, .string s2, .string s2, .string s5_2] 33) := ⟨_, rfl⟩
  have hbA : Below w.heap.size w wA := by rw [hwA]; exact alloc_below _ _
  have hpA : Pairs wA (.slice (some ⟨w.heap.size, 0, none⟩) 4 4) kParts := by rw [hwA]; exact pairs_four _ _ _ _ _ _ _ _ _ _
  rw [← hwA]
  clear hwA
  refine (ranges_Of w.heap.size 0 4 kParts wA (hw.below hbA) hpA kParts_sz (by decide)).mono ?_
  rintro e w1 ⟨h1, _⟩
  obtain ⟨v, R, M, rfl, hR, hpm, hpw, hown, hb1⟩ := h1 kOf_err
  obtain ⟨m1, m2, m3⟩ := kOf' hR hpm hpw
  have hown0 := hown
  rw [m1, m3] at hown
  obtain ⟨g, cap, rfl⟩ := ownsRow_succ hown
  have hpU : Pairs w1 (.slice (some ⟨g, 0, none⟩) 2 cap) kU := by
    rw [m1] at hown0
    have := owns_pairs hown0
    rw [m2] at this
    exact this
  obtain ⟨g0, _, hgl, _⟩ := owns_row_cells hown rfl (j := 0) rfl
  obtain ⟨g1, _⟩ := owns_row_cells hown rfl (j := 1) rfl
  have hbw1 := hbA.trans (hb1.mono hbA.size)
  have hg1 := hw.below hbw1
  have G0 := Lib.hid g0
  have G1 := Lib.hid g1
  clear h1 hR hpm hpw hown hown0 m1 m2 m3 g0 g1
  go_wp2_with fail
  refine (ranges_Length _ kU w1 hg1 hpU kU_sz).mono ?_
  rintro e w2 ⟨h2, _⟩
  obtain ⟨r, hr, ⟨v, rfl, hv⟩, hb2⟩ := h2 kU_err
  obtain rfl := kLenRes hr
  rw [ok7_2] at hv
  simp only [if_true] at hv
  subst hv
  have hbw2 := hbw1.trans (hb2.mono hbw1.size)
  have hg2 := hw.below hbw2
  have hs2 := hb2.size
  clear h2 hr
  go_wp2_with fail
  obtain ⟨w3, hw3⟩ : ∃ w3, w3 = w2.alloc (Obj.cells #[.string s0, .string s0, .string s2, .string s4, .string s3, .string s4, .string s5, .string s0] 97) := ⟨_, rfl⟩
  have hb3 : Below w2.heap.size w2 w3 := by rw [hw3]; exact alloc_below _ _
  have hpK : Pairs w3 (.slice (some ⟨w2.heap.size, 0, none⟩) 4 4) kKnots := by rw [hw3]; exact pairs_four _ _ _ _ _ _ _ _ _ _
  rw [← hw3]
  clear hw3
  have hbw3 := hbw2.trans (hb3.mono hbw2.size)
  have hg3 := hw.below hbw3
  have hs3 := hb3.size
  refine (ranges_Integral _ kKnots s0 s5 w3 hg3 hpK (szOk_of kKnots_ok) (by decide) (by decide)).mono ?_
  rintro e w4 ⟨h4, _⟩
  obtain ⟨r, hr, ⟨v, rfl, hv⟩, hb4⟩ := h4 kInt_err
  obtain rfl := kIntRes hr
  rw [ok12] at hv
  simp only [if_true] at hv
  subst hv
  have hbw4 := hbw3.trans (hb4.mono hbw3.size)
  have hg4 := hw.below hbw4
  have hs4 := hb4.size
  have hpK4 := hpK.below hb4
  clear h4 hr
  go_wp2_with fail
  refine (callsIn_plain (ranges_Above_ok _ kKnots s2 2 text2.symm s0 s5 w4 hg4 hpK4 (szOk_of kKnots_ok) (by decide) (by decide) (by decide) kAt_err kPart_err kKnots_ok (knotsErr_ok kKnots_err).2.1 (by decide) (by decide) ok0.1 ok5.1 kAll)).mono ?_
  rintro e w5 ⟨v, S, M, rfl, hS, hpm, hpw, hown, hb5⟩
  obtain ⟨m1, m3⟩ := kAbove' hS hpm hpw
  rw [m1, m3] at hown
  obtain ⟨g', cap', rfl⟩ := ownsRow_succ hown
  obtain ⟨a0, _, hgl', _⟩ := owns_row_cells hown rfl (j := 0) rfl
  obtain ⟨a1, _⟩ := owns_row_cells hown rfl (j := 1) rfl
  have hbw5 := hbw4.trans (hb5.mono hbw4.size)
  have u0 : w5.cell? ⟨g, 0, none⟩ = some (.string s0) := (hb5.cell (p := ⟨g, 0, none⟩) (by simp; omega)).trans ((hb4.cell (p := ⟨g, 0, none⟩) (by simp; omega)).trans ((hb3.cell (p := ⟨g, 0, none⟩) (by simp; omega)).trans ((hb2.cell (p := ⟨g, 0, none⟩) (by simp; omega)).trans G0.out)))
  have u1 : w5.cell? ⟨g, 1, none⟩ = some (.string s5_2) := (hb5.cell (p := ⟨g, 1, none⟩) (by simp; omega)).trans ((hb4.cell (p := ⟨g, 1, none⟩) (by simp; omega)).trans ((hb3.cell (p := ⟨g, 1, none⟩) (by simp; omega)).trans ((hb2.cell (p := ⟨g, 1, none⟩) (by simp; omega)).trans G1.out)))
  have k1 : ∀ W, (binOp .eql 33 (.agg #[.string s0, .string s5_2]) (.agg #[.string s0, .string s5_2])).run Tryz.prog W = .ok (.bool true) W := fun _ => by kernel_rfl
  have k2 : ∀ W, (binOp .eql 33 (.agg #[.string s1, .string s4]) (.agg #[.string s1, .string s4])).run Tryz.prog W = .ok (.bool true) W := fun _ => by kernel_rfl
  clear hS hpm hpw hown m1 m3
  go_wp2
  go_ret
  exact ⟨rfl, hbw5⟩
end Go.Proofs.YtbogpbjddaoeiaaGreatDoor
