import Derived.Test.YtbogpbjddaoeiaaGreatDoorAboveEZ
import Derived.Test.YtbogpbjddaoeiaaGreatDoorAbvQZ
import Derived.Test.YtbogpbjddaoeiaaGreatDoorOfEZ
namespace Go.Proofs.YtbogpbjddaoeiaaGreatDoor
open Go.RowKit Go.Shelf
open Go.Lib (decDigits itoa nDigits)
/-- what is known of a description's knots -/
structure Fk (Q : List QP) : Prop where
  fr : FrAll Q
  hv : Halved Q
  asc : AscQ Q
  pos : 0 < Q.length
  len : Q.length ≤ 8
theorem Fk.of {D : List Duo} (h : ∀ d ∈ D, okDuo d) : Fk (ptsQ D) := ⟨ptsQ_fr h, halved_ptsQ h, ptsQ_asc D, (ptsQ_len D).1, (ptsQ_len D).2⟩
theorem Fk.rats {Q : List QP} (h : Fk Q) : rats (Q.map textP) = Q := texts_rats h.fr
theorem Fk.err {Q : List QP} (h : Fk Q) : knotsErr (Q.map textP) = 0 := texts_err h.fr h.asc h.pos (by have := h.len; omega)
theorem Fk.sz {Q : List QP} (h : Fk Q) : SzOk (Q.map textP) := szOk_of (texts_ok h.fr)
theorem stepsP_okB {hi : ByteArray} (hh : ratB hi.data.toList = true) : ∀ (L : List Pair) (f : ByteArray), AllOk L → ratB f.data.toList = true → ∀ p ∈ stepsP hi f L, ratB p.1.data.toList = true ∧ ratB p.2.data.toList = true
  | [], f, _, hf, p, hp => by rw [List.mem_singleton.1 hp]; exact ⟨hf, hh⟩
  | k :: r, f, hL, hf, p, hp => by
    have hr : AllOk r := fun x hx => hL x (List.mem_cons_of_mem k hx)
    have hk := (hL k (List.mem_cons_self ..)).1
    unfold stepsP at hp
    by_cases h1 : ratV f < ratV k.1
    · rw [if_pos h1] at hp
      by_cases h2 : ratV k.1 < ratV hi
      · rw [if_pos h2] at hp
        rcases List.mem_cons.1 hp with e | e
        · rw [e]; exact ⟨hf, hk⟩
        · exact stepsP_okB hh r k.1 hr hk p e
      · rw [if_neg h2] at hp
        rw [List.mem_singleton.1 hp]; exact ⟨hf, hh⟩
    · rw [if_neg h1] at hp
      exact stepsP_okB hh r f hr hf p hp
theorem mem_rats {L : List Pair} {p : Pair} (h : p ∈ L) : (ratV p.1, ratV p.2) ∈ rats L := by unfold rats; exact List.mem_map.2 ⟨p, h, rfl⟩
theorem rp_texts : ∀ Z : List RP, Z.map (·.1) = (rats (Z.map (·.1))).map textP
  | [] => rfl
  | x :: Z => by
    rw [List.map_cons, rats_cons, List.map_cons, ← rp_texts Z]
    congr 1
    exact Prod.ext (text_of x.2.1 rfl) (text_of x.2.2 rfl)
/-- Above's word, on a function that is right -/
def AbvW (U : List QP) (w : World) (e : Ending) (w' : World) : Prop := ∃ v : Value, e = .returned (.tuple #[v, .int .i64 0]) ∧ U.length ≤ 9 ∧ Pairs w' v (U.map textP) ∧ Below w.heap.size w w'
theorem above_fn {Q : List QP} (hQ : Fk Q) {h lo hi : Rat} (hh : Dn 64 2 h) (h1 : Dn 192 2 lo) (h2 : Dn 192 2 hi) (hlt : lo < hi) (v : Value) (w : World) (hw : Good w) (hv : Pairs w v (Q.map textP)) :
    Calls Tryz.prog 33 #[v, .string (tx h), .agg #[.string (tx lo), .string (tx hi)]] w (AbvW (aboveU Q h lo hi) w) := by
  obtain ⟨a1, a2⟩ := (frB_dn (hh.mono (B' := 192) (by decide))).ok
  obtain ⟨b1, b2⟩ := (frB_dn h1).ok
  obtain ⟨c1, c2⟩ := (frB_dn h2).ok
  have sa := ratB_size a1
  have sb := ratB_size b1
  have sc := ratB_size c1
  have hl8 := hQ.len
  have hpos := hQ.pos
  have hok := texts_ok hQ.fr
  have hR := hQ.rats
  have hst := stepsP_rats (tx hi) (tx lo) (Q.map textP)
  rw [hR, b2, c2] at hst
  have hall : ∀ p ∈ stepsP (tx hi) (tx lo) (Q.map textP), OkA (Q.map textP) h p := fun p hp => by
    obtain ⟨p1, p2⟩ := stepsP_okB c1 _ _ hok b1 p hp
    refine ⟨p1, p2, ?_⟩
    rw [aboveX_rats, hR]
    have hm := mem_rats hp
    rw [hst] at hm
    obtain ⟨d1, d2⟩ := stepsQ_dn h2 Q lo (fun k hk => (hQ.hv.all k hk).1.mono (by decide)) h1 _ hm
    exact (aboveX_fr hQ.hv hQ.asc hQ.pos hh d1 d2).okT
  have key := ranges_Above_ok v (Q.map textP) (tx h) h (isR_mk h) (tx lo) (tx hi) w hw hv hQ.sz (by omega) (by omega) (by omega) (atErr_ok hQ.err a1) (partErr_zero b1 c1 (by rw [b2, c2]; exact hlt)) hok (knotsErr_ok hQ.err).2.1 (by rw [List.length_map]; omega) (by rw [List.length_map]; exact hpos) b1 c1 hall
  refine (callsIn_plain key).mono ?_
  rintro e w' ⟨u, S, M, he, hS, hpm, hpw, hown, hb⟩
  have hs : Steps Q lo hi := ⟨hQ.asc, hlt⟩
  have hU : rats ((mergeP M).map (·.1)) = aboveU Q h lo hi := by
    rw [merged_rats (S := aboveL Q h lo hi) hpm hpw (aboveL_asc hs) ?_]
    · rfl
    · rw [abovesP_rats, hS, hst, hR]
      exact List.Perm.refl _
  have hT := rp_texts (mergeP M)
  rw [hU] at hT
  refine ⟨u, he, ?_, ?_, hb⟩
  · have e1 := mergeP_le M
    have e2 := hpm.length_eq
    have e3 := flat_le S
    have e4 := congrArg List.length hS
    have e5 := stepsP_length (tx hi) (Q.map textP) (tx lo)
    have e6 := congrArg List.length hU
    rw [rats_len] at e6
    rw [List.length_map] at e4 e5 e6
    omega
  · rw [cellsP_S] at hown
    have hl : ((mergeP M).map (·.1)).length = (mergeP M).length := List.length_map ..
    rw [← hl, hT] at hown
    exact pairs_of_cells hown
/-- what is returned is right -/
theorem textsB_rats {U : List QP} (h : ∀ u ∈ U, FrB u.1 ∧ FrB u.2) : rats (U.map textP) = U := by
  induction U with
  | nil => rfl
  | cons p r ih =>
    have hp := h p (List.mem_cons_self ..)
    rw [List.map_cons, rats_cons, ih fun q hq => h q (List.mem_cons_of_mem _ hq)]
    unfold textP
    dsimp only
    rw [hp.1.ok.2, hp.2.ok.2]
theorem textsB_check {U : List QP} (h : ∀ u ∈ U, FrB u.1 ∧ FrB u.2) (hn : NormQ U) (hl : U.length ≤ 9) : checkErr (U.map textP) = 0 := by
  refine checkErr_zero (by rw [List.length_map]; omega) (fun p hp => ?_) (by rw [textsB_rats h]; exact hn.2)
  obtain ⟨u, hu, rfl⟩ := List.mem_map.1 hp
  have hf := h u hu
  exact partErr_zero hf.1.ok.1 hf.2.ok.1 (by show ratV (tx u.1) < ratV (tx u.2); rw [hf.1.ok.2, hf.2.ok.2]; exact hn.1 u hu)
/-- Contains, in numbers -/
theorem hasV_cov {L : List Pair} (q : Rat) : hasV L q = true ↔ covQ (rats L) q := by
  unfold hasV covQ rats
  rw [List.any_eq_true]
  constructor
  · rintro ⟨p, hp, h⟩
    unfold inP at h
    simp only [Bool.and_eq_true, Bool.not_eq_true', decide_eq_false_iff_not, Rat.not_lt] at h
    exact ⟨_, List.mem_map.2 ⟨p, hp, rfl⟩, h.1, h.2⟩
  · rintro ⟨u, hu, h1, h2⟩
    obtain ⟨p, hp, rfl⟩ := List.mem_map.1 hu
    refine ⟨p, hp, ?_⟩
    unfold inP
    simp only [Bool.and_eq_true, Bool.not_eq_true', decide_eq_false_iff_not, Rat.not_lt]
    exact ⟨h1, h2⟩
theorem value_fn {Q : List QP} (hQ : Fk Q) {c : Rat} (hc : FrB c) (v : Value) (w : World) (hw : Good w) (hv : Pairs w v (Q.map textP)) :
    Calls Tryz.prog 36 #[v, .string (tx c)] w fun e w' => e = .returned (.tuple #[.string (tx (valueQ Q c)), .int .i64 0]) ∧ Below w.heap.size w w' := by
  obtain ⟨c1, c2⟩ := hc.ok
  have he : valueV (Q.map textP) (ratV (tx c)) = valueQ Q c := by rw [valueV_rats, hQ.rats, c2]
  have h := value_ok v (Q.map textP) (tx c) w hw hv hQ.err c1 (by rw [he]; exact value_text hQ.fr hQ.asc hQ.pos hc)
  rw [he] at h
  refine h.mono ?_
  rintro e w' ⟨r, rfl, hr, hb⟩
  exact ⟨by rw [hr.unique (isR_mk _)], hb⟩
theorem has_fn {L : List Pair} (hk : checkErr L = 0) {m : Rat} (hm : Fr (10 ^ 130) (10 ^ 130) m) (v : Value) (w : World) (hw : Good w) (hv : Pairs w v L) :
    Calls Tryz.prog 31 #[v, .string (tx m)] w fun e w' => e = .returned (.tuple #[.bool (hasV L m), .int .i64 0]) ∧ Below w.heap.size w w' := by
  obtain ⟨c1, c2⟩ := okR2 hm (by decide) (by decide)
  have h := contains_ok v _ (tx m) w hw hv hk c1
  rw [c2] at h
  exact h
/-- what is asked of a piece -/
theorem above_piece {Q : List QP} {h lo hi c d : Rat} (s : Steps Q lo hi) (k : Cut Q h lo hi c d) {b : Bool} (hb : b = true ↔ covQ (aboveU Q h lo hi) ((c + d) * (1 / 2))) :
    (b = true → ¬ valueQ Q c < h ∧ ¬ valueQ Q d < h) ∧ (b = false → ¬ h < valueQ Q c ∧ ¬ h < valueQ Q d ∧ ¬ (valueQ Q c = h ∧ valueQ Q d = h)) := by
  obtain ⟨m1, m2⟩ := middle_in k.lt
  rw [valueQ_valF, valueQ_valF]
  constructor
  · intro e
    obtain ⟨a1, a2⟩ := above_in s k m1 m2 (hb.1 e)
    exact ⟨Rat.not_lt.2 a1, Rat.not_lt.2 a2⟩
  · intro e
    obtain ⟨a1, a2, a3⟩ := above_out s k m1 m2 (fun hc => by rw [hb.2 hc] at e; cases e)
    exact ⟨Rat.not_lt.2 a1, Rat.not_lt.2 a2, a3⟩
theorem badX : ratB (⟨#[120]⟩ : ByteArray).data.toList = false := by
  cases h : ratB (⟨#[120]⟩ : ByteArray).data.toList
  · rfl
  · exfalso
    have h1 : ratOk [120] := ratB_iff.1 h
    exact absurd ((ratOk_whole (by decide)).1 h1) (by decide)
theorem bad11 : partErr s1 s1 = 7 := by unfold partErr; rw [ok1.1]; simp
end Go.Proofs.YtbogpbjddaoeiaaGreatDoor
