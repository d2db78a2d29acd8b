/-
For every list of knots that came in, the law klippelaw04.RangesKnots returns true, and its arguments read behind the call as they read before.
Conditions: the listed package-level variables read as the program's text lays them (the card ties them to the text).
-/
import Derived.Test.YtbogpbjddaoeiaaGreatDoorKnotsZ
import Derived.Test.YtbogpbjddaoeiaaGreatDoorOpenKZ
import Derived.Test.YtbogpbjddaoeiaaGreatDoorShutZ
namespace Go.Proofs.YtbogpbjddaoeiaaGreatDoor.lawRangesKnots
open Go.ChangeShapes Go.WideShapes Go.ChangeAt Go.RowKit
set_option maxRecDepth 100000 in
theorem contract (H : Type) (enc : TypeId × Value → H) (W : World) (base : Nat) (args : Array Value) (ds gs : List (DataW H)) (before : List MemPlace)
    (hval : ∀ (j : Nat) t v, Tryz.f13.params[j]? = some t → args[j]? = some v → Value.okWide Tryz.prog W .any base t v)
    (hW : DataW.Whole enc Tryz.prog Tryz.f13.params.toList Rows.rangesKnotsSpec.vars false W args.toList ds gs before) (hL : laidMetH Tryz.prog Rows.rangesKnotsRow.laid W) (hS : W.ShapedOpen Tryz.prog) :
    Calls Tryz.prog 13 args W fun e W' => ∃ v, e = .returned v ∧ Rows.rangesKnotsSpec.post enc Tryz.prog Tryz.f13 false true false false W args v W' := by
  have hW' := hW
  obtain ⟨p, q, hA0, hV, rfl, hfz, hnd⟩ := hW
  have hA : DataW.TrodAll enc Tryz.prog W 0 (fun _ => true) true Tryz.f13.params.toList args.toList ds p := hA0
  rw [Tryz.params13] at hA hval
  obtain ⟨v0, vs0, d0, ds0, p0, q0, hargs0, hds0, hps0, h0, r0⟩ := trodAll_cons hA
  obtain ⟨hz1, hz2, hz3⟩ := trodAll_nil r0
  have hargs : args = #[v0] := by
    cases args with
    | mk l =>
      have e0 : l = v0 :: vs0 := hargs0
      rw [e0, hz1]
  subst hargs
  obtain ⟨L0, hp0⟩ := open_pairs Tryz.underlying51 Tryz.underlying97 (by kernel_rfl) rfl rfl (by kernel_rfl) (by kernel_rfl) Tryz.underlying31 Tryz.underlying31 (hval 0 51 v0 rfl rfl) h0
  refine (law_RangesKnots v0 L0 W (good_of_laid hL hS) hp0).mono fun e W' ⟨he, hb⟩ => ?_
  subst he
  refine ⟨_, rfl, law_post hW' rfl ?_ rfl ?_ hb⟩
  · rw [Tryz.params13]
    intro t ht
    simp only [List.mem_cons, List.not_mem_nil, or_false] at ht
    subst ht
    exact ⟨by kernel_rfl, of_decide_eq_true (by kernel_rfl)⟩
  · rw [hds0, hz2]
    rfl
set_option maxRecDepth 100000 in
theorem reads (os : Os) {H : Type} (enc : TypeId × Value → H) : ∃ places, DataW.whole enc Tryz.prog ((laidWorld os).forCall (fun _ _ => 0) ⟨#[], #[.slice none 0 0], []⟩).memory Tryz.f13.params.toList Rows.rangesKnotsSpec.vars false (#[Value.slice none 0 0] : Array Value).toList 8 = some ([.nil], [], places) :=
  ⟨[], by kernel_rfl⟩
set_option maxRecDepth 100000 in
theorem lifted (os : Os) (started : os.Started) (H : Type) (enc : TypeId × Value → H) (F : Stop.Interp) :
    ReturnsInHanded {} Tryz.checked os 13 .any ((OpenSpec.ofChange Rows.rangesKnotsSpec).preRow enc Tryz.prog Tryz.f13 Rows.rangesKnotsRow.domain false Rows.rangesKnotsRow.laid) (((OpenSpec.ofChange Rows.rangesKnotsSpec).at F).post enc Tryz.prog Tryz.f13 false true false false) := by
  obtain ⟨places, hx⟩ := reads os enc
  refine returnsInHanded_of_row (C := Tryz.checked) (s := OpenSpec.ofChange Rows.rangesKnotsSpec) own started (by kernel_rfl) Tryz.func13
    (witness_row_at (enc := enc) (C := Tryz.checked) false (laidWorld os) #[.slice none 0 0] rfl (by kernel_rfl) (by kernel_rfl) (by kernel_rfl)
      (OpenSpec.preRow_of_cond 8 hx (by kernel_rfl) (fun k hk => by cases hk) (by kernel_rfl) (laid_met os _))) ?_
  intro W base args ds gs before hval hW _ _ _ hL hS _
  exact contract H enc W base args ds gs before hval hW hL hS
theorem named : Tryz.pinned.checked.prog.funcNamed Rows.rangesKnotsRow.func = some 13 := by kernel_rfl
set_option maxHeartbeats 8000000 in
set_option maxRecDepth 100000 in
theorem closed : joinedFacts Tryz.pinned.checked.prog 13 Tryz.f13 (OpenSpec.ofChange Rows.rangesKnotsSpec).bare Rows.rangesKnotsRow = true := by
  unfold joinedFacts
  repeat' (with_reducible apply and_true_of)
  all_goals as_aux_lemma => kernel_rfl
theorem inst : Tryz.f13.isInstance Tryz.pinned.checked.prog Rows.rangesKnotsRow.origin Rows.rangesKnotsRow.targs := of_decide_eq_true (by kernel_rfl)
theorem wrap : Tryz.f13.isWrapper Tryz.pinned.checked.prog Rows.rangesKnotsRow.wrapper Rows.rangesKnotsRow.mainSum := by unfold Func.isWrapper; first | (rw [if_pos (by decide +kernel)]; kernel_rfl) | (rw [if_neg (by decide +kernel)]; exact ⟨rfl, rfl⟩)
theorem said : Rows.RangesKnotsSaid :=
  OpenClaim.holds_of_cond 13 Tryz.f13 rfl rfl rfl rfl rfl rfl rfl ⟨rfl, rfl, rfl, rfl, rfl⟩ rfl rfl rfl rfl rfl named Tryz.func13 closed inst wrap
    (fun os started H enc _ F => by rw [OpenClaim.pre_eq_preRow]; exact lifted os started H enc F)
theorem plain (f : FuncId) (fn : Func) (hf : Tryz.pinned.checked.prog.funcNamed "klippe/klippelaw04.RangesKnots" = some f) (hfn : Tryz.pinned.checked.prog.funcs[f]? = some fn) :
    true = Tryz.pinned.checked.prog.looks [] ∧ ∀ (j : Nat) t, fn.params[j]? = some t → Tryz.pinned.checked.prog.wantsStandIn t = false := by
  obtain rfl : f = 13 := Option.some.inj ((show Tryz.prog.funcNamed "klippe/klippelaw04.RangesKnots" = some 13 by kernel_rfl).symm.trans hf) |>.symm
  obtain rfl : fn = Tryz.f13 := (Option.some.inj (Tryz.func13.symm.trans hfn)).symm
  refine ⟨by kernel_rfl, fun j t ht => ?_⟩
  rw [Tryz.params13] at ht
  obtain rfl : t = 51 := by simpa using Array.mem_of_getElem? ht
  exact (show Tryz.prog.wantsStandIn 51 = false by kernel_rfl)
theorem proved : Rows.RangesKnotsCardSaid :=
  Claim7.holds_tied_plain_at .later [] _ _ _ _ said (fun _ h => by cases h) (by kernel_rfl) (fun _ h => by cases h) rangesKnots_row_tie rfl ⟨rfl, rfl⟩ (by kernel_rfl) rfl plain (by kernel_rfl)
end Go.Proofs.YtbogpbjddaoeiaaGreatDoor.lawRangesKnots
