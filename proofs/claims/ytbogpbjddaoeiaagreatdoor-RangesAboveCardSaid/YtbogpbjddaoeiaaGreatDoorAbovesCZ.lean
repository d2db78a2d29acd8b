/-
For any points, any height in halves and any window between halves that came in, the law klippelaw04.RangesAbove returns true, and its arguments read behind the call as they read before.
Conditions: the listed package-level variables read as the program's text lays them (the card ties them to the text).
-/
import Derived.Test.YtbogpbjddaoeiaaGreatDoorAbovesZ
import Derived.Test.YtbogpbjddaoeiaaGreatDoorOpenKZ
import Derived.Test.YtbogpbjddaoeiaaGreatDoorShutZ
import Derived.Test.YtbogpbjddaoeiaaGreatDoorOpenAZ
import Derived.Test.YtbogpbjddaoeiaaGreatDoorOpenDZ
namespace Go.Proofs.YtbogpbjddaoeiaaGreatDoor.lawRangesAbove
open Go.ChangeShapes Go.WideShapes Go.ChangeAt Go.RowKit
set_option maxRecDepth 100000 in
theorem contract (H : Type) (enc : TypeId × Value → H) (W : World) (base : Nat) (args : Array Value) (ds gs : List (DataW H)) (before : List MemPlace)
    (hval : ∀ (j : Nat) t v, Tryz.f6.params[j]? = some t → args[j]? = some v → Value.okWide Tryz.prog W .any base t v)
    (hW : DataW.Whole enc Tryz.prog Tryz.f6.params.toList Rows.rangesAboveSpec.vars false W args.toList ds gs before) (hL : laidMetH Tryz.prog Rows.rangesAboveRow.laid W) (hS : W.ShapedOpen Tryz.prog) :
    Calls Tryz.prog 6 args W fun e W' => ∃ v, e = .returned v ∧ Rows.rangesAboveSpec.post enc Tryz.prog Tryz.f6 false true false false W args v W' := by
  have hW' := hW
  obtain ⟨p, q, hA0, hV, rfl, hfz, hnd⟩ := hW
  have hA : DataW.TrodAll enc Tryz.prog W 0 (fun _ => true) true Tryz.f6.params.toList args.toList ds p := hA0
  rw [Tryz.params6] at hA hval
  obtain ⟨v0, vs0, d0, ds0, p0, q0, hargs0, hds0, hps0, h0, r0⟩ := trodAll_cons hA
  obtain ⟨v1, vs1, d1, ds1, p1, q1, hargs1, hds1, hps1, h1, r1⟩ := trodAll_cons r0
  obtain ⟨v2, vs2, d2, ds2, p2, q2, hargs2, hds2, hps2, h2, r2⟩ := trodAll_cons r1
  obtain ⟨hz1, hz2, hz3⟩ := trodAll_nil r2
  have hargs : args = #[v0, v1, v2] := by
    cases args with
    | mk l =>
      have e0 : l = v0 :: vs0 := hargs0
      rw [e0, hargs1, hargs2, hz1]
  subst hargs
  obtain ⟨D0, hp0⟩ := open_duos Tryz.underlying42 Tryz.underlying59 Tryz.underlying43 (by kernel_rfl) (by kernel_rfl) (hval 0 42 v0 rfl rfl) h0
  obtain ⟨n1, hn1, hd1, hq1, hwf1⟩ := open_int Tryz.underlying43 (hval 1 43 v1 rfl rfl) h1
  subst hn1
  have hb1 := bounds_i8 hwf1
  obtain ⟨a2, b2, hn2, ho2⟩ := open_duo Tryz.underlying59 Tryz.underlying43 (by kernel_rfl) (by kernel_rfl) (hval 2 59 v2 rfl rfl) h2
  subst hn2
  refine (law_RangesAbove v0 D0 n1 a2 b2 W (good_of_laid hL hS) hp0 hb1.1 hb1.2 ho2).mono fun e W' ⟨he, hb⟩ => ?_
  subst he
  refine ⟨_, rfl, law_post hW' rfl ?_ rfl ?_ hb⟩
  · rw [Tryz.params6]
    intro t ht
    simp only [List.mem_cons, List.not_mem_nil, or_false] at ht
    rcases ht with rfl | rfl | rfl
    · exact ⟨by kernel_rfl, of_decide_eq_true (by kernel_rfl)⟩
    · exact ⟨by kernel_rfl, of_decide_eq_true (by kernel_rfl)⟩
    · exact ⟨by kernel_rfl, of_decide_eq_true (by kernel_rfl)⟩
  · rw [hds0, hds1, hds2, hz2]
    rfl
set_option maxRecDepth 100000 in
theorem reads (os : Os) {H : Type} (enc : TypeId × Value → H) : ∃ places, DataW.whole enc Tryz.prog ((laidWorld os).forCall (fun _ _ => 0) ⟨#[], #[.slice none 0 0, .int .i8 0, .agg #[.int .i8 0, .int .i8 0]], []⟩).memory Tryz.f6.params.toList Rows.rangesAboveSpec.vars false (#[Value.slice none 0 0, Value.int .i8 0, Value.agg #[.int .i8 0, .int .i8 0]] : Array Value).toList 8 = some ([.nil, .lit (.int .i8 0), .agg [.lit (.int .i8 0), .lit (.int .i8 0)]], [], places) :=
  ⟨[], by kernel_rfl⟩
set_option maxRecDepth 100000 in
theorem lifted (os : Os) (started : os.Started) (H : Type) (enc : TypeId × Value → H) (F : Stop.Interp) :
    ReturnsInHanded {} Tryz.checked os 6 .any ((OpenSpec.ofChange Rows.rangesAboveSpec).preRow enc Tryz.prog Tryz.f6 Rows.rangesAboveRow.domain false Rows.rangesAboveRow.laid) (((OpenSpec.ofChange Rows.rangesAboveSpec).at F).post enc Tryz.prog Tryz.f6 false true false false) := by
  obtain ⟨places, hx⟩ := reads os enc
  refine returnsInHanded_of_row (C := Tryz.checked) (s := OpenSpec.ofChange Rows.rangesAboveSpec) own started (by kernel_rfl) Tryz.func6
    (witness_row_at (enc := enc) (C := Tryz.checked) false (laidWorld os) #[.slice none 0 0, .int .i8 0, .agg #[.int .i8 0, .int .i8 0]] rfl (by kernel_rfl) (by kernel_rfl) (by kernel_rfl)
      (OpenSpec.preRow_of_cond 8 hx (by kernel_rfl) (fun k hk => by cases hk) (by kernel_rfl) (laid_met os _))) ?_
  intro W base args ds gs before hval hW _ _ _ hL hS _
  exact contract H enc W base args ds gs before hval hW hL hS
theorem named : Tryz.pinned.checked.prog.funcNamed Rows.rangesAboveRow.func = some 6 := by kernel_rfl
set_option maxHeartbeats 8000000 in
set_option maxRecDepth 100000 in
theorem closed : joinedFacts Tryz.pinned.checked.prog 6 Tryz.f6 (OpenSpec.ofChange Rows.rangesAboveSpec).bare Rows.rangesAboveRow = true := by
  unfold joinedFacts
  repeat' (with_reducible apply and_true_of)
  all_goals as_aux_lemma => kernel_rfl
theorem inst : Tryz.f6.isInstance Tryz.pinned.checked.prog Rows.rangesAboveRow.origin Rows.rangesAboveRow.targs := of_decide_eq_true (by kernel_rfl)
theorem wrap : Tryz.f6.isWrapper Tryz.pinned.checked.prog Rows.rangesAboveRow.wrapper Rows.rangesAboveRow.mainSum := by unfold Func.isWrapper; first | (rw [if_pos (by decide +kernel)]; kernel_rfl) | (rw [if_neg (by decide +kernel)]; exact ⟨rfl, rfl⟩)
theorem said : Rows.RangesAboveSaid :=
  OpenClaim.holds_of_cond 6 Tryz.f6 rfl rfl rfl rfl rfl rfl rfl ⟨rfl, rfl, rfl, rfl, rfl⟩ rfl rfl rfl rfl rfl named Tryz.func6 closed inst wrap
    (fun os started H enc _ F => by rw [OpenClaim.pre_eq_preRow]; exact lifted os started H enc F)
theorem plain (f : FuncId) (fn : Func) (hf : Tryz.pinned.checked.prog.funcNamed "klippe/klippelaw04.RangesAbove" = some f) (hfn : Tryz.pinned.checked.prog.funcs[f]? = some fn) :
    true = Tryz.pinned.checked.prog.looks [] ∧ ∀ (j : Nat) t, fn.params[j]? = some t → Tryz.pinned.checked.prog.wantsStandIn t = false := by
  obtain rfl : f = 6 := Option.some.inj ((show Tryz.prog.funcNamed "klippe/klippelaw04.RangesAbove" = some 6 by kernel_rfl).symm.trans hf) |>.symm
  obtain rfl : fn = Tryz.f6 := (Option.some.inj (Tryz.func6.symm.trans hfn)).symm
  refine ⟨by kernel_rfl, fun j t ht => ?_⟩
  rw [Tryz.params6] at ht
  have hm : t = 42 ∨ t = 43 ∨ t = 59 := by simpa using Array.mem_of_getElem? ht
  rcases hm with rfl | rfl | rfl
  · exact (show Tryz.prog.wantsStandIn 42 = false by kernel_rfl)
  · exact (show Tryz.prog.wantsStandIn 43 = false by kernel_rfl)
  · exact (show Tryz.prog.wantsStandIn 59 = false by kernel_rfl)
theorem proved : Rows.RangesAboveCardSaid :=
  Claim7.holds_tied_plain_at .later [] _ _ _ _ said (fun _ h => by cases h) (by kernel_rfl) (fun _ h => by cases h) rangesAbove_row_tie rfl ⟨rfl, rfl⟩ (by kernel_rfl) rfl plain (by kernel_rfl)
end Go.Proofs.YtbogpbjddaoeiaaGreatDoor.lawRangesAbove
