import Derived.Test.YtglncfkoohgdaaaGreatDoorG55R
import Derived.Test.YtglncfkoohgdaaaGreatDoorOpnKR
import Derived.Test.YtglncfkoohgdaaaGreatDoorSht45R
/-
For any plan of a ae9 that came in, the law klippelaw45.PanelLess returns true, and its arguments read behind the call as they read before.
NS: the listed package-level variables read as the program's text lays them (the card ties them to the text).
-/
set_option maxRecDepth 100000
set_option maxHeartbeats 8000000
namespace Go.Proofs.YtglncfkoohgdaaaGreatDoor.lawPanelLess
open Go.ChangeShapes Go.WideShapes Go.ChangeAt Go.RowKit
theorem contract (H:Type) (enc:TypeId × Value→H) (W:World) (base:Nat) (args:Array Value) (ds gs:List (DataW H)) (before:List MemPlace)
  (hval:∀ (j:Nat) t v,Tryz.f3.params[j]?=some t→args[j]?=some v→Value.okWide Tryz.prog W .any base t v)
  (hW:DataW.Whole enc Tryz.prog Tryz.f3.params.toList Rows.panelLessSpec.vars false W args.toList ds gs before) (hL:laidMetH Tryz.prog Rows.panelLessRow.laid W) (hS:W.ShapedOpen Tryz.prog) :
  Calls Tryz.prog 3 args W fun e W'=>∃ v,e=.returned v∧Rows.panelLessSpec.post enc Tryz.prog Tryz.f3 false true false false W args v W':=by
 have hW':=hW
 obtain ⟨p,q,P8,hV,rfl,hfz,hnd⟩:=hW
 have hA:DataW.TrodAll enc Tryz.prog W 0 (fun _=>true) true Tryz.f3.params.toList args.toList ds p:=P8
 rw [Tryz.params3] at hA hval
 obtain ⟨v0,vs0,d0,ds0,p0,q0,NT,hds0,agB,h0,r0⟩:=trodAll_cons hA
 obtain ⟨hz1,hz2,hz3⟩:=trodAll_nil r0
 have hargs:args=#[v0]:=by
  cases args with
  | mk l =>
   have e0:l=v0 :: vs0:=NT
   rw [e0,hz1]
 subst hargs
 obtain ⟨s0,D0,hn0,hp0⟩:=Ab Tryz.underlying28 (by kernel_rfl) rfl rfl rfl rfl rfl (by kernel_rfl) (by kernel_rfl) (by kernel_rfl) (by kernel_rfl) (by kernel_rfl) Tryz.underlying23 (by kernel_rfl) Tryz.underlying5 Tryz.underlying24 Tryz.underlying26 Tryz.underlying24 (by kernel_rfl) Tryz.underlying5 (by kernel_rfl) Tryz.underlying25 Tryz.underlying22 Tryz.underlying161 (by kernel_rfl) rfl rfl rfl (by kernel_rfl) (by kernel_rfl) (by kernel_rfl) Tryz.underlying5 Tryz.underlying5 Tryz.underlying5 (hval 0 28 v0 rfl rfl) h0
 subst hn0
 refine (law_less s0 D0 hp0 (xK hL hS)).mono fun e W' ⟨he,hb⟩=>?_
 subst he
 refine ⟨_,rfl,law_post hW' rfl ?_ rfl ?_ hb⟩
 ·rw [Tryz.params3]
  intro t ht
  simp only [List.mem_cons,List.not_mem_nil,or_false] at ht
  subst ht
  exact ⟨by kernel_rfl,of_decide_eq_true (by kernel_rfl)⟩
 ·rw [hds0,hz2]
  rfl
theorem reads (os:Os) {H:Type} (enc:TypeId × Value→H):∃ places,DataW.whole enc Tryz.prog ((oO os).forCall (fun _ _=>0) ⟨#[],#[.agg #[.slice none 0 0,.slice none 0 0,.slice none 0 0,.slice none 0 0,.int .u8 0,.int .u8 0,.int .u8 0,.int .u8 0,.int .u8 0,.int .i8 0,.int .i8 0,.int .i8 0,.int .i8 0,.int .u8 0,.int .u8 0,.int .u8 0,.int .u8 0]],[]⟩).memory Tryz.f3.params.toList Rows.panelLessSpec.vars false (#[Value.agg #[.slice none 0 0,.slice none 0 0,.slice none 0 0,.slice none 0 0,.int .u8 0,.int .u8 0,.int .u8 0,.int .u8 0,.int .u8 0,.int .i8 0,.int .i8 0,.int .i8 0,.int .i8 0,.int .u8 0,.int .u8 0,.int .u8 0,.int .u8 0]]:Array Value).toList 8=some ([.agg [.agg [.nil,.nil,.nil,.nil],.lit (.int .u8 0),.agg [.lit (.int .u8 0),.lit (.int .u8 0),.lit (.int .u8 0),.lit (.int .u8 0)],.agg [.lit (.int .i8 0),.lit (.int .i8 0),.lit (.int .i8 0),.lit (.int .i8 0)],.agg [.lit (.int .u8 0),.lit (.int .u8 0),.lit (.int .u8 0),.lit (.int .u8 0)]]],[],places):=
 ⟨[],by kernel_rfl⟩
theorem lifted (os:Os) (started:os.Started) (H:Type) (enc:TypeId × Value→H) (F:Stop.Interp) :
  ReturnsInHanded {} Tryz.checked os 3 .any ((OpenSpec.ofChange Rows.panelLessSpec).preRow enc Tryz.prog Tryz.f3 Rows.panelLessRow.domain false Rows.panelLessRow.laid) (((OpenSpec.ofChange Rows.panelLessSpec).at F).post enc Tryz.prog Tryz.f3 false true false false):=by
 obtain ⟨places,hx⟩:=reads os enc
 refine returnsInHanded_of_row (C:=Tryz.checked) (s:=OpenSpec.ofChange Rows.panelLessSpec) own started (by kernel_rfl) Tryz.func3
  (witness_row_at (enc:=enc) (C:=Tryz.checked) false (oO os) #[.agg #[.slice none 0 0,.slice none 0 0,.slice none 0 0,.slice none 0 0,.int .u8 0,.int .u8 0,.int .u8 0,.int .u8 0,.int .u8 0,.int .i8 0,.int .i8 0,.int .i8 0,.int .i8 0,.int .u8 0,.int .u8 0,.int .u8 0,.int .u8 0]] rfl (by kernel_rfl) (by kernel_rfl) (by kernel_rfl)
   (OpenSpec.preRow_of_cond 8 hx (by kernel_rfl) (fun k hk=>by cases hk) (by kernel_rfl) (Lj os _))) ?_
 intro W base args ds gs before hval hW _ _ _ hL hS _
 exact contract H enc W base args ds gs before hval hW hL hS
theorem named:Tryz.pinned.checked.prog.funcNamed Rows.panelLessRow.func=some 3:=by kernel_rfl
theorem closed:joinedFacts Tryz.pinned.checked.prog 3 Tryz.f3 (OpenSpec.ofChange Rows.panelLessSpec).bare Rows.panelLessRow=true:=by
 unfold joinedFacts
 repeat' (with_reducible apply Ac)
 all_goals as_aux_lemma=>kernel_rfl
theorem inst:Tryz.f3.isInstance Tryz.pinned.checked.prog Rows.panelLessRow.origin Rows.panelLessRow.targs:=of_decide_eq_true (by kernel_rfl)
theorem wrap:Tryz.f3.isWrapper Tryz.pinned.checked.prog Rows.panelLessRow.wrapper Rows.panelLessRow.mainSum:=by unfold Func.isWrapper;first | (rw [if_pos (by decide +kernel)];kernel_rfl) | (rw [if_neg (by decide +kernel)];exact ⟨rfl,rfl⟩)
theorem said:Rows.PanelLessSaid:=
 OpenClaim.holds_of_cond 3 Tryz.f3 rfl rfl rfl rfl rfl rfl rfl ⟨rfl,rfl,rfl,rfl,rfl⟩ rfl rfl rfl rfl rfl named Tryz.func3 closed inst wrap
  (fun os started H enc _ F=>by rw [OpenClaim.pre_eq_preRow];exact lifted os started H enc F)
theorem plain (f : FuncId) (fn : Func) (hf : Tryz.pinned.checked.prog.funcNamed "klippe/klippelaw45.PanelLess" = some f) (hfn : Tryz.pinned.checked.prog.funcs[f]? = some fn) :
  true=Tryz.pinned.checked.prog.looks []∧∀ (j:Nat) t,fn.params[j]?=some t→Tryz.pinned.checked.prog.wantsStandIn t=false:=by
 obtain rfl : f = 3 := Option.some.inj ((show Tryz.prog.funcNamed "klippe/klippelaw45.PanelLess" = some 3 by kernel_rfl).symm.trans hf) |>.symm
 obtain rfl:fn=Tryz.f3:=(Option.some.inj (Tryz.func3.symm.trans hfn)).symm
 refine ⟨by kernel_rfl,fun j t ht=>?_⟩
 rw [Tryz.params3] at ht
 obtain rfl:t=28:=by simpa using Array.mem_of_getElem? ht
 exact (show Tryz.prog.wantsStandIn 28=false by kernel_rfl)
theorem proved:Rows.PanelLessCardSaid:=
 Claim7.holds_tied_plain_at .later [] _ _ _ _ said (fun _ h=>by cases h) (by kernel_rfl) (fun _ h=>by cases h) panelLess_row_tie rfl ⟨rfl,rfl⟩ (by kernel_rfl) rfl plain (by kernel_rfl)
end Go.Proofs.YtglncfkoohgdaaaGreatDoor.lawPanelLess
