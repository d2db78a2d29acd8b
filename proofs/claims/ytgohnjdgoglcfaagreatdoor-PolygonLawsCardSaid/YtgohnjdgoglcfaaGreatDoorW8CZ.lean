/-
For any draft and any place that came in, the law klippelaw09.PolygonLaws returns true, and its arguments read behind the call as they read before.
Conditions: the listed package-level variables read as the program's text lays them (the card ties them to the text).
-/
import Derived.Test.YtgohnjdgoglcfaaGreatDoorW8Z
import Derived.Test.YtgohnjdgoglcfaaGreatDoorOpnKZ
import Derived.Test.YtgohnjdgoglcfaaGreatDoorOpnDZ
set_option maxRecDepth 100000
set_option maxHeartbeats 8000000
namespace Go.Proofs.YtgohnjdgoglcfaaGreatDoor.lawPolygonLaws
open Go.ChangeShapes Go.WideShapes Go.ChangeAt Go.RowKit
theorem contract (H:Type) (enc:TypeId × Value→H) (W:World) (base:Nat) (args:Array Value) (ds gs:List (DataW H)) (before:List MemPlace)
  (hval:∀ (j:Nat) t v,Tryz.f10.params[j]?=some t→args[j]?=some v→Value.okWide Tryz.prog W .any base t v)
  (hW:DataW.Whole enc Tryz.prog Tryz.f10.params.toList Rows.polygonLawsSpec.vars false W args.toList ds gs before) (hL:laidMetH Tryz.prog Rows.polygonLawsRow.laid W) (hS:W.ShapedOpen Tryz.prog) :
  Calls Tryz.prog 10 args W fun e W'=>∃ v,e=.returned v∧Rows.polygonLawsSpec.post enc Tryz.prog Tryz.f10 false true false false W args v W':=by
 have hW':=hW
 obtain ⟨p,q,hA0,hV,rfl,hfz,hnd⟩:=hW
 have hA:DataW.TrodAll enc Tryz.prog W 0 (fun _=>true) true Tryz.f10.params.toList args.toList ds p:=hA0
 rw [Tryz.params10] at hA hval
 obtain ⟨v0,vs0,d0,ds0,p0,q0,hargs0,hds0,hps0,h0,r0⟩:=trodAll_cons hA
 obtain ⟨v1,vs1,d1,ds1,p1,q1,hargs1,hds1,hps1,h1,r1⟩:=trodAll_cons r0
 obtain ⟨hz1,hz2,hz3⟩:=trodAll_nil r1
 have hargs:args=#[v0,v1]:=by
  cases args with
  | mk l =>
   have e0:l=v0 :: vs0:=hargs0
   rw [e0,hargs1,hz1]
 subst hargs
 obtain ⟨D0,hp0⟩:=open_draft Tryz.underlying36 Tryz.underlying84 Tryz.underlying55 (by kernel_rfl) (by kernel_rfl) rfl rfl (by kernel_rfl) (by kernel_rfl) Tryz.underlying53 Tryz.underlying5 (hval 0 36 v0 rfl rfl) h0
 obtain ⟨x1,hn1,hk1⟩:=open_place Tryz.underlying84 Tryz.underlying55 (by kernel_rfl) (by kernel_rfl) rfl rfl (by kernel_rfl) (by kernel_rfl) Tryz.underlying53 Tryz.underlying5 (hval 1 84 v1 rfl rfl) h1
 subst hn1
 refine (law_PolygonLaws v0 D0 x1 hk1 W (good_of_laid hL hS) hp0).mono fun e W' ⟨he,hb⟩=>?_
 subst he
 refine ⟨_,rfl,law_post hW' rfl ?_ rfl ?_ hb⟩
 ·rw [Tryz.params10]
  intro t ht
  simp only [List.mem_cons,List.not_mem_nil,or_false] at ht
  rcases ht with rfl | rfl
  ·exact ⟨by kernel_rfl,of_decide_eq_true (by kernel_rfl)⟩
  ·exact ⟨by kernel_rfl,of_decide_eq_true (by kernel_rfl)⟩
 ·rw [hds0,hds1,hz2]
  rfl
theorem reads (os:Os) {H:Type} (enc:TypeId × Value→H):∃ places,DataW.whole enc Tryz.prog ((laidWorld os).forCall (fun _ _=>0) ⟨#[],#[.slice none 0 0,.agg #[.int .i16 0,.int .u8 0,.int .i16 0,.int .u8 0,.int .i16 0,.int .u8 0]],[]⟩).memory Tryz.f10.params.toList Rows.polygonLawsSpec.vars false (#[Value.slice none 0 0,Value.agg #[.int .i16 0,.int .u8 0,.int .i16 0,.int .u8 0,.int .i16 0,.int .u8 0]]:Array Value).toList 8=some ([.nil,.agg [.agg [.lit (.int .i16 0),.lit (.int .u8 0)],.agg [.lit (.int .i16 0),.lit (.int .u8 0)],.agg [.lit (.int .i16 0),.lit (.int .u8 0)]]],[],places):=
 ⟨[],by kernel_rfl⟩
theorem lifted (os:Os) (started:os.Started) (H:Type) (enc:TypeId × Value→H) (F:Stop.Interp) :
  ReturnsInHanded {} Tryz.checked os 10 .any ((OpenSpec.ofChange Rows.polygonLawsSpec).preRow enc Tryz.prog Tryz.f10 Rows.polygonLawsRow.domain false Rows.polygonLawsRow.laid) (((OpenSpec.ofChange Rows.polygonLawsSpec).at F).post enc Tryz.prog Tryz.f10 false true false false):=by
 obtain ⟨places,hx⟩:=reads os enc
 refine returnsInHanded_of_row (C:=Tryz.checked) (s:=OpenSpec.ofChange Rows.polygonLawsSpec) own started (by kernel_rfl) Tryz.func10
  (witness_row_at (enc:=enc) (C:=Tryz.checked) false (laidWorld os) #[.slice none 0 0,.agg #[.int .i16 0,.int .u8 0,.int .i16 0,.int .u8 0,.int .i16 0,.int .u8 0]] rfl (by kernel_rfl) (by kernel_rfl) (by kernel_rfl)
   (OpenSpec.preRow_of_cond 8 hx (by kernel_rfl) (fun k hk=>by cases hk) (by kernel_rfl) (laid_met os _))) ?_
 intro W base args ds gs before hval hW _ _ _ hL hS _
 exact contract H enc W base args ds gs before hval hW hL hS
theorem named:Tryz.pinned.checked.prog.funcNamed Rows.polygonLawsRow.func=some 10:=by kernel_rfl
theorem closed:joinedFacts Tryz.pinned.checked.prog 10 Tryz.f10 (OpenSpec.ofChange Rows.polygonLawsSpec).bare Rows.polygonLawsRow=true:=by
 unfold joinedFacts
 repeat' (with_reducible apply and_true_of)
 all_goals as_aux_lemma=>kernel_rfl
theorem inst:Tryz.f10.isInstance Tryz.pinned.checked.prog Rows.polygonLawsRow.origin Rows.polygonLawsRow.targs:=of_decide_eq_true (by kernel_rfl)
theorem wrap:Tryz.f10.isWrapper Tryz.pinned.checked.prog Rows.polygonLawsRow.wrapper Rows.polygonLawsRow.mainSum:=by unfold Func.isWrapper;first | (rw [if_pos (by decide +kernel)];kernel_rfl) | (rw [if_neg (by decide +kernel)];exact ⟨rfl,rfl⟩)
theorem said:Rows.PolygonLawsSaid:=
 OpenClaim.holds_of_cond 10 Tryz.f10 rfl rfl rfl rfl rfl rfl rfl ⟨rfl,rfl,rfl,rfl,rfl⟩ rfl rfl rfl rfl rfl named Tryz.func10 closed inst wrap
  (fun os started H enc _ F=>by rw [OpenClaim.pre_eq_preRow];exact lifted os started H enc F)
theorem plain (f : FuncId) (fn : Func) (hf : Tryz.pinned.checked.prog.funcNamed "klippe/klippelaw09.PolygonLaws" = some f) (hfn : Tryz.pinned.checked.prog.funcs[f]? = some fn) :
  true=Tryz.pinned.checked.prog.looks []∧∀ (j:Nat) t,fn.params[j]?=some t→Tryz.pinned.checked.prog.wantsStandIn t=false:=by
 obtain rfl : f = 10 := Option.some.inj ((show Tryz.prog.funcNamed "klippe/klippelaw09.PolygonLaws" = some 10 by kernel_rfl).symm.trans hf) |>.symm
 obtain rfl:fn=Tryz.f10:=(Option.some.inj (Tryz.func10.symm.trans hfn)).symm
 refine ⟨by kernel_rfl,fun j t ht=>?_⟩
 rw [Tryz.params10] at ht
 have hm:t=36∨t=84:=by simpa using Array.mem_of_getElem? ht
 rcases hm with rfl | rfl
 ·exact (show Tryz.prog.wantsStandIn 36=false by kernel_rfl)
 ·exact (show Tryz.prog.wantsStandIn 84=false by kernel_rfl)
theorem proved:Rows.PolygonLawsCardSaid:=
 Claim7.holds_tied_plain_at .later [] _ _ _ _ said (fun _ h=>by cases h) (by kernel_rfl) (fun _ h=>by cases h) polygonLaws_row_tie rfl ⟨rfl,rfl⟩ (by kernel_rfl) rfl plain (by kernel_rfl)
end Go.Proofs.YtgohnjdgoglcfaaGreatDoor.lawPolygonLaws
