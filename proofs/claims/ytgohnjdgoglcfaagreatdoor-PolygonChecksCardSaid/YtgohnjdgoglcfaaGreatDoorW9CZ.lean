/-
For any points and any line that came in, the law klippelaw09.PolygonChecks returns true, and its arguments read behind the call as they read before.
Conditions: the listed package-level variables read as the program's text lays them (the card ties them to the text).
-/
import Derived.Test.YtgohnjdgoglcfaaGreatDoorW9Z
import Derived.Test.YtgohnjdgoglcfaaGreatDoorOpnKZ
import Derived.Test.YtgohnjdgoglcfaaGreatDoorOpnDZ
set_option maxRecDepth 100000
set_option maxHeartbeats 8000000
namespace Go.Proofs.YtgohnjdgoglcfaaGreatDoor.lawPolygonChecks
open Go.ChangeShapes Go.WideShapes Go.ChangeAt Go.RowKit
theorem contract (H:Type) (enc:TypeId × Value→H) (W:World) (base:Nat) (args:Array Value) (ds gs:List (DataW H)) (before:List MemPlace)
  (hval:∀ (j:Nat) t v,Tryz.f11.params[j]?=some t→args[j]?=some v→Value.okWide Tryz.prog W .any base t v)
  (hW:DataW.Whole enc Tryz.prog Tryz.f11.params.toList Rows.polygonChecksSpec.vars false W args.toList ds gs before) (hL:laidMetH Tryz.prog Rows.polygonChecksRow.laid W) (hS:W.ShapedOpen Tryz.prog) :
  Calls Tryz.prog 11 args W fun e W'=>∃ v,e=.returned v∧Rows.polygonChecksSpec.post enc Tryz.prog Tryz.f11 false true false false W args v W':=by
 have hW':=hW
 obtain ⟨p,q,hA0,hV,rfl,hfz,hnd⟩:=hW
 have hA:DataW.TrodAll enc Tryz.prog W 0 (fun _=>true) true Tryz.f11.params.toList args.toList ds p:=hA0
 rw [Tryz.params11] at hA hval
 obtain ⟨v0,vs0,d0,ds0,p0,q0,hargs0,hds0,hps0,h0,r0⟩:=trodAll_cons hA
 obtain ⟨v1,vs1,d1,ds1,p1,q1,hargs1,hds1,hps1,h1,r1⟩:=trodAll_cons r0
 obtain ⟨hz1,hz2,hz3⟩:=trodAll_nil r1
 have hargs:args=#[v0,v1]:=by
  cases args with
  | mk l =>
   have e0:l=v0 :: vs0:=hargs0
   rw [e0,hargs1,hz1]
 subst hargs
 obtain ⟨L0,hp0⟩:=open_pairs Tryz.underlying22 Tryz.underlying31 (by kernel_rfl) rfl rfl (by kernel_rfl) (by kernel_rfl) Tryz.underlying29 Tryz.underlying29 (hval 0 22 v0 rfl rfl) h0
 obtain ⟨a1,b1,c1,hn1⟩:=open_three Tryz.underlying64 (by kernel_rfl) rfl rfl rfl (by kernel_rfl) (by kernel_rfl) (by kernel_rfl) Tryz.underlying29 Tryz.underlying29 Tryz.underlying29 (hval 1 64 v1 rfl rfl) h1
 subst hn1
 refine (law_PolygonChecks v0 L0 a1 b1 c1 W (good_of_laid hL hS) hp0).mono fun e W' ⟨he,hb⟩=>?_
 subst he
 refine ⟨_,rfl,law_post hW' rfl ?_ rfl ?_ hb⟩
 ·rw [Tryz.params11]
  intro t ht
  simp only [List.mem_cons,List.not_mem_nil,or_false] at ht
  rcases ht with rfl | rfl
  ·exact ⟨by kernel_rfl,of_decide_eq_true (by kernel_rfl)⟩
  ·exact ⟨by kernel_rfl,of_decide_eq_true (by kernel_rfl)⟩
 ·rw [hds0,hds1,hz2]
  rfl
theorem reads (os:Os) {H:Type} (enc:TypeId × Value→H):∃ places,DataW.whole enc Tryz.prog ((laidWorld os).forCall (fun _ _=>0) ⟨#[],#[.slice none 0 0,.agg #[.string ⟨#[]⟩,.string ⟨#[]⟩,.string ⟨#[]⟩]],[]⟩).memory Tryz.f11.params.toList Rows.polygonChecksSpec.vars false (#[Value.slice none 0 0,Value.agg #[.string ⟨#[]⟩,.string ⟨#[]⟩,.string ⟨#[]⟩]]:Array Value).toList 8=some ([.nil,.agg [.lit (.string []),.lit (.string []),.lit (.string [])]],[],places):=
 ⟨[],by kernel_rfl⟩
theorem lifted (os:Os) (started:os.Started) (H:Type) (enc:TypeId × Value→H) (F:Stop.Interp) :
  ReturnsInHanded {} Tryz.checked os 11 .any ((OpenSpec.ofChange Rows.polygonChecksSpec).preRow enc Tryz.prog Tryz.f11 Rows.polygonChecksRow.domain false Rows.polygonChecksRow.laid) (((OpenSpec.ofChange Rows.polygonChecksSpec).at F).post enc Tryz.prog Tryz.f11 false true false false):=by
 obtain ⟨places,hx⟩:=reads os enc
 refine returnsInHanded_of_row (C:=Tryz.checked) (s:=OpenSpec.ofChange Rows.polygonChecksSpec) own started (by kernel_rfl) Tryz.func11
  (witness_row_at (enc:=enc) (C:=Tryz.checked) false (laidWorld os) #[.slice none 0 0,.agg #[.string ⟨#[]⟩,.string ⟨#[]⟩,.string ⟨#[]⟩]] rfl (by kernel_rfl) (by kernel_rfl) (by kernel_rfl)
   (OpenSpec.preRow_of_cond 8 hx (by kernel_rfl) (fun k hk=>by cases hk) (by kernel_rfl) (laid_met os _))) ?_
 intro W base args ds gs before hval hW _ _ _ hL hS _
 exact contract H enc W base args ds gs before hval hW hL hS
theorem named:Tryz.pinned.checked.prog.funcNamed Rows.polygonChecksRow.func=some 11:=by kernel_rfl
theorem closed:joinedFacts Tryz.pinned.checked.prog 11 Tryz.f11 (OpenSpec.ofChange Rows.polygonChecksSpec).bare Rows.polygonChecksRow=true:=by
 unfold joinedFacts
 repeat' (with_reducible apply and_true_of)
 all_goals as_aux_lemma=>kernel_rfl
theorem inst:Tryz.f11.isInstance Tryz.pinned.checked.prog Rows.polygonChecksRow.origin Rows.polygonChecksRow.targs:=of_decide_eq_true (by kernel_rfl)
theorem wrap:Tryz.f11.isWrapper Tryz.pinned.checked.prog Rows.polygonChecksRow.wrapper Rows.polygonChecksRow.mainSum:=by unfold Func.isWrapper;first | (rw [if_pos (by decide +kernel)];kernel_rfl) | (rw [if_neg (by decide +kernel)];exact ⟨rfl,rfl⟩)
theorem said:Rows.PolygonChecksSaid:=
 OpenClaim.holds_of_cond 11 Tryz.f11 rfl rfl rfl rfl rfl rfl rfl ⟨rfl,rfl,rfl,rfl,rfl⟩ rfl rfl rfl rfl rfl named Tryz.func11 closed inst wrap
  (fun os started H enc _ F=>by rw [OpenClaim.pre_eq_preRow];exact lifted os started H enc F)
theorem plain (f : FuncId) (fn : Func) (hf : Tryz.pinned.checked.prog.funcNamed "klippe/klippelaw09.PolygonChecks" = some f) (hfn : Tryz.pinned.checked.prog.funcs[f]? = some fn) :
  true=Tryz.pinned.checked.prog.looks []∧∀ (j:Nat) t,fn.params[j]?=some t→Tryz.pinned.checked.prog.wantsStandIn t=false:=by
 obtain rfl : f = 11 := Option.some.inj ((show Tryz.prog.funcNamed "klippe/klippelaw09.PolygonChecks" = some 11 by kernel_rfl).symm.trans hf) |>.symm
 obtain rfl:fn=Tryz.f11:=(Option.some.inj (Tryz.func11.symm.trans hfn)).symm
 refine ⟨by kernel_rfl,fun j t ht=>?_⟩
 rw [Tryz.params11] at ht
 have hm:t=22∨t=64:=by simpa using Array.mem_of_getElem? ht
 rcases hm with rfl | rfl
 ·exact (show Tryz.prog.wantsStandIn 22=false by kernel_rfl)
 ·exact (show Tryz.prog.wantsStandIn 64=false by kernel_rfl)
theorem proved:Rows.PolygonChecksCardSaid:=
 Claim7.holds_tied_plain_at .later [] _ _ _ _ said (fun _ h=>by cases h) (by kernel_rfl) (fun _ h=>by cases h) polygonChecks_row_tie rfl ⟨rfl,rfl⟩ (by kernel_rfl) rfl plain (by kernel_rfl)
end Go.Proofs.YtgohnjdgoglcfaaGreatDoor.lawPolygonChecks
