/-
For any planned profile, any two heights of quarters that came in, the law klippetop.TopKinksBalance returns true, and its arguments read behind the call as they read before.
Conditions: the listed package-level variables read as the program's text lays them (the card ties them to the text).
-/
import Derived.Test.YtogdahbbogimcaaGreatDoorC13Z
import Derived.Test.YtogdahbbogimcaaGreatDoorShtKZ
import Derived.Test.YtogdahbbogimcaaGreatDoorOpnKZ
set_option maxRecDepth 100000
set_option maxHeartbeats 8000000
namespace Go.Proofs.YtogdahbbogimcaaGreatDoor.lawTopKinksBalance
open Go.ChangeShapes Go.WideShapes Go.ChangeAt Go.RowKit
theorem contract (H:Type) (enc:TypeId × Value→H) (W:World) (base:Nat) (args:Array Value) (ds gs:List (DataW H)) (before:List MemPlace)
  (hval:∀ (j:Nat) t v,Tryz.f3.params[j]?=some t→args[j]?=some v→Value.okWide Tryz.prog W .any base t v)
  (hW:DataW.Whole enc Tryz.prog Tryz.f3.params.toList Rows.topKinksBalanceSpec.vars false W args.toList ds gs before) (hL:laidMetH Tryz.prog Rows.topKinksBalanceRow.laid W) (hS:W.ShapedOpen Tryz.prog) :
  Calls Tryz.prog 3 args W fun e W'=>∃ v,e=.returned v∧Rows.topKinksBalanceSpec.post enc Tryz.prog Tryz.f3 false true false false W args v W':=by
 have hW':=hW
 obtain ⟨p,q,hA0,hV,rfl,hfz,hnd⟩:=hW
 have hA:DataW.TrodAll enc Tryz.prog W 0 (fun _=>true) true Tryz.f3.params.toList args.toList ds p:=hA0
 rw [Tryz.params3] at hA hval
 obtain ⟨v0,vs0,d0,ds0,p0,q0,hargs0,hds0,hps0,h0,r0⟩:=trodAll_cons hA
 obtain ⟨v1,vs1,d1,ds1,p1,q1,hargs1,hds1,hps1,h1,r1⟩:=trodAll_cons r0
 obtain ⟨hz1,hz2,hz3⟩:=trodAll_nil r1
 have hargs:args=#[v0,v1]:=by
  cases args with
  | mk l =>
   have e0:l=v0 :: vs0:=hargs0
   rw [e0,hargs1,hz1]
 subst hargs
 obtain ⟨a0,b0,u0,D0,hn0,hq0,hp0⟩:=open_plan Tryz.underlying26 (by kernel_rfl) rfl rfl (by kernel_rfl) (by kernel_rfl) Tryz.underlying23 Tryz.underlying24 Tryz.underlying23 Tryz.underlying22 (by kernel_rfl) (by kernel_rfl) (hval 0 26 v0 rfl rfl) h0
 subst hn0
 have ho0:Byte a0:=⟨hq0.1,hq0.2.1⟩
 have hb0:Byte b0:=hq0.2.2
 obtain ⟨x1,y1,hn1,ho1,hy1⟩:=open_pair2 Tryz.underlying23 Tryz.underlying22 (by kernel_rfl) (by kernel_rfl) (hval 1 23 v1 rfl rfl) h1
 subst hn1
 refine (law_TopKinks a0 b0 ho0 hb0 u0 D0 x1 y1 ho1 hy1 W (good_of_laid hL hS) hp0).mono fun e W' ⟨he,hb⟩=>?_
 subst he
 refine ⟨_,rfl,law_post hW' rfl ?_ rfl ?_ hb⟩
 ·rw [Tryz.params3]
  intro t ht
  simp only [List.mem_cons,List.not_mem_nil,or_false] at ht
  rcases ht with rfl | rfl
  ·exact ⟨by kernel_rfl,of_decide_eq_true (by kernel_rfl)⟩
  ·exact ⟨by kernel_rfl,of_decide_eq_true (by kernel_rfl)⟩
 ·rw [hds0,hds1,hz2]
  rfl
theorem reads (os:Os) {H:Type} (enc:TypeId × Value→H):∃ places,DataW.whole enc Tryz.prog ((laidWorld os).forCall (fun _ _=>0) ⟨#[],#[.agg #[.int .i8 0,.int .i8 0,.slice none 0 0],.agg #[.int .i8 0,.int .i8 0]],[]⟩).memory Tryz.f3.params.toList Rows.topKinksBalanceSpec.vars false (#[Value.agg #[.int .i8 0,.int .i8 0,.slice none 0 0],Value.agg #[.int .i8 0,.int .i8 0]]:Array Value).toList 8=some ([.agg [.agg [.lit (.int .i8 0),.lit (.int .i8 0)],.nil],.agg [.lit (.int .i8 0),.lit (.int .i8 0)]],[],places):=
 ⟨[],by kernel_rfl⟩
theorem lifted (os:Os) (started:os.Started) (H:Type) (enc:TypeId × Value→H) (F:Stop.Interp) :
  ReturnsInHanded {} Tryz.checked os 3 .any ((OpenSpec.ofChange Rows.topKinksBalanceSpec).preRow enc Tryz.prog Tryz.f3 Rows.topKinksBalanceRow.domain false Rows.topKinksBalanceRow.laid) (((OpenSpec.ofChange Rows.topKinksBalanceSpec).at F).post enc Tryz.prog Tryz.f3 false true false false):=by
 obtain ⟨places,hx⟩:=reads os enc
 refine returnsInHanded_of_row (C:=Tryz.checked) (s:=OpenSpec.ofChange Rows.topKinksBalanceSpec) own started (by kernel_rfl) Tryz.func3
  (witness_row_at (enc:=enc) (C:=Tryz.checked) false (laidWorld os) #[.agg #[.int .i8 0,.int .i8 0,.slice none 0 0],.agg #[.int .i8 0,.int .i8 0]] rfl (by kernel_rfl) (by kernel_rfl) (by kernel_rfl)
   (OpenSpec.preRow_of_cond 8 hx (by kernel_rfl) (fun k hk=>by cases hk) (by kernel_rfl) (laid_met os _))) ?_
 intro W base args ds gs before hval hW _ _ _ hL hS _
 exact contract H enc W base args ds gs before hval hW hL hS
theorem named:Tryz.pinned.checked.prog.funcNamed Rows.topKinksBalanceRow.func=some 3:=by kernel_rfl
theorem closed:joinedFacts Tryz.pinned.checked.prog 3 Tryz.f3 (OpenSpec.ofChange Rows.topKinksBalanceSpec).bare Rows.topKinksBalanceRow=true:=by
 unfold joinedFacts
 repeat' (with_reducible apply and_true_of)
 all_goals as_aux_lemma=>kernel_rfl
theorem inst:Tryz.f3.isInstance Tryz.pinned.checked.prog Rows.topKinksBalanceRow.origin Rows.topKinksBalanceRow.targs:=of_decide_eq_true (by kernel_rfl)
theorem wrap:Tryz.f3.isWrapper Tryz.pinned.checked.prog Rows.topKinksBalanceRow.wrapper Rows.topKinksBalanceRow.mainSum:=by unfold Func.isWrapper;first | (rw [if_pos (by decide +kernel)];kernel_rfl) | (rw [if_neg (by decide +kernel)];exact ⟨rfl,rfl⟩)
theorem said:Rows.TopKinksBalanceSaid:=
 OpenClaim.holds_of_cond 3 Tryz.f3 rfl rfl rfl rfl rfl rfl rfl ⟨rfl,rfl,rfl,rfl,rfl⟩ rfl rfl rfl rfl rfl named Tryz.func3 closed inst wrap
  (fun os started H enc _ F=>by rw [OpenClaim.pre_eq_preRow];exact lifted os started H enc F)
theorem plain (f : FuncId) (fn : Func) (hf : Tryz.pinned.checked.prog.funcNamed "klippe/klippetop.TopKinksBalance" = some f) (hfn : Tryz.pinned.checked.prog.funcs[f]? = some fn) :
  true=Tryz.pinned.checked.prog.looks []∧∀ (j:Nat) t,fn.params[j]?=some t→Tryz.pinned.checked.prog.wantsStandIn t=false:=by
 obtain rfl : f = 3 := Option.some.inj ((show Tryz.prog.funcNamed "klippe/klippetop.TopKinksBalance" = some 3 by kernel_rfl).symm.trans hf) |>.symm
 obtain rfl:fn=Tryz.f3:=(Option.some.inj (Tryz.func3.symm.trans hfn)).symm
 refine ⟨by kernel_rfl,fun j t ht=>?_⟩
 rw [Tryz.params3] at ht
 have hm:t=26∨t=23:=by simpa using Array.mem_of_getElem? ht
 rcases hm with rfl | rfl
 ·exact (show Tryz.prog.wantsStandIn 26=false by kernel_rfl)
 ·exact (show Tryz.prog.wantsStandIn 23=false by kernel_rfl)
theorem proved:Rows.TopKinksBalanceCardSaid:=
 Claim7.holds_tied_plain_at .later [] _ _ _ _ said (fun _ h=>by cases h) (by kernel_rfl) (fun _ h=>by cases h) topKinksBalance_row_tie rfl ⟨rfl,rfl⟩ (by kernel_rfl) rfl plain (by kernel_rfl)
end Go.Proofs.YtogdahbbogimcaaGreatDoor.lawTopKinksBalance
