import Derived.Test.YtglncfkoohgdaaaGreatDoorG69R
import Derived.Test.YtglncfkoohgdaaaGreatDoorOpnKR
import Derived.Test.YtglncfkoohgdaaaGreatDoorSht45R
/-
For any plan of a panel that came in, the law klippelaw45.PanelBeds returns true, and its arguments read behind the call as they read before.
Conditions: the listed package-level variables read as the program's text lays them (the card ties them to the text).
-/
set_option maxRecDepth 100000
set_option maxHeartbeats 8000000
namespace Go.Proofs.YtglncfkoohgdaaaGreatDoor.lawPanelBeds
open Go.ChangeShapes Go.WideShapes Go.ChangeAt Go.RowKit
theorem contract (H:Type) (enc:TypeId × Value→H) (W:World) (base:Nat) (args:Array Value) (ds gs:List (DataW H)) (before:List MemPlace)
  (hval:∀ (j:Nat) t v,Tryz.f8.params[j]?=some t→args[j]?=some v→Value.okWide Tryz.prog W .any base t v)
  (hW:DataW.Whole enc Tryz.prog Tryz.f8.params.toList Rows.panelBedsSpec.vars false W args.toList ds gs before) (hL:laidMetH Tryz.prog Rows.panelBedsRow.laid W) (hS:W.ShapedOpen Tryz.prog) :
  Calls Tryz.prog 8 args W fun e W'=>∃ v,e=.returned v∧Rows.panelBedsSpec.post enc Tryz.prog Tryz.f8 false true false false W args v W':=by
 have hW':=hW
 obtain ⟨p,q,SN,hV,rfl,hfz,hnd⟩:=hW
 have hA:DataW.TrodAll enc Tryz.prog W 0 (fun _=>true) true Tryz.f8.params.toList args.toList ds p:=SN
 rw [Tryz.params8] at hA hval
 obtain ⟨v0,vs0,d0,ds0,p0,q0,adJ,hds0,ahW,h0,r0⟩:=trodAll_cons hA
 obtain ⟨hz1,hz2,hz3⟩:=trodAll_nil r0
 have hargs:args=#[v0]:=by
  cases args with
  | mk l =>
   have e0:l=v0 :: vs0:=adJ
   rw [e0,hz1]
 subst hargs
 obtain ⟨s0,D0,hn0,hp0⟩:=Lr Tryz.underlying28 (by kernel_rfl) rfl rfl rfl rfl rfl (by kernel_rfl) (by kernel_rfl) (by kernel_rfl) (by kernel_rfl) (by kernel_rfl) Tryz.underlying23 (by kernel_rfl) Tryz.underlying5 Tryz.underlying24 Tryz.underlying26 Tryz.underlying24 (by kernel_rfl) Tryz.underlying5 (by kernel_rfl) Tryz.underlying25 Tryz.underlying22 Tryz.underlying161 (by kernel_rfl) rfl rfl rfl (by kernel_rfl) (by kernel_rfl) (by kernel_rfl) Tryz.underlying5 Tryz.underlying5 Tryz.underlying5 (hval 0 28 v0 rfl rfl) h0
 subst hn0
 refine (law_beds s0 D0 hp0 (IZ hL hS)).mono fun e W' ⟨he,hb⟩=>?_
 subst he
 refine ⟨_,rfl,law_post hW' rfl ?_ rfl ?_ hb⟩
 ·rw [Tryz.params8]
  intro t ht
  simp only [List.mem_cons,List.not_mem_nil,or_false] at ht
  subst ht
  exact ⟨by kernel_rfl,of_decide_eq_true (by kernel_rfl)⟩
 ·rw [hds0,hz2]
  rfl
theorem reads (os:Os) {H:Type} (enc:TypeId × Value→H):∃ places,DataW.whole enc Tryz.prog ((zw os).forCall (fun _ _=>0) ⟨#[],#[.agg #[.slice none 0 0,.slice none 0 0,.slice none 0 0,.slice none 0 0,.int .u8 0,.int .u8 0,.int .u8 0,.int .u8 0,.int .u8 0,.int .i8 0,.int .i8 0,.int .i8 0,.int .i8 0,.int .u8 0,.int .u8 0,.int .u8 0,.int .u8 0]],[]⟩).memory Tryz.f8.params.toList Rows.panelBedsSpec.vars false (#[Value.agg #[.slice none 0 0,.slice none 0 0,.slice none 0 0,.slice none 0 0,.int .u8 0,.int .u8 0,.int .u8 0,.int .u8 0,.int .u8 0,.int .i8 0,.int .i8 0,.int .i8 0,.int .i8 0,.int .u8 0,.int .u8 0,.int .u8 0,.int .u8 0]]:Array Value).toList 8=some ([.agg [.agg [.nil,.nil,.nil,.nil],.lit (.int .u8 0),.agg [.lit (.int .u8 0),.lit (.int .u8 0),.lit (.int .u8 0),.lit (.int .u8 0)],.agg [.lit (.int .i8 0),.lit (.int .i8 0),.lit (.int .i8 0),.lit (.int .i8 0)],.agg [.lit (.int .u8 0),.lit (.int .u8 0),.lit (.int .u8 0),.lit (.int .u8 0)]]],[],places):=
 ⟨[],by kernel_rfl⟩
theorem lifted (os:Os) (started:os.Started) (H:Type) (enc:TypeId × Value→H) (F:Stop.Interp) :
  ReturnsInHanded {} Tryz.checked os 8 .any ((OpenSpec.ofChange Rows.panelBedsSpec).preRow enc Tryz.prog Tryz.f8 Rows.panelBedsRow.domain false Rows.panelBedsRow.laid) (((OpenSpec.ofChange Rows.panelBedsSpec).at F).post enc Tryz.prog Tryz.f8 false true false false):=by
 obtain ⟨places,hx⟩:=reads os enc
 refine returnsInHanded_of_row (C:=Tryz.checked) (s:=OpenSpec.ofChange Rows.panelBedsSpec) own started (by kernel_rfl) Tryz.func8
  (witness_row_at (enc:=enc) (C:=Tryz.checked) false (zw os) #[.agg #[.slice none 0 0,.slice none 0 0,.slice none 0 0,.slice none 0 0,.int .u8 0,.int .u8 0,.int .u8 0,.int .u8 0,.int .u8 0,.int .i8 0,.int .i8 0,.int .i8 0,.int .i8 0,.int .u8 0,.int .u8 0,.int .u8 0,.int .u8 0]] rfl (by kernel_rfl) (by kernel_rfl) (by kernel_rfl)
   (OpenSpec.preRow_of_cond 8 hx (by kernel_rfl) (fun k hk=>by cases hk) (by kernel_rfl) (YM os _))) ?_
 intro W base args ds gs before hval hW _ _ _ hL hS _
 exact contract H enc W base args ds gs before hval hW hL hS
theorem named:Tryz.pinned.checked.prog.funcNamed Rows.panelBedsRow.func=some 8:=by kernel_rfl
theorem closed:joinedFacts Tryz.pinned.checked.prog 8 Tryz.f8 (OpenSpec.ofChange Rows.panelBedsSpec).bare Rows.panelBedsRow=true:=by
 unfold joinedFacts
 repeat' (with_reducible apply Ls)
 all_goals as_aux_lemma=>kernel_rfl
theorem inst:Tryz.f8.isInstance Tryz.pinned.checked.prog Rows.panelBedsRow.origin Rows.panelBedsRow.targs:=of_decide_eq_true (by kernel_rfl)
theorem wrap:Tryz.f8.isWrapper Tryz.pinned.checked.prog Rows.panelBedsRow.wrapper Rows.panelBedsRow.mainSum:=by unfold Func.isWrapper;first | (rw [if_pos (by decide +kernel)];kernel_rfl) | (rw [if_neg (by decide +kernel)];exact ⟨rfl,rfl⟩)
theorem said:Rows.PanelBedsSaid:=
 OpenClaim.holds_of_cond 8 Tryz.f8 rfl rfl rfl rfl rfl rfl rfl ⟨rfl,rfl,rfl,rfl,rfl⟩ rfl rfl rfl rfl rfl named Tryz.func8 closed inst wrap
  (fun os started H enc _ F=>by rw [OpenClaim.pre_eq_preRow];exact lifted os started H enc F)
theorem plain (f : FuncId) (fn : Func) (hf : Tryz.pinned.checked.prog.funcNamed "klippe/klippelaw45.PanelBeds" = some f) (hfn : Tryz.pinned.checked.prog.funcs[f]? = some fn) :
  true=Tryz.pinned.checked.prog.looks []∧∀ (j:Nat) t,fn.params[j]?=some t→Tryz.pinned.checked.prog.wantsStandIn t=false:=by
 obtain rfl : f = 8 := Option.some.inj ((show Tryz.prog.funcNamed "klippe/klippelaw45.PanelBeds" = some 8 by kernel_rfl).symm.trans hf) |>.symm
 obtain rfl:fn=Tryz.f8:=(Option.some.inj (Tryz.func8.symm.trans hfn)).symm
 refine ⟨by kernel_rfl,fun j t ht=>?_⟩
 rw [Tryz.params8] at ht
 obtain rfl:t=28:=by simpa using Array.mem_of_getElem? ht
 exact (show Tryz.prog.wantsStandIn 28=false by kernel_rfl)
theorem proved:Rows.PanelBedsCardSaid:=
 Claim7.holds_tied_plain_at .later [] _ _ _ _ said (fun _ h=>by cases h) (by kernel_rfl) (fun _ h=>by cases h) panelBeds_row_tie rfl ⟨rfl,rfl⟩ (by kernel_rfl) rfl plain (by kernel_rfl)
end Go.Proofs.YtglncfkoohgdaaaGreatDoor.lawPanelBeds
