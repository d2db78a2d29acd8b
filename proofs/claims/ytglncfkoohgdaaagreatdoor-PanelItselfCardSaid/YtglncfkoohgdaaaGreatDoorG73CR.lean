import Derived.Test.YtglncfkoohgdaaaGreatDoorG73R
import Derived.Test.YtglncfkoohgdaaaGreatDoorOpnKR
import Derived.Test.YtglncfkoohgdaaaGreatDoorSht45R
/-
For any log, any costs and any number that came in, the law klippelaw45.PanelItself returns true, and its arguments read behind the call as they read before.
Conditions: the listed package-level variables read as the program's text lays them (the card ties them to the text).
-/
set_option maxRecDepth 100000
set_option maxHeartbeats 8000000
namespace Go.Proofs.YtglncfkoohgdaaaGreatDoor.lawPanelItself
open Go.ChangeShapes Go.WideShapes Go.ChangeAt Go.RowKit
theorem contract (H:Type) (enc:TypeId × Value→H) (W:World) (base:Nat) (args:Array Value) (ds gs:List (DataW H)) (before:List MemPlace)
  (hval:∀ (j:Nat) t v,Tryz.f9.params[j]?=some t→args[j]?=some v→Value.okWide Tryz.prog W .any base t v)
  (hW:DataW.Whole enc Tryz.prog Tryz.f9.params.toList Rows.panelItselfSpec.vars false W args.toList ds gs before) (hL:laidMetH Tryz.prog Rows.panelItselfRow.laid W) (hS:W.ShapedOpen Tryz.prog) :
  Calls Tryz.prog 9 args W fun e W'=>∃ v,e=.returned v∧Rows.panelItselfSpec.post enc Tryz.prog Tryz.f9 false true false false W args v W':=by
 have hW':=hW
 obtain ⟨p,q,SN,hV,rfl,hfz,hnd⟩:=hW
 have hA:DataW.TrodAll enc Tryz.prog W 0 (fun _=>true) true Tryz.f9.params.toList args.toList ds p:=SN
 rw [Tryz.params9] at hA hval
 obtain ⟨v0,vs0,d0,ds0,p0,q0,adJ,hds0,ahW,h0,r0⟩:=trodAll_cons hA
 obtain ⟨v1,vs1,d1,ds1,p1,q1,hargs1,hds1,hps1,h1,r1⟩:=trodAll_cons r0
 obtain ⟨v2,vs2,d2,ds2,p2,q2,hargs2,hds2,hps2,h2,r2⟩:=trodAll_cons r1
 obtain ⟨hz1,hz2,hz3⟩:=trodAll_nil r2
 have hargs:args=#[v0,v1,v2]:=by
  cases args with
  | mk l =>
   have e0:l=v0 :: vs0:=adJ
   rw [e0,hargs1,hargs2,hz1]
 subst hargs
 obtain ⟨L0,hp0⟩:=open_bits Tryz.underlying22 Tryz.underlying161 (by kernel_rfl) rfl rfl rfl (by kernel_rfl) (by kernel_rfl) (by kernel_rfl) Tryz.underlying5 Tryz.underlying5 Tryz.underlying5 (hval 0 22 v0 rfl rfl) h0
 obtain ⟨g1,hq1,hp1⟩:=open_four Tryz.underlying24 (by kernel_rfl) (by kernel_rfl) Tryz.underlying5 (hval 1 24 v1 rfl rfl) h1
 subst hq1
 obtain ⟨n2,e2,hq2,hn2,hm2,he2⟩:=open_small Tryz.underlying86 (by kernel_rfl) rfl rfl (by kernel_rfl) (by kernel_rfl) Tryz.underlying84 Tryz.underlying5 (hval 2 86 v2 rfl rfl) h2
 subst hq2
 refine (law_itself v0 L0 (g1 0) (g1 1) (g1 2) (g1 3) n2 e2 hp0 ⟨hp1 0 (by decide),hp1 1 (by decide),hp1 2 (by decide),hp1 3 (by decide)⟩ ⟨hn2,hm2⟩ he2 (IZ hL hS)).mono fun e W' ⟨he,hb⟩=>?_
 subst he
 refine ⟨_,rfl,law_post hW' rfl ?_ rfl ?_ hb⟩
 ·rw [Tryz.params9]
  intro t ht
  simp only [List.mem_cons,List.not_mem_nil,or_false] at ht
  rcases ht with rfl | rfl | rfl
  ·exact ⟨by kernel_rfl,of_decide_eq_true (by kernel_rfl)⟩
  ·exact ⟨by kernel_rfl,of_decide_eq_true (by kernel_rfl)⟩
  ·exact ⟨by kernel_rfl,of_decide_eq_true (by kernel_rfl)⟩
 ·rw [hds0,hds1,hds2,hz2]
  rfl
theorem reads (os:Os) {H:Type} (enc:TypeId × Value→H):∃ places,DataW.whole enc Tryz.prog ((zw os).forCall (fun _ _=>0) ⟨#[],#[.slice none 0 0,.agg #[.int .u8 0,.int .u8 0,.int .u8 0,.int .u8 0],.agg #[.int .i16 0,.int .u8 0]],[]⟩).memory Tryz.f9.params.toList Rows.panelItselfSpec.vars false (#[Value.slice none 0 0,Value.agg #[.int .u8 0,.int .u8 0,.int .u8 0,.int .u8 0],Value.agg #[.int .i16 0,.int .u8 0]]:Array Value).toList 8=some ([.nil,.agg [.lit (.int .u8 0),.lit (.int .u8 0),.lit (.int .u8 0),.lit (.int .u8 0)],.agg [.lit (.int .i16 0),.lit (.int .u8 0)]],[],places):=
 ⟨[],by kernel_rfl⟩
theorem lifted (os:Os) (started:os.Started) (H:Type) (enc:TypeId × Value→H) (F:Stop.Interp) :
  ReturnsInHanded {} Tryz.checked os 9 .any ((OpenSpec.ofChange Rows.panelItselfSpec).preRow enc Tryz.prog Tryz.f9 Rows.panelItselfRow.domain false Rows.panelItselfRow.laid) (((OpenSpec.ofChange Rows.panelItselfSpec).at F).post enc Tryz.prog Tryz.f9 false true false false):=by
 obtain ⟨places,hx⟩:=reads os enc
 refine returnsInHanded_of_row (C:=Tryz.checked) (s:=OpenSpec.ofChange Rows.panelItselfSpec) own started (by kernel_rfl) Tryz.func9
  (witness_row_at (enc:=enc) (C:=Tryz.checked) false (zw os) #[.slice none 0 0,.agg #[.int .u8 0,.int .u8 0,.int .u8 0,.int .u8 0],.agg #[.int .i16 0,.int .u8 0]] rfl (by kernel_rfl) (by kernel_rfl) (by kernel_rfl)
   (OpenSpec.preRow_of_cond 8 hx (by kernel_rfl) (fun k hk=>by cases hk) (by kernel_rfl) (YM os _))) ?_
 intro W base args ds gs before hval hW _ _ _ hL hS _
 exact contract H enc W base args ds gs before hval hW hL hS
theorem named:Tryz.pinned.checked.prog.funcNamed Rows.panelItselfRow.func=some 9:=by kernel_rfl
theorem closed:joinedFacts Tryz.pinned.checked.prog 9 Tryz.f9 (OpenSpec.ofChange Rows.panelItselfSpec).bare Rows.panelItselfRow=true:=by
 unfold joinedFacts
 repeat' (with_reducible apply Ls)
 all_goals as_aux_lemma=>kernel_rfl
theorem inst:Tryz.f9.isInstance Tryz.pinned.checked.prog Rows.panelItselfRow.origin Rows.panelItselfRow.targs:=of_decide_eq_true (by kernel_rfl)
theorem wrap:Tryz.f9.isWrapper Tryz.pinned.checked.prog Rows.panelItselfRow.wrapper Rows.panelItselfRow.mainSum:=by unfold Func.isWrapper;first | (rw [if_pos (by decide +kernel)];kernel_rfl) | (rw [if_neg (by decide +kernel)];exact ⟨rfl,rfl⟩)
theorem said:Rows.PanelItselfSaid:=
 OpenClaim.holds_of_cond 9 Tryz.f9 rfl rfl rfl rfl rfl rfl rfl ⟨rfl,rfl,rfl,rfl,rfl⟩ rfl rfl rfl rfl rfl named Tryz.func9 closed inst wrap
  (fun os started H enc _ F=>by rw [OpenClaim.pre_eq_preRow];exact lifted os started H enc F)
theorem plain (f : FuncId) (fn : Func) (hf : Tryz.pinned.checked.prog.funcNamed "klippe/klippelaw45.PanelItself" = some f) (hfn : Tryz.pinned.checked.prog.funcs[f]? = some fn) :
  true=Tryz.pinned.checked.prog.looks []∧∀ (j:Nat) t,fn.params[j]?=some t→Tryz.pinned.checked.prog.wantsStandIn t=false:=by
 obtain rfl : f = 9 := Option.some.inj ((show Tryz.prog.funcNamed "klippe/klippelaw45.PanelItself" = some 9 by kernel_rfl).symm.trans hf) |>.symm
 obtain rfl:fn=Tryz.f9:=(Option.some.inj (Tryz.func9.symm.trans hfn)).symm
 refine ⟨by kernel_rfl,fun j t ht=>?_⟩
 rw [Tryz.params9] at ht
 have hm:t=22∨t=24∨t=86:=by simpa using Array.mem_of_getElem? ht
 rcases hm with rfl | rfl | rfl
 ·exact (show Tryz.prog.wantsStandIn 22=false by kernel_rfl)
 ·exact (show Tryz.prog.wantsStandIn 24=false by kernel_rfl)
 ·exact (show Tryz.prog.wantsStandIn 86=false by kernel_rfl)
theorem proved:Rows.PanelItselfCardSaid:=
 Claim7.holds_tied_plain_at .later [] _ _ _ _ said (fun _ h=>by cases h) (by kernel_rfl) (fun _ h=>by cases h) panelItself_row_tie rfl ⟨rfl,rfl⟩ (by kernel_rfl) rfl plain (by kernel_rfl)
end Go.Proofs.YtglncfkoohgdaaaGreatDoor.lawPanelItself
