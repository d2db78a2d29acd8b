import Derived.Test.YtgohnjdgoglcfaaGreatDoorV1Z
import Derived.Test.YtgohnjdgoglcfaaGreatDoorV17Z
import Derived.Test.YtgohnjdgoglcfaaGreatDoorV21Z
import Derived.Test.YtgohnjdgoglcfaaGreatDoorV22Z
import Derived.Test.YtgohnjdgoglcfaaGreatDoorT3EZ
set_option maxRecDepth 100000
set_option maxHeartbeats 8000000
namespace Go.Proofs.YtgohnjdgoglcfaaGreatDoor
open Go.RowKit Go.Shelf
open Go.Lib (decDigits itoa nDigits)
open Go.Lib (hid)
theorem pairs_right {L:List Pair} (h:∀ p∈L,okPr p=true):∃ M:List QP,L=M.map textP∧∀ q∈M,OkB q.1∧OkB q.2:=by
 have one:∀ s:ByteArray,okS s=true→s=tx (ratV s)∧OkB (ratV s):=fun s h=>by
  unfold okS at h
  have e:s=tx (ratV s):=(ratV_isR h).unique (isR_mk _)
  refine ⟨e,?_⟩
  unfold OkB
  rw [←e]
  exact h
 have two:∀ p∈L,(p.1=tx (ratV p.1)∧OkB (ratV p.1))∧(p.2=tx (ratV p.2)∧OkB (ratV p.2)):=fun p hp=>by
  have h1:=h p hp
  unfold okPr at h1
  rw [Bool.and_eq_true] at h1
  exact ⟨one _ h1.1,one _ h1.2⟩
 refine ⟨L.map (fun p=>(ratV p.1,ratV p.2)),?_,fun q hq=>?_⟩
 ·rw [List.map_map]
  conv=>lhs;rw [←List.map_id L]
  refine List.map_congr_left fun p hp=>?_
  have:=two p hp
  show p=(tx (ratV p.1),tx (ratV p.2))
  rw [←this.1.1,←this.2.1]
 ·obtain ⟨p,hp,rfl⟩:=List.mem_map.1 hq
  exact ⟨(two p hp).1.2,(two p hp).2.2⟩
theorem checks_out (v:Value) (L:List Pair) (a b d:ByteArray) (w:World) (hw:Good w) (hv:Pairs w v L) (hf:fewB L=false):Calls Tryz.prog 11 #[v,lnV a b d] w (RV (.bool true) w):=by
 have HKN:=hid law_known
 have HFW:=hid (fun w' (h:Pairs w' v L)=>law_few v L w' h)
 unfold RV at HKN
 have HV:=hid hv
 obtain ⟨p,c,rfl,_,_,_⟩:=hv
 obtain ⟨wA,hwA⟩ : ∃ wA,wA=w.alloc (Obj.cells #[.string a,.string b,.string d] 64):=⟨_,rfl⟩
 have HWA:=hid hwA
 obtain ⟨hbA,hx⟩:=box_any hwA
 have HX:=hid hx
 replace HV:=hid (HV.out.below hbA)
 unfold lnV
 clear hwA hx
 rw [hf] at HFW
 clear hf
 go_enter Tryz.func11,Tryz.ntmps11
 go_upto_region 1 with fail
 rw [←HWA.out]
 go_wp2_with fail
 refine (HKN.out _ (hw.below hbA)).mono ?_
 rintro e v1 ⟨rfl,h1⟩
 have hb1:=hbA.trans (h1.mono hbA.size)
 replace HV:=hid (HV.out.below h1)
 replace HX:=hid ((h1.block _ (lt_of_blk HX.out)).trans HX.out)
 go_wp2_with fail
 refine (HFW.out _ HV.out).mono ?_
 rintro e v0 ⟨rfl,rfl⟩
 go_wp2_with fail
 refine (HKN.out _ (hw.below hb1)).mono ?_
 rintro e v2 ⟨rfl,h2⟩
 have hb2:=hb1.trans (h2.mono hb1.size)
 replace HV:=hid (HV.out.below h2)
 replace HX:=hid ((h2.block _ (lt_of_blk HX.out)).trans HX.out)
 go_wp2
 go_ret
 exact ⟨rfl,hb2⟩
theorem checks_ok (v:Value) (L:List Pair) (a b d:ByteArray) (w:World) (hw:Good w) (hv:Pairs w v L) (hf:fewB L=true) (E:Int) (HP:∀ w',Good w'→Pairs w' v L→Calls Tryz.prog 18 #[v] w' (RV (.int .i64 E) w')) (HR:∀ w',Good w'→Pairs w' v L→Calls Tryz.prog 50 #[v] w' (RV (.int .i64 E) w')) (hE:E=0):Calls Tryz.prog 11 #[v,lnV a b d] w (RV (.bool true) w):=by
 have HKN:=hid law_known
 have HFW:=hid (fun w' (h:Pairs w' v L)=>law_few v L w' h)
 unfold RV at HKN
 have HV:=hid hv
 obtain ⟨p,c,rfl,_,_,_⟩:=hv
 obtain ⟨wA,hwA⟩ : ∃ wA,wA=w.alloc (Obj.cells #[.string a,.string b,.string d] 64):=⟨_,rfl⟩
 have HWA:=hid hwA
 obtain ⟨hbA,hx⟩:=box_any hwA
 have HX:=hid hx
 replace HV:=hid (HV.out.below hbA)
 unfold lnV
 clear hwA hx
 have HCP:=hid HP
 have HCR:=hid HR
 have HCK:=HCP
 unfold RV at HCP HCR
 rw [hf] at HFW
 have n3:(E != E)=false:=by simp
 have n4:(E == E)=true:=by simp
 clear HP HR hf
 have n1:(E != 0)=false:=by rw [hE];rfl
 have n2:(E == 0)=true:=by rw [hE];rfl
 clear hE
 go_enter Tryz.func11,Tryz.ntmps11
 go_upto_region 1 with fail
 rw [←HWA.out]
 go_wp2_with fail
 refine (HKN.out _ (hw.below hbA)).mono ?_
 rintro e v1 ⟨rfl,h1⟩
 have hb1:=hbA.trans (h1.mono hbA.size)
 replace HV:=hid (HV.out.below h1)
 replace HX:=hid ((h1.block _ (lt_of_blk HX.out)).trans HX.out)
 go_wp2_with fail
 refine (HFW.out _ HV.out).mono ?_
 rintro e v0 ⟨rfl,rfl⟩
 go_wp2_with fail
 refine (HCR.out _ (hw.below hb1) HV.out).mono ?_
 rintro e v2 ⟨rfl,h2⟩
 have hb2:=hb1.trans (h2.mono hb1.size)
 replace HV:=hid (HV.out.below h2)
 replace HX:=hid ((h2.block _ (lt_of_blk HX.out)).trans HX.out)
 go_wp2_with fail
 refine (HCP.out _ (hw.below hb2) HV.out).mono ?_
 rintro e v3 ⟨rfl,h3⟩
 have hb3:=hb2.trans (h3.mono hb2.size)
 replace HV:=hid (HV.out.below h3)
 replace HX:=hid ((h3.block _ (lt_of_blk HX.out)).trans HX.out)
 have HEQ:=hid (pg_equal pointNeq _ _ _ _ v3 HV.out HV.out)
 rw [decide_eq_true rfl] at HEQ
 go_wp2_with fail
 refine (HEQ.out).mono ?_
 rintro e v4 ⟨rfl,h4⟩
 have hb4:=hb3.trans (h4.mono hb3.size)
 replace HV:=hid (HV.out.below h4)
 replace HX:=hid ((h4.block _ (lt_of_blk HX.out)).trans HX.out)
 go_wp2
 go_ret
 exact ⟨rfl,hb4⟩
theorem checks_err (v:Value) (L:List Pair) (a b d:ByteArray) (w:World) (hw:Good w) (hv:Pairs w v L) (hf:fewB L=true) (E:Int) (HP:∀ w',Good w'→Pairs w' v L→Calls Tryz.prog 18 #[v] w' (RV (.int .i64 E) w')) (HR:∀ w',Good w'→Pairs w' v L→Calls Tryz.prog 50 #[v] w' (RV (.int .i64 E) w')) (hE:E≠0):Calls Tryz.prog 11 #[v,lnV a b d] w (RV (.bool true) w):=by
 have HKN:=hid law_known
 have HFW:=hid (fun w' (h:Pairs w' v L)=>law_few v L w' h)
 unfold RV at HKN
 have HV:=hid hv
 obtain ⟨p,c,rfl,_,_,_⟩:=hv
 obtain ⟨wA,hwA⟩ : ∃ wA,wA=w.alloc (Obj.cells #[.string a,.string b,.string d] 64):=⟨_,rfl⟩
 have HWA:=hid hwA
 obtain ⟨hbA,hx⟩:=box_any hwA
 have HX:=hid hx
 replace HV:=hid (HV.out.below hbA)
 unfold lnV
 clear hwA hx
 have HCP:=hid HP
 have HCR:=hid HR
 have HCK:=HCP
 unfold RV at HCP HCR
 rw [hf] at HFW
 have n3:(E != E)=false:=by simp
 have n4:(E == E)=true:=by simp
 clear HP HR hf
 have n1:(E != 0)=true:=by simpa using hE
 have n2:(E == 0)=false:=beq_eq_false_iff_ne.2 hE
 go_enter Tryz.func11,Tryz.ntmps11
 go_upto_region 1 with fail
 rw [←HWA.out]
 go_wp2_with fail
 refine (HKN.out _ (hw.below hbA)).mono ?_
 rintro e v1 ⟨rfl,h1⟩
 have hb1:=hbA.trans (h1.mono hbA.size)
 replace HV:=hid (HV.out.below h1)
 replace HX:=hid ((h1.block _ (lt_of_blk HX.out)).trans HX.out)
 go_wp2_with fail
 refine (HFW.out _ HV.out).mono ?_
 rintro e v0 ⟨rfl,rfl⟩
 go_wp2_with fail
 refine (HCR.out _ (hw.below hb1) HV.out).mono ?_
 rintro e v2 ⟨rfl,h2⟩
 have hb2:=hb1.trans (h2.mono hb1.size)
 replace HV:=hid (HV.out.below h2)
 replace HX:=hid ((h2.block _ (lt_of_blk HX.out)).trans HX.out)
 go_wp2_with fail
 refine (HCP.out _ (hw.below hb2) HV.out).mono ?_
 rintro e v3 ⟨rfl,h3⟩
 have hb3:=hb2.trans (h3.mono hb2.size)
 replace HV:=hid (HV.out.below h3)
 replace HX:=hid ((h3.block _ (lt_of_blk HX.out)).trans HX.out)
 have HEQ:=hid (pg_equal pointNeq _ _ _ _ v3 HV.out HV.out)
 rw [decide_eq_true rfl] at HEQ
 go_wp2_with fail
 refine (HEQ.out).mono ?_
 rintro e v4 ⟨rfl,h4⟩
 have hb4:=hb3.trans (h4.mono hb3.size)
 replace HV:=hid (HV.out.below h4)
 replace HX:=hid ((h4.block _ (lt_of_blk HX.out)).trans HX.out)
 have hN:∀ wx:World,(binOp .neq 31 (.agg #[.string ⟨#[]⟩,.string ⟨#[]⟩]) (.agg #[.string ⟨#[]⟩,.string ⟨#[]⟩])).run Tryz.prog wx=.ok (.bool false) wx:=fun wx=>by
  have h:=neqPoint (⟨#[]⟩,⟨#[]⟩) (⟨#[]⟩,⟨#[]⟩) wx
  rw [partB_iff,decide_eq_true rfl] at h
  exact h
 have hG:=fun (x y:Operand) (xs ys:Array Value) (wx:World)=>neqGuardP .neq x y xs ys wx
 have HNG:=hid (And.intro hN hG)
 have HSQ:=hid law_square
 unfold ListPost at HSQ
 have HE:=hid hE
 clear hN hG hE
 have HZareaerr:=hid (area_err p L.length c E HE.out v4 (hw.below hb4) (show ChkIs (.slice p L.length c) E v4 from fun w' hg hb=>HCK.out w' hg (HV.out.below hb)))
 unfold RV at HZareaerr
 go_wp2_with fail
 refine (HZareaerr.out).mono ?_
 rintro e v5 ⟨rfl,h5⟩
 have hb5:=hb4.trans (h5.mono hb4.size)
 replace HV:=hid (HV.out.below h5)
 replace HX:=hid ((h5.block _ (lt_of_blk HX.out)).trans HX.out)
 clear HZareaerr
 have HZcenerr:=hid (cen_err p L.length c E HE.out v5 (hw.below hb5) (show ChkIs (.slice p L.length c) E v5 from fun w' hg hb=>HCK.out w' hg (HV.out.below hb)))
 unfold RV at HZcenerr
 go_wp2_with fail
 refine (HZcenerr.out).mono ?_
 rintro e v6 ⟨rfl,h6⟩
 have hb6:=hb5.trans (h6.mono hb5.size)
 replace HV:=hid (HV.out.below h6)
 replace HX:=hid ((h6.block _ (lt_of_blk HX.out)).trans HX.out)
 clear HZcenerr
 go_wp2_with fail
 obtain ⟨v7,hwv7⟩ : ∃ v7,v7=v6.alloc (Obj.cells #[.string ⟨#[]⟩,.string ⟨#[]⟩] 31):=⟨_,rfl⟩
 obtain ⟨h7,hxv7⟩:=box_any hwv7
 have hb7:=hb6.trans (h7.mono hb6.size)
 replace HV:=hid (HV.out.below h7)
 replace HX:=hid ((h7.block _ (lt_of_blk HX.out)).trans HX.out)
 rw [←hwv7]
 have HB1:=hid hxv7
 clear hxv7 hwv7
 have HZboxerr:=hid (box_err p L.length c E HE.out v7 (hw.below hb7) (show ChkIs (.slice p L.length c) E v7 from fun w' hg hb=>HCK.out w' hg (HV.out.below hb)))
 unfold RV at HZboxerr
 refine (HZboxerr.out).mono ?_
 rintro e v8 ⟨rfl,h8⟩
 have hb8:=hb7.trans (h8.mono hb7.size)
 replace HV:=hid (HV.out.below h8)
 replace HX:=hid ((h8.block _ (lt_of_blk HX.out)).trans HX.out)
 replace HB1:=hid ((h8.block _ (lt_of_blk HB1.out)).trans HB1.out)
 go_wp2_with fail
 obtain ⟨wN,hwN⟩ : ∃ wN,wN=(v8.alloc (Obj.cells #[.string ⟨#[]⟩,.string ⟨#[]⟩] 31)).alloc (Obj.cells #[.string ⟨#[]⟩,.string ⟨#[]⟩] 31):=⟨_,rfl⟩
 obtain ⟨hN2,hxL,hxH⟩:=boxes_k2 hwN
 have hbN:=hb8.trans (hN2.mono hb8.size)
 rw [←hwN]
 have HB2:=hid hxL
 have HB3:=hid hxH
 replace HV:=hid (HV.out.below hN2)
 replace HX:=hid ((hN2.block _ (lt_of_blk HX.out)).trans HX.out)
 replace HB1:=hid ((hN2.block _ (lt_of_blk HB1.out)).trans HB1.out)
 clear hwN hxL hxH HZboxerr
 have HZwhereerr:=hid (where_err p L.length c ⟨#[]⟩ ⟨#[]⟩ E HE.out wN (hw.below hbN) (show ChkIs (.slice p L.length c) E wN from fun w' hg hb=>HCK.out w' hg (HV.out.below hb)))
 unfold RV at HZwhereerr
 refine (HZwhereerr.out).mono ?_
 rintro e v9 ⟨rfl,h9⟩
 have hb9:=hbN.trans (h9.mono hbN.size)
 replace HV:=hid (HV.out.below h9)
 replace HX:=hid ((h9.block _ (lt_of_blk HX.out)).trans HX.out)
 replace HB1:=hid ((h9.block _ (lt_of_blk HB1.out)).trans HB1.out)
 replace HB2:=hid ((h9.block _ (lt_of_blk HB2.out)).trans HB2.out)
 replace HB3:=hid ((h9.block _ (lt_of_blk HB3.out)).trans HB3.out)
 clear HZwhereerr
 obtain ⟨l0,l1,l2⟩:=three_cells HX.out
 have HZcliperr:=hid (clip_err p L.length c a b d E HE.out v9 (hw.below hb9) (show ChkIs (.slice p L.length c) E v9 from fun w' hg hb=>HCK.out w' hg (HV.out.below hb)))
 unfold RV at HZcliperr
 unfold lnV at HZcliperr
 go_wp2_with fail
 refine (HZcliperr.out).mono ?_
 rintro e v10 ⟨rfl,h10⟩
 have hb10:=hb9.trans (h10.mono hb9.size)
 replace HV:=hid (HV.out.below h10)
 replace HX:=hid ((h10.block _ (lt_of_blk HX.out)).trans HX.out)
 replace HB1:=hid ((h10.block _ (lt_of_blk HB1.out)).trans HB1.out)
 replace HB2:=hid ((h10.block _ (lt_of_blk HB2.out)).trans HB2.out)
 replace HB3:=hid ((h10.block _ (lt_of_blk HB3.out)).trans HB3.out)
 clear HZcliperr l0 l1 l2
 obtain ⟨l0,l1,l2⟩:=three_cells HX.out
 have HZspliterr:=hid (split_err p L.length c a b d E HE.out v10 (hw.below hb10) (show ChkIs (.slice p L.length c) E v10 from fun w' hg hb=>HCK.out w' hg (HV.out.below hb)))
 unfold RV at HZspliterr
 unfold lnV at HZspliterr
 go_wp2_with fail
 refine (HZspliterr.out).mono ?_
 rintro e v11 ⟨rfl,h11⟩
 have hb11:=hb10.trans (h11.mono hb10.size)
 replace HV:=hid (HV.out.below h11)
 replace HX:=hid ((h11.block _ (lt_of_blk HX.out)).trans HX.out)
 replace HB1:=hid ((h11.block _ (lt_of_blk HB1.out)).trans HB1.out)
 replace HB2:=hid ((h11.block _ (lt_of_blk HB2.out)).trans HB2.out)
 replace HB3:=hid ((h11.block _ (lt_of_blk HB3.out)).trans HB3.out)
 clear HZspliterr l0 l1 l2
 go_wp2_with fail
 refine (HSQ.out _ (hw.below hb11)).mono ?_
 rintro e v12 ⟨rs,rfl,hpS,h12⟩
 have hb12:=hb11.trans (h12.mono hb11.size)
 replace HV:=hid (HV.out.below h12)
 replace HX:=hid ((h12.block _ (lt_of_blk HX.out)).trans HX.out)
 replace HB1:=hid ((h12.block _ (lt_of_blk HB1.out)).trans HB1.out)
 replace HB2:=hid ((h12.block _ (lt_of_blk HB2.out)).trans HB2.out)
 replace HB3:=hid ((h12.block _ (lt_of_blk HB3.out)).trans HB3.out)
 obtain ⟨ps,cs,rfl,_,_⟩:=hpS.slice
 have HS:=hid hpS
 clear hpS
 have hi:=inter_err ps p sqP.length L.length cs c E HE.out v12 (hw.below hb12) (show ChkIs (.slice ps sqP.length cs) 0 v12 from fun w' hg hb=>by have h:=pg_checkP (.slice ps sqP.length cs) sqP (by decide) (by decide) sq_ok w' hg (HS.out.below hb);rw [polyC_poly sq_poly] at h;exact h) (show ChkIs (.slice p L.length c) E v12 from fun w' hg hb=>HCK.out w' hg (HV.out.below hb))
 have HI:=hid hi
 unfold RV at HI
 clear hi
 go_wp2_with fail
 refine (HI.out).mono ?_
 rintro e v13 ⟨rfl,h13⟩
 have hb13:=hb12.trans (h13.mono hb12.size)
 replace HV:=hid (HV.out.below h13)
 replace HX:=hid ((h13.block _ (lt_of_blk HX.out)).trans HX.out)
 replace HB1:=hid ((h13.block _ (lt_of_blk HB1.out)).trans HB1.out)
 replace HB2:=hid ((h13.block _ (lt_of_blk HB2.out)).trans HB2.out)
 replace HB3:=hid ((h13.block _ (lt_of_blk HB3.out)).trans HB3.out)
 replace HS:=hid (HS.out.below h13)
 have HZchorderr:=hid (chord_err p L.length c ⟨#[]⟩ ⟨#[]⟩ ⟨#[]⟩ ⟨#[]⟩ E HE.out v13 (hw.below hb13) (show ChkIs (.slice p L.length c) E v13 from fun w' hg hb=>HCK.out w' hg (HV.out.below hb)))
 unfold RV at HZchorderr
 go_wp2_with fail
 refine (HZchorderr.out).mono ?_
 rintro e v14 ⟨rfl,h14⟩
 have hb14:=hb13.trans (h14.mono hb13.size)
 replace HV:=hid (HV.out.below h14)
 replace HX:=hid ((h14.block _ (lt_of_blk HX.out)).trans HX.out)
 replace HB1:=hid ((h14.block _ (lt_of_blk HB1.out)).trans HB1.out)
 replace HB2:=hid ((h14.block _ (lt_of_blk HB2.out)).trans HB2.out)
 replace HB3:=hid ((h14.block _ (lt_of_blk HB3.out)).trans HB3.out)
 replace HS:=hid (HS.out.below h14)
 clear HZchorderr HI
 have HZmaperr:=hid (map_err p L.length c ⟨#[]⟩ ⟨#[]⟩ ⟨#[]⟩ ⟨#[]⟩ ⟨#[]⟩ ⟨#[]⟩ E HE.out v14 (hw.below hb14) (show ChkIs (.slice p L.length c) E v14 from fun w' hg hb=>HCK.out w' hg (HV.out.below hb)))
 unfold RV at HZmaperr
 go_wp2_with fail
 refine (HZmaperr.out).mono ?_
 rintro e v15 ⟨rfl,h15⟩
 have hb15:=hb14.trans (h15.mono hb14.size)
 replace HV:=hid (HV.out.below h15)
 replace HX:=hid ((h15.block _ (lt_of_blk HX.out)).trans HX.out)
 replace HB1:=hid ((h15.block _ (lt_of_blk HB1.out)).trans HB1.out)
 replace HB2:=hid ((h15.block _ (lt_of_blk HB2.out)).trans HB2.out)
 replace HB3:=hid ((h15.block _ (lt_of_blk HB3.out)).trans HB3.out)
 replace HS:=hid (HS.out.below h15)
 obtain ⟨hN,hG⟩:=HNG.out
 obtain ⟨x0,x1,_,_⟩:=two_cells HB1.out
 obtain ⟨y0,y1,_,_⟩:=two_cells HB2.out
 obtain ⟨z0,z1,_,_⟩:=two_cells HB3.out
 go_wp2
 go_ret
 exact ⟨rfl,hb15⟩
theorem law_PolygonChecks (v:Value) (L:List Pair) (a b d:ByteArray) (w:World) (hw:Good w) (hv:Pairs w v L):Calls Tryz.prog 11 #[v,lnV a b d] w (RV (.bool true) w):=by
 cases hf:fewB L
 ·exact checks_out v L a b d w hw hv hf
 ·have hs:∀ p∈L,p.1.size≤4000000∧p.2.size≤4000000:=fun p hp=>⟨Nat.le_trans ((fewB_true.1 hf).2 p hp).1 (by decide),Nat.le_trans ((fewB_true.1 hf).2 p hp).2 (by decide)⟩
  have slc:∀ w',Pairs w' v L→∃ p c,v=.slice p L.length c:=fun w' h=>by
   obtain ⟨p,c,h1,_⟩:=h
   exact ⟨p,c,h1⟩
  by_cases h3:L.length<3
  ·exact checks_err v L a b d w hw hv hf 5 (fun w' hg h=>by obtain ⟨p,c,rfl⟩:=slc w' h;exact pg_check_few p _ c h3 w') (fun w' hg h=>by obtain ⟨p,c,rfl⟩:=slc w' h;exact r9_check_few p _ c h3 w') (by decide)
  ·by_cases h60:60<L.length
   ·exact checks_err v L a b d w hw hv hf 4 (fun w' hg h=>by obtain ⟨p,c,rfl⟩:=slc w' h;exact pg_check_many p _ c h60 w') (fun w' hg h=>by obtain ⟨p,c,rfl⟩:=slc w' h;exact r9_check_many p _ c h60 w') (by decide)
   ·by_cases hok:∀ p∈L,okPr p=true
    ·obtain ⟨M,rfl,hM⟩:=pairs_right hok
     rw [List.length_map] at h3 h60
     by_cases hE:polyC M=0
     ·exact checks_ok v _ a b d w hw hv hf (polyC M) (fun w' hg h=>pg_checkP v M (by omega) (by omega) hM w' hg h) (fun w' hg h=>r9_checkP v M (by omega) (by omega) hM w' hg h) hE
     ·exact checks_err v _ a b d w hw hv hf (polyC M) (fun w' hg h=>pg_checkP v M (by omega) (by omega) hM w' hg h) (fun w' hg h=>r9_checkP v M (by omega) (by omega) hM w' hg h) hE
    ·exact checks_err v L a b d w hw hv hf 2 (fun w' hg h=>pg_check_wrong v L (by omega) (by omega) hs hok w' hg h) (fun w' hg h=>r9_check_wrong v L (by omega) (by omega) hs hok w' hg h) (by decide)
end Go.Proofs.YtgohnjdgoglcfaaGreatDoor
