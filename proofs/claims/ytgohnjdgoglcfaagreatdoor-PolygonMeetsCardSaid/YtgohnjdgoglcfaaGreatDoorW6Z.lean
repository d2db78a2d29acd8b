import Derived.Test.YtgohnjdgoglcfaaGreatDoorV15Z
import Derived.Test.YtgohnjdgoglcfaaGreatDoorV1Z
import Derived.Test.YtgohnjdgoglcfaaGreatDoorU12Z
set_option maxRecDepth 100000
set_option maxHeartbeats 4000000
namespace Go.Proofs.YtgohnjdgoglcfaaGreatDoor
open Go.RowKit Go.Shelf
open Go.Lib (decDigits itoa nDigits)
open Go.Lib (hid)
theorem meets_out1 (v u:Value) (C D:List Plc) (w:World) (hw:Good w) (hv:Dft w v C) (hu:Dft w u D) (h8:¬ C.length≤8):Calls Tryz.prog 8 #[v,u] w (RV (.bool true) w):=by
 have HKN:=hid law_known
 have HF1:=hid (fun w' (h:Dft w' v C)=>law_fits v C w' h)
 have HF2:=hid (fun w' (h:Dft w' u D)=>law_fits u D w' h)
 unfold RV at HKN
 have HC:=hid hv
 have HD:=hid hu
 have hb0:=Below.refl w.heap.size w
 clear hv hu
 rw [decide_eq_false h8] at HF1
 clear h8
 go_enter Tryz.func8,Tryz.ntmps8
 go_wp2_with fail
 refine (HKN.out _ (hw.below hb0)).mono ?_
 rintro e v1 ⟨rfl,h1⟩
 have hb1:=hb0.trans (h1.mono hb0.size)
 replace HC:=hid (HC.out.below h1)
 replace HD:=hid (HD.out.below h1)
 go_wp2_with fail
 refine (HF1.out _ HC.out).mono ?_
 rintro e v0 ⟨rfl,rfl⟩
 go_wp2_with fail
 refine (HKN.out _ (hw.below hb1)).mono ?_
 rintro e v2 ⟨rfl,h2⟩
 have hb2:=hb1.trans (h2.mono hb1.size)
 replace HC:=hid (HC.out.below h2)
 replace HD:=hid (HD.out.below h2)
 go_wp2
 go_ret
 exact ⟨rfl,hb2⟩
theorem meets_out2 (v u:Value) (C D:List Plc) (w:World) (hw:Good w) (hv:Dft w v C) (hu:Dft w u D) (h8:C.length≤8) (k8:¬ D.length≤8):Calls Tryz.prog 8 #[v,u] w (RV (.bool true) w):=by
 have HKN:=hid law_known
 have HF1:=hid (fun w' (h:Dft w' v C)=>law_fits v C w' h)
 have HF2:=hid (fun w' (h:Dft w' u D)=>law_fits u D w' h)
 unfold RV at HKN
 have HC:=hid hv
 have HD:=hid hu
 have hb0:=Below.refl w.heap.size w
 clear hv hu
 rw [decide_eq_true h8] at HF1
 rw [decide_eq_false k8] at HF2
 clear h8 k8
 go_enter Tryz.func8,Tryz.ntmps8
 go_wp2_with fail
 refine (HKN.out _ (hw.below hb0)).mono ?_
 rintro e v1 ⟨rfl,h1⟩
 have hb1:=hb0.trans (h1.mono hb0.size)
 replace HC:=hid (HC.out.below h1)
 replace HD:=hid (HD.out.below h1)
 go_wp2_with fail
 refine (HF1.out _ HC.out).mono ?_
 rintro e v0 ⟨rfl,rfl⟩
 go_wp2_with fail
 refine (HF2.out _ HD.out).mono ?_
 rintro e v0 ⟨rfl,rfl⟩
 go_wp2_with fail
 refine (HKN.out _ (hw.below hb1)).mono ?_
 rintro e v2 ⟨rfl,h2⟩
 have hb2:=hb1.trans (h2.mono hb1.size)
 replace HC:=hid (HC.out.below h2)
 replace HD:=hid (HD.out.below h2)
 go_wp2
 go_ret
 exact ⟨rfl,hb2⟩
theorem meets_in (v u:Value) (C D:List Plc) (w:World) (hw:Good w) (hv:Dft w v C) (hu:Dft w u D) (h8:C.length≤8) (k8:D.length≤8):Calls Tryz.prog 8 #[v,u] w (RV (.bool true) w):=by
 have HKN:=hid law_known
 have HF1:=hid (fun w' (h:Dft w' v C)=>law_fits v C w' h)
 have HF2:=hid (fun w' (h:Dft w' u D)=>law_fits u D w' h)
 unfold RV at HKN
 have HC:=hid hv
 have HD:=hid hu
 have hb0:=Below.refl w.heap.size w
 clear hv hu
 have HM1:=hid (fun w' (hg:Good w') (h:Dft w' v C)=>law_make v C w' hg h)
 have HM2:=hid (fun w' (hg:Good w') (h:Dft w' u D)=>law_make u D w' hg h)
 unfold MadeD at HM1 HM2
 rw [decide_eq_true h8] at HF1
 rw [decide_eq_true k8] at HF2
 clear h8 k8
 go_enter Tryz.func8,Tryz.ntmps8
 go_wp2_with fail
 refine (HKN.out _ (hw.below hb0)).mono ?_
 rintro e v1 ⟨rfl,h1⟩
 have hb1:=hb0.trans (h1.mono hb0.size)
 replace HC:=hid (HC.out.below h1)
 replace HD:=hid (HD.out.below h1)
 go_wp2_with fail
 refine (HF1.out _ HC.out).mono ?_
 rintro e v0 ⟨rfl,rfl⟩
 go_wp2_with fail
 refine (HF2.out _ HD.out).mono ?_
 rintro e v0 ⟨rfl,rfl⟩
 go_wp2_with fail
 refine (HM1.out _ (hw.below hb1) HC.out).mono ?_
 rintro e v2 ⟨r,P,rfl,hDr,hPt,h2⟩
 have hb2:=hb1.trans (h2.mono hb1.size)
 replace HC:=hid (HC.out.below h2)
 replace HD:=hid (HD.out.below h2)
 obtain ⟨pp,cc,rfl,_,_⟩:=hPt.slice
 have HP:=hid hPt
 have HDP:=hid hDr
 clear hPt hDr
 go_wp2_with fail
 refine (HM2.out _ (hw.below hb2) HD.out).mono ?_
 rintro e v3 ⟨r,Q,rfl,hDr,hPt,h3⟩
 have hb3:=hb2.trans (h3.mono hb2.size)
 replace HC:=hid (HC.out.below h3)
 replace HD:=hid (HD.out.below h3)
 replace HP:=hid (HP.out.below h3)
 obtain ⟨pq,cq,rfl,_,_⟩:=hPt.slice
 have HQ:=hid hPt
 have HDQ:=hid hDr
 have hI1:=fun w' (hg:Good w') hp hq=>pg_Intersect (.slice pp P.length cc) (.slice pq Q.length cq) P Q HDP.out HDQ.out w' hg hp hq
 have hI2:=fun w' (hg:Good w') hp hq=>pg_Intersect (.slice pq Q.length cq) (.slice pp P.length cc) Q P HDQ.out HDP.out w' hg hp hq
 have hI3:=fun w' (hg:Good w') hp hq=>r9_inter (.slice pp P.length cc) (.slice pq Q.length cq) P Q HDP.out HDQ.out w' hg hp hq
 have hI4:=fun w' (hg:Good w') hp hq=>pg_Intersect (.slice pp P.length cc) (.slice pp P.length cc) P P HDP.out HDP.out w' hg hp hq
 unfold MeetPost at hI1 hI2 hI4
 unfold RMtPost at hI3
 have HI1:=hid hI1
 have HI2:=hid hI2
 have HI3:=hid hI3
 have HI4:=hid hI4
 have hpl:decide (0<P.length)=true:=decide_eq_true (by have:=hDr.poly.1.1;have:=HDP.out.poly.1.1;omega)
 clear hPt hDr hI1 hI2 hI3 hI4
 go_wp2_with fail
 refine (HI1.out _ (hw.below hb3) HP.out HQ.out).mono ?_
 rintro e v4 ⟨R,r1,rfl,hC1,hp1,h4⟩
 have hb4:=hb3.trans (h4.mono hb3.size)
 replace HC:=hid (HC.out.below h4)
 replace HD:=hid (HD.out.below h4)
 replace HP:=hid (HP.out.below h4)
 replace HQ:=hid (HQ.out.below h4)
 obtain ⟨pa,ca,rfl,_,_⟩:=hp1.slice
 have HA:=hid hp1
 have HC1:=hid hC1
 clear hp1 hC1
 go_wp2_with fail
 refine (HI2.out _ (hw.below hb4) HQ.out HP.out).mono ?_
 rintro e v5 ⟨R2,r2,rfl,hC2,hp2,h5⟩
 have hb5:=hb4.trans (h5.mono hb4.size)
 replace HC:=hid (HC.out.below h5)
 replace HD:=hid (HD.out.below h5)
 replace HP:=hid (HP.out.below h5)
 replace HQ:=hid (HQ.out.below h5)
 replace HA:=hid (HA.out.below h5)
 obtain rfl:=HC1.out.unique hC2.swap
 obtain ⟨pb,cb,rfl,_,_⟩:=hp2.slice
 have HB:=hid hp2
 clear hp2 hC2
 go_wp2_with fail
 refine (HI3.out _ (hw.below hb5) HP.out HQ.out).mono ?_
 rintro e v6 ⟨R3,r3,rfl,hC3,hp3,h6⟩
 have hb6:=hb5.trans (h6.mono hb5.size)
 replace HC:=hid (HC.out.below h6)
 replace HD:=hid (HD.out.below h6)
 replace HP:=hid (HP.out.below h6)
 replace HQ:=hid (HQ.out.below h6)
 replace HA:=hid (HA.out.below h6)
 replace HB:=hid (HB.out.below h6)
 obtain rfl:=HC1.out.unique hC3
 obtain ⟨pw,cw,rfl,_,_⟩:=hp3.slice
 have HW:=hid hp3
 clear hp3 hC3
 go_wp2_with fail
 refine (HI4.out _ (hw.below hb6) HP.out HP.out).mono ?_
 rintro e v7 ⟨R4,r4,rfl,hC4,hp4,h7⟩
 have hb7:=hb6.trans (h7.mono hb6.size)
 replace HC:=hid (HC.out.below h7)
 replace HD:=hid (HD.out.below h7)
 replace HP:=hid (HP.out.below h7)
 replace HQ:=hid (HQ.out.below h7)
 replace HA:=hid (HA.out.below h7)
 replace HB:=hid (HB.out.below h7)
 replace HW:=hid (HW.out.below h7)
 obtain rfl:=(Poly.own HDP.out.poly).unique hC4
 obtain ⟨po,co,rfl,_,_⟩:=hp4.slice
 have HO:=hid hp4
 clear hp4 hC4
 have hDL:(decide (0<R.length)=true∧decide ((R.length:Int)>0)=true∧decide (0<(R.length:Int))=true)∨(decide (0<R.length)=false∧decide ((R.length:Int)>0)=false∧decide (0<(R.length:Int))=false):=by
  by_cases h0:0<R.length
  ·exact .inl ⟨decide_eq_true h0,decide_eq_true (by omega),decide_eq_true (by omega)⟩
  ·exact .inr ⟨decide_eq_false h0,decide_eq_false (by omega),decide_eq_false (by omega)⟩
 rw [hpl]
 rcases hDL with ⟨d1,d2,d3⟩ | ⟨d1,d2,d3⟩
 all_goals
  rw [d1]
  have HE0:=hid (r9_equal pointNeq _ _ _ _ v7 HA.out HW.out)
  rw [decide_eq_true rfl] at HE0
  go_wp2_with fail
  refine (HE0.out).mono ?_
  rintro e v8 ⟨rfl,h8⟩
  have hb8:=hb7.trans (h8.mono hb7.size)
  replace HC:=hid (HC.out.below h8)
  replace HD:=hid (HD.out.below h8)
  replace HP:=hid (HP.out.below h8)
  replace HQ:=hid (HQ.out.below h8)
  replace HA:=hid (HA.out.below h8)
  replace HB:=hid (HB.out.below h8)
  replace HW:=hid (HW.out.below h8)
  replace HO:=hid (HO.out.below h8)
  have HE1:=hid (r9_equal pointNeq _ _ _ _ v8 HB.out HW.out)
  rw [decide_eq_true rfl] at HE1
  go_wp2_with fail
  refine (HE1.out).mono ?_
  rintro e v9 ⟨rfl,h9⟩
  have hb9:=hb8.trans (h9.mono hb8.size)
  replace HC:=hid (HC.out.below h9)
  replace HD:=hid (HD.out.below h9)
  replace HP:=hid (HP.out.below h9)
  replace HQ:=hid (HQ.out.below h9)
  replace HA:=hid (HA.out.below h9)
  replace HB:=hid (HB.out.below h9)
  replace HW:=hid (HW.out.below h9)
  replace HO:=hid (HO.out.below h9)
  have HE2:=hid (r9_equal pointNeq _ _ _ _ v9 HO.out HP.out)
  rw [decide_eq_true rfl] at HE2
  go_wp2_with fail
  refine (HE2.out).mono ?_
  rintro e v10 ⟨rfl,h10⟩
  have hb10:=hb9.trans (h10.mono hb9.size)
  replace HC:=hid (HC.out.below h10)
  replace HD:=hid (HD.out.below h10)
  replace HP:=hid (HP.out.below h10)
  replace HQ:=hid (HQ.out.below h10)
  replace HA:=hid (HA.out.below h10)
  replace HB:=hid (HB.out.below h10)
  replace HW:=hid (HW.out.below h10)
  replace HO:=hid (HO.out.below h10)
  go_wp2
  go_ret
  exact ⟨rfl,hb10⟩
theorem law_PolygonMeets (v u:Value) (C D:List Plc) (w:World) (hw:Good w) (hv:Dft w v C) (hu:Dft w u D):Calls Tryz.prog 8 #[v,u] w (RV (.bool true) w):=by
 by_cases h8:C.length≤8
 ·by_cases k8:D.length≤8
  ·exact meets_in v u C D w hw hv hu h8 k8
  ·exact meets_out2 v u C D w hw hv hu h8 k8
 ·exact meets_out1 v u C D w hw hv hu h8
end Go.Proofs.YtgohnjdgoglcfaaGreatDoor
