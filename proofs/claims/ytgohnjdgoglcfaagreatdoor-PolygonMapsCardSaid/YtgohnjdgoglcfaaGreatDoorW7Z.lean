import Derived.Test.YtgohnjdgoglcfaaGreatDoorV1Z
import Derived.Test.YtgohnjdgoglcfaaGreatDoorV16Z
import Derived.Test.YtgohnjdgoglcfaaGreatDoorU13Z
set_option maxRecDepth 100000
set_option maxHeartbeats 8000000
namespace Go.Proofs.YtgohnjdgoglcfaaGreatDoor
open Go.RowKit Go.Shelf
open Go.Lib (decDigits itoa nDigits)
open Go.Lib (hid)
theorem map_val (r:QP) (t:Rat) (p:QP):valP r.1 r.2 (-t) p=r.1*p.1+r.2*p.2+t:=by unfold valP;grind
theorem crs_zero (r s:QP):crs (0,0) r s=det2 r s:=by unfold crs det2;grind
theorem abs_det (q:Rat):absQ q=if q<0 then -q else q:=rfl
theorem maps_out1 (v:Value) (D:List Plc) (a1 a2 b1 b2 c1 c2:ByteArray) (w:World) (hw:Good w) (hv:Dft w v D) (h8:¬ D.length≤8):Calls Tryz.prog 9 #[v,.agg #[.string a1,.string a2,.string b1,.string b2],.agg #[.string c1,.string c2]] w (RV (.bool true) w):=by
 have HKN:=hid law_known
 have HFT:=hid (fun w' (h:Dft w' v D)=>law_fits v D w' h)
 have HFW:=hid (fun wq=>law_few (.slice (some ⟨wq.heap.size,0,none⟩) 3 3) [(a1,a2),(b1,b2),(c1,c2)] (wq.alloc (Obj.cells #[.string a1,.string a2,.string b1,.string b2,.string c1,.string c2] 31)) (pairs_new wq 31 [(a1,a2),(b1,b2),(c1,c2)] (Nat.succ_pos _) (show 3≤maxLen by decide) _ rfl))
 unfold RV at HKN
 have HD:=hid hv
 obtain ⟨wA,hwA⟩ : ∃ wA,wA=(w.alloc (Obj.cells #[.string a1,.string a2,.string b1,.string b2] 77)).alloc (Obj.cells #[.string c1,.string c2] 31):=⟨_,rfl⟩
 have HWA:=hid hwA
 obtain ⟨hbA,y1,y2⟩:=boxes_map hwA
 have HY1:=hid y1
 have HY2:=hid y2
 replace HD:=hid (HD.out.below hbA)
 clear hv hwA y1 y2
 rw [decide_eq_false h8] at HFT
 clear h8
 go_enter Tryz.func9,Tryz.ntmps9
 go_upto_region 1 with fail
 rw [←HWA.out]
 go_wp2_with fail
 refine (HKN.out _ (hw.below hbA)).mono ?_
 rintro e v1 ⟨rfl,h1⟩
 have hb1:=hbA.trans (h1.mono hbA.size)
 replace HD:=hid (HD.out.below h1)
 replace HY1:=hid ((h1.block _ (lt_of_blk HY1.out)).trans HY1.out)
 replace HY2:=hid ((h1.block _ (lt_of_blk HY2.out)).trans HY2.out)
 go_wp2_with fail
 refine (HFT.out _ HD.out).mono ?_
 rintro e v0 ⟨rfl,rfl⟩
 go_wp2_with fail
 refine (HKN.out _ (hw.below hb1)).mono ?_
 rintro e v2 ⟨rfl,h2⟩
 have hb2:=hb1.trans (h2.mono hb1.size)
 replace HD:=hid (HD.out.below h2)
 replace HY1:=hid ((h2.block _ (lt_of_blk HY1.out)).trans HY1.out)
 replace HY2:=hid ((h2.block _ (lt_of_blk HY2.out)).trans HY2.out)
 go_wp2
 go_ret
 exact ⟨rfl,hb2⟩
theorem maps_out2 (v:Value) (D:List Plc) (a1 a2 b1 b2 c1 c2:ByteArray) (w:World) (hw:Good w) (hv:Dft w v D) (h8:D.length≤8) (hf:fewB [(a1,a2),(b1,b2),(c1,c2)]=false):Calls Tryz.prog 9 #[v,.agg #[.string a1,.string a2,.string b1,.string b2],.agg #[.string c1,.string c2]] w (RV (.bool true) w):=by
 have HKN:=hid law_known
 have HFT:=hid (fun w' (h:Dft w' v D)=>law_fits v D w' h)
 have HFW:=hid (fun wq=>law_few (.slice (some ⟨wq.heap.size,0,none⟩) 3 3) [(a1,a2),(b1,b2),(c1,c2)] (wq.alloc (Obj.cells #[.string a1,.string a2,.string b1,.string b2,.string c1,.string c2] 31)) (pairs_new wq 31 [(a1,a2),(b1,b2),(c1,c2)] (Nat.succ_pos _) (show 3≤maxLen by decide) _ rfl))
 unfold RV at HKN
 have HD:=hid hv
 obtain ⟨wA,hwA⟩ : ∃ wA,wA=(w.alloc (Obj.cells #[.string a1,.string a2,.string b1,.string b2] 77)).alloc (Obj.cells #[.string c1,.string c2] 31):=⟨_,rfl⟩
 have HWA:=hid hwA
 obtain ⟨hbA,y1,y2⟩:=boxes_map hwA
 have HY1:=hid y1
 have HY2:=hid y2
 replace HD:=hid (HD.out.below hbA)
 clear hv hwA y1 y2
 rw [decide_eq_true h8] at HFT
 rw [hf] at HFW
 clear h8 hf
 go_enter Tryz.func9,Tryz.ntmps9
 go_upto_region 1 with fail
 rw [←HWA.out]
 go_wp2_with fail
 refine (HKN.out _ (hw.below hbA)).mono ?_
 rintro e v1 ⟨rfl,h1⟩
 have hb1:=hbA.trans (h1.mono hbA.size)
 replace HD:=hid (HD.out.below h1)
 replace HY1:=hid ((h1.block _ (lt_of_blk HY1.out)).trans HY1.out)
 replace HY2:=hid ((h1.block _ (lt_of_blk HY2.out)).trans HY2.out)
 go_wp2_with fail
 refine (HFT.out _ HD.out).mono ?_
 rintro e v0 ⟨rfl,rfl⟩
 obtain ⟨q0,q1,q2,q3⟩:=rows_cells HY1.out
 obtain ⟨sh0,sh1,_,_⟩:=two_cells HY2.out
 have l1:=lt_of_blk HY1.out
 have l2:=lt_of_blk HY2.out
 go_wp2_with fail
 obtain ⟨v2,hwv2⟩ : ∃ v2,v2=v1.alloc (Obj.cells #[.string a1,.string a2,.string b1,.string b2,.string c1,.string c2] 31):=⟨_,rfl⟩
 obtain ⟨h2,hxv2⟩:=box_any hwv2
 have hb2:=hb1.trans (h2.mono hb1.size)
 replace HD:=hid (HD.out.below h2)
 replace HY1:=hid ((h2.block _ (lt_of_blk HY1.out)).trans HY1.out)
 replace HY2:=hid ((h2.block _ (lt_of_blk HY2.out)).trans HY2.out)
 rw [←hwv2]
 have HF2:=hid (HFW.out v1)
 rw [←hwv2] at HF2
 clear hwv2 hxv2
 clear q0 q1 q2 q3 sh0 sh1 l1 l2
 obtain ⟨q0,q1,q2,q3⟩:=rows_cells HY1.out
 obtain ⟨sh0,sh1,_,_⟩:=two_cells HY2.out
 have l1:=lt_of_blk HY1.out
 have l2:=lt_of_blk HY2.out
 refine (HF2.out).mono ?_
 rintro e v0 ⟨rfl,rfl⟩
 go_wp2_with fail
 refine (HKN.out _ (hw.below hb2)).mono ?_
 rintro e v3 ⟨rfl,h3⟩
 have hb3:=hb2.trans (h3.mono hb2.size)
 replace HD:=hid (HD.out.below h3)
 replace HY1:=hid ((h3.block _ (lt_of_blk HY1.out)).trans HY1.out)
 replace HY2:=hid ((h3.block _ (lt_of_blk HY2.out)).trans HY2.out)
 go_wp2
 go_ret
 exact ⟨rfl,hb3⟩
theorem maps_wrong1 (v:Value) (D:List Plc) (a1 a2 b1 b2 c1 c2:ByteArray) (w:World) (hw:Good w) (hv:Dft w v D) (h8:D.length≤8) (hf:fewB [(a1,a2),(b1,b2),(c1,c2)]=true) (h1:okPr (a1,a2)=false):Calls Tryz.prog 9 #[v,.agg #[.string a1,.string a2,.string b1,.string b2],.agg #[.string c1,.string c2]] w (RV (.bool true) w):=by
 have HKN:=hid law_known
 have HFT:=hid (fun w' (h:Dft w' v D)=>law_fits v D w' h)
 have HFW:=hid (fun wq=>law_few (.slice (some ⟨wq.heap.size,0,none⟩) 3 3) [(a1,a2),(b1,b2),(c1,c2)] (wq.alloc (Obj.cells #[.string a1,.string a2,.string b1,.string b2,.string c1,.string c2] 31)) (pairs_new wq 31 [(a1,a2),(b1,b2),(c1,c2)] (Nat.succ_pos _) (show 3≤maxLen by decide) _ rfl))
 unfold RV at HKN
 have HD:=hid hv
 obtain ⟨wA,hwA⟩ : ∃ wA,wA=(w.alloc (Obj.cells #[.string a1,.string a2,.string b1,.string b2] 77)).alloc (Obj.cells #[.string c1,.string c2] 31):=⟨_,rfl⟩
 have HWA:=hid hwA
 obtain ⟨hbA,y1,y2⟩:=boxes_map hwA
 have HY1:=hid y1
 have HY2:=hid y2
 replace HD:=hid (HD.out.below hbA)
 clear hv hwA y1 y2
 have HMK:=hid (fun w' (hg:Good w') (h:Dft w' v D)=>law_make v D w' hg h)
 unfold MadeD at HMK
 rw [decide_eq_true h8] at HFT
 rw [hf] at HFW
 have hs:a1.size≤40∧a2.size≤40∧b1.size≤40∧b2.size≤40∧c1.size≤40∧c2.size≤40:=by
  have h:=(fewB_true.1 hf).2
  have x1:=h (a1,a2) (by simp)
  have x2:=h (b1,b2) (by simp)
  have x3:=h (c1,c2) (by simp)
  exact ⟨x1.1,x1.2,x2.1,x2.2,x3.1,x3.2⟩
 have HR1:=hid (fun w' (hg:Good w')=>show Calls _ _ _ _ (RV (.bool (okPr (a1,a2))) w') from r5_rightpoint a1 a2 (Nat.le_trans hs.1 (by decide)) (Nat.le_trans hs.2.1 (by decide)) w' hg)
 have HR2:=hid (fun w' (hg:Good w')=>show Calls _ _ _ _ (RV (.bool (okPr (b1,b2))) w') from r5_rightpoint b1 b2 (Nat.le_trans hs.2.2.1 (by decide)) (Nat.le_trans hs.2.2.2.1 (by decide)) w' hg)
 have HR3:=hid (fun w' (hg:Good w')=>show Calls _ _ _ _ (RV (.bool (okPr (c1,c2))) w') from r5_rightpoint c1 c2 (Nat.le_trans hs.2.2.2.2.1 (by decide)) (Nat.le_trans hs.2.2.2.2.2 (by decide)) w' hg)
 unfold RV at HR1 HR2 HR3
 have HS:=hid hs
 clear h8 hf hs
 have HX1:=hid h1
 rw [h1] at HR1
 clear h1
 go_enter Tryz.func9,Tryz.ntmps9
 go_upto_region 1 with fail
 rw [←HWA.out]
 go_wp2_with fail
 refine (HKN.out _ (hw.below hbA)).mono ?_
 rintro e v1 ⟨rfl,h1⟩
 have hb1:=hbA.trans (h1.mono hbA.size)
 replace HD:=hid (HD.out.below h1)
 replace HY1:=hid ((h1.block _ (lt_of_blk HY1.out)).trans HY1.out)
 replace HY2:=hid ((h1.block _ (lt_of_blk HY2.out)).trans HY2.out)
 go_wp2_with fail
 refine (HFT.out _ HD.out).mono ?_
 rintro e v0 ⟨rfl,rfl⟩
 obtain ⟨q0,q1,q2,q3⟩:=rows_cells HY1.out
 obtain ⟨sh0,sh1,_,_⟩:=two_cells HY2.out
 have l1:=lt_of_blk HY1.out
 have l2:=lt_of_blk HY2.out
 go_wp2_with fail
 obtain ⟨v2,hwv2⟩ : ∃ v2,v2=v1.alloc (Obj.cells #[.string a1,.string a2,.string b1,.string b2,.string c1,.string c2] 31):=⟨_,rfl⟩
 obtain ⟨h2,hxv2⟩:=box_any hwv2
 have hb2:=hb1.trans (h2.mono hb1.size)
 replace HD:=hid (HD.out.below h2)
 replace HY1:=hid ((h2.block _ (lt_of_blk HY1.out)).trans HY1.out)
 replace HY2:=hid ((h2.block _ (lt_of_blk HY2.out)).trans HY2.out)
 rw [←hwv2]
 have HF2:=hid (HFW.out v1)
 rw [←hwv2] at HF2
 clear hwv2 hxv2
 clear q0 q1 q2 q3 sh0 sh1 l1 l2
 obtain ⟨q0,q1,q2,q3⟩:=rows_cells HY1.out
 obtain ⟨sh0,sh1,_,_⟩:=two_cells HY2.out
 have l1:=lt_of_blk HY1.out
 have l2:=lt_of_blk HY2.out
 refine (HF2.out).mono ?_
 rintro e v0 ⟨rfl,rfl⟩
 go_wp2_with fail
 refine (HMK.out _ (hw.below hb2) HD.out).mono ?_
 rintro e v3 ⟨r0,P,rfl,hDr,hPt,h3⟩
 have hb3:=hb2.trans (h3.mono hb2.size)
 replace HD:=hid (HD.out.below h3)
 replace HY1:=hid ((h3.block _ (lt_of_blk HY1.out)).trans HY1.out)
 replace HY2:=hid ((h3.block _ (lt_of_blk HY2.out)).trans HY2.out)
 obtain ⟨pp,cc,rfl,_,_⟩:=hPt.slice
 have HP:=hid hPt
 have HDP:=hid hDr
 have hMP:=fun w' (hg:Good w') hp=>pg_Map (.slice pp P.length cc) P hDr a1 a2 b1 b2 c1 c2 HS.out w' hg hp
 unfold MapPost at hMP
 have HMP:=hid hMP
 clear hPt hDr hMP
 clear q0 q1 q2 q3 sh0 sh1 l1 l2
 obtain ⟨q0,q1,q2,q3⟩:=rows_cells HY1.out
 obtain ⟨sh0,sh1,_,_⟩:=two_cells HY2.out
 have l1:=lt_of_blk HY1.out
 have l2:=lt_of_blk HY2.out
 go_wp2_with fail
 refine (HMP.out _ (hw.below hb3) HP.out).mono ?_
 rintro e v9 ⟨h9,hor⟩
 have hb9:=hb3.trans (h9.mono hb3.size)
 rcases hor with ⟨_,rfl⟩ | ⟨r,s,t,rfl,rfl,rfl,rfl,rfl,rfl,hr,hs,ht,_⟩
 rotate_left
 ·exact absurd (OkB.two hr) (by rw [HX1.out];decide)
 replace HD:=hid (HD.out.below h9)
 replace HY1:=hid ((h9.block _ (lt_of_blk HY1.out)).trans HY1.out)
 replace HY2:=hid ((h9.block _ (lt_of_blk HY2.out)).trans HY2.out)
 replace HP:=hid (HP.out.below h9)
 clear q0 q1 q2 q3 sh0 sh1 l1 l2
 obtain ⟨q0,q1,q2,q3⟩:=rows_cells HY1.out
 obtain ⟨sh0,sh1,_,_⟩:=two_cells HY2.out
 have l1:=lt_of_blk HY1.out
 have l2:=lt_of_blk HY2.out
 go_wp2_with fail
 refine (HR1.out _ (hw.below hb9)).mono ?_
 rintro e v4 ⟨rfl,h4⟩
 have hb4:=hb9.trans (h4.mono hb9.size)
 replace HD:=hid (HD.out.below h4)
 replace HY1:=hid ((h4.block _ (lt_of_blk HY1.out)).trans HY1.out)
 replace HY2:=hid ((h4.block _ (lt_of_blk HY2.out)).trans HY2.out)
 replace HP:=hid (HP.out.below h4)
 clear q0 q1 q2 q3 sh0 sh1 l1 l2
 obtain ⟨q0,q1,q2,q3⟩:=rows_cells HY1.out
 obtain ⟨sh0,sh1,_,_⟩:=two_cells HY2.out
 have l1:=lt_of_blk HY1.out
 have l2:=lt_of_blk HY2.out
 go_wp2
 go_ret
 exact ⟨rfl,hb4⟩
theorem maps_wrong2 (v:Value) (D:List Plc) (a1 a2 b1 b2 c1 c2:ByteArray) (w:World) (hw:Good w) (hv:Dft w v D) (h8:D.length≤8) (hf:fewB [(a1,a2),(b1,b2),(c1,c2)]=true) (h1:okPr (a1,a2)=true) (h2:okPr (b1,b2)=false):Calls Tryz.prog 9 #[v,.agg #[.string a1,.string a2,.string b1,.string b2],.agg #[.string c1,.string c2]] w (RV (.bool true) w):=by
 have HKN:=hid law_known
 have HFT:=hid (fun w' (h:Dft w' v D)=>law_fits v D w' h)
 have HFW:=hid (fun wq=>law_few (.slice (some ⟨wq.heap.size,0,none⟩) 3 3) [(a1,a2),(b1,b2),(c1,c2)] (wq.alloc (Obj.cells #[.string a1,.string a2,.string b1,.string b2,.string c1,.string c2] 31)) (pairs_new wq 31 [(a1,a2),(b1,b2),(c1,c2)] (Nat.succ_pos _) (show 3≤maxLen by decide) _ rfl))
 unfold RV at HKN
 have HD:=hid hv
 obtain ⟨wA,hwA⟩ : ∃ wA,wA=(w.alloc (Obj.cells #[.string a1,.string a2,.string b1,.string b2] 77)).alloc (Obj.cells #[.string c1,.string c2] 31):=⟨_,rfl⟩
 have HWA:=hid hwA
 obtain ⟨hbA,y1,y2⟩:=boxes_map hwA
 have HY1:=hid y1
 have HY2:=hid y2
 replace HD:=hid (HD.out.below hbA)
 clear hv hwA y1 y2
 have HMK:=hid (fun w' (hg:Good w') (h:Dft w' v D)=>law_make v D w' hg h)
 unfold MadeD at HMK
 rw [decide_eq_true h8] at HFT
 rw [hf] at HFW
 have hs:a1.size≤40∧a2.size≤40∧b1.size≤40∧b2.size≤40∧c1.size≤40∧c2.size≤40:=by
  have h:=(fewB_true.1 hf).2
  have x1:=h (a1,a2) (by simp)
  have x2:=h (b1,b2) (by simp)
  have x3:=h (c1,c2) (by simp)
  exact ⟨x1.1,x1.2,x2.1,x2.2,x3.1,x3.2⟩
 have HR1:=hid (fun w' (hg:Good w')=>show Calls _ _ _ _ (RV (.bool (okPr (a1,a2))) w') from r5_rightpoint a1 a2 (Nat.le_trans hs.1 (by decide)) (Nat.le_trans hs.2.1 (by decide)) w' hg)
 have HR2:=hid (fun w' (hg:Good w')=>show Calls _ _ _ _ (RV (.bool (okPr (b1,b2))) w') from r5_rightpoint b1 b2 (Nat.le_trans hs.2.2.1 (by decide)) (Nat.le_trans hs.2.2.2.1 (by decide)) w' hg)
 have HR3:=hid (fun w' (hg:Good w')=>show Calls _ _ _ _ (RV (.bool (okPr (c1,c2))) w') from r5_rightpoint c1 c2 (Nat.le_trans hs.2.2.2.2.1 (by decide)) (Nat.le_trans hs.2.2.2.2.2 (by decide)) w' hg)
 unfold RV at HR1 HR2 HR3
 have HS:=hid hs
 clear h8 hf hs
 have HX1:=hid h1
 rw [h1] at HR1
 have HX2:=hid h2
 rw [h2] at HR2
 clear h1 h2
 go_enter Tryz.func9,Tryz.ntmps9
 go_upto_region 1 with fail
 rw [←HWA.out]
 go_wp2_with fail
 refine (HKN.out _ (hw.below hbA)).mono ?_
 rintro e v1 ⟨rfl,h1⟩
 have hb1:=hbA.trans (h1.mono hbA.size)
 replace HD:=hid (HD.out.below h1)
 replace HY1:=hid ((h1.block _ (lt_of_blk HY1.out)).trans HY1.out)
 replace HY2:=hid ((h1.block _ (lt_of_blk HY2.out)).trans HY2.out)
 go_wp2_with fail
 refine (HFT.out _ HD.out).mono ?_
 rintro e v0 ⟨rfl,rfl⟩
 obtain ⟨q0,q1,q2,q3⟩:=rows_cells HY1.out
 obtain ⟨sh0,sh1,_,_⟩:=two_cells HY2.out
 have l1:=lt_of_blk HY1.out
 have l2:=lt_of_blk HY2.out
 go_wp2_with fail
 obtain ⟨v2,hwv2⟩ : ∃ v2,v2=v1.alloc (Obj.cells #[.string a1,.string a2,.string b1,.string b2,.string c1,.string c2] 31):=⟨_,rfl⟩
 obtain ⟨h2,hxv2⟩:=box_any hwv2
 have hb2:=hb1.trans (h2.mono hb1.size)
 replace HD:=hid (HD.out.below h2)
 replace HY1:=hid ((h2.block _ (lt_of_blk HY1.out)).trans HY1.out)
 replace HY2:=hid ((h2.block _ (lt_of_blk HY2.out)).trans HY2.out)
 rw [←hwv2]
 have HF2:=hid (HFW.out v1)
 rw [←hwv2] at HF2
 clear hwv2 hxv2
 clear q0 q1 q2 q3 sh0 sh1 l1 l2
 obtain ⟨q0,q1,q2,q3⟩:=rows_cells HY1.out
 obtain ⟨sh0,sh1,_,_⟩:=two_cells HY2.out
 have l1:=lt_of_blk HY1.out
 have l2:=lt_of_blk HY2.out
 refine (HF2.out).mono ?_
 rintro e v0 ⟨rfl,rfl⟩
 go_wp2_with fail
 refine (HMK.out _ (hw.below hb2) HD.out).mono ?_
 rintro e v3 ⟨r0,P,rfl,hDr,hPt,h3⟩
 have hb3:=hb2.trans (h3.mono hb2.size)
 replace HD:=hid (HD.out.below h3)
 replace HY1:=hid ((h3.block _ (lt_of_blk HY1.out)).trans HY1.out)
 replace HY2:=hid ((h3.block _ (lt_of_blk HY2.out)).trans HY2.out)
 obtain ⟨pp,cc,rfl,_,_⟩:=hPt.slice
 have HP:=hid hPt
 have HDP:=hid hDr
 have hMP:=fun w' (hg:Good w') hp=>pg_Map (.slice pp P.length cc) P hDr a1 a2 b1 b2 c1 c2 HS.out w' hg hp
 unfold MapPost at hMP
 have HMP:=hid hMP
 clear hPt hDr hMP
 clear q0 q1 q2 q3 sh0 sh1 l1 l2
 obtain ⟨q0,q1,q2,q3⟩:=rows_cells HY1.out
 obtain ⟨sh0,sh1,_,_⟩:=two_cells HY2.out
 have l1:=lt_of_blk HY1.out
 have l2:=lt_of_blk HY2.out
 go_wp2_with fail
 refine (HMP.out _ (hw.below hb3) HP.out).mono ?_
 rintro e v9 ⟨h9,hor⟩
 have hb9:=hb3.trans (h9.mono hb3.size)
 rcases hor with ⟨_,rfl⟩ | ⟨r,s,t,rfl,rfl,rfl,rfl,rfl,rfl,hr,hs,ht,_⟩
 rotate_left
 ·exact absurd (OkB.two hs) (by rw [HX2.out];decide)
 replace HD:=hid (HD.out.below h9)
 replace HY1:=hid ((h9.block _ (lt_of_blk HY1.out)).trans HY1.out)
 replace HY2:=hid ((h9.block _ (lt_of_blk HY2.out)).trans HY2.out)
 replace HP:=hid (HP.out.below h9)
 clear q0 q1 q2 q3 sh0 sh1 l1 l2
 obtain ⟨q0,q1,q2,q3⟩:=rows_cells HY1.out
 obtain ⟨sh0,sh1,_,_⟩:=two_cells HY2.out
 have l1:=lt_of_blk HY1.out
 have l2:=lt_of_blk HY2.out
 go_wp2_with fail
 refine (HR1.out _ (hw.below hb9)).mono ?_
 rintro e v4 ⟨rfl,h4⟩
 have hb4:=hb9.trans (h4.mono hb9.size)
 replace HD:=hid (HD.out.below h4)
 replace HY1:=hid ((h4.block _ (lt_of_blk HY1.out)).trans HY1.out)
 replace HY2:=hid ((h4.block _ (lt_of_blk HY2.out)).trans HY2.out)
 replace HP:=hid (HP.out.below h4)
 clear q0 q1 q2 q3 sh0 sh1 l1 l2
 obtain ⟨q0,q1,q2,q3⟩:=rows_cells HY1.out
 obtain ⟨sh0,sh1,_,_⟩:=two_cells HY2.out
 have l1:=lt_of_blk HY1.out
 have l2:=lt_of_blk HY2.out
 go_wp2_with fail
 refine (HR2.out _ (hw.below hb4)).mono ?_
 rintro e v5 ⟨rfl,h5⟩
 have hb5:=hb4.trans (h5.mono hb4.size)
 replace HD:=hid (HD.out.below h5)
 replace HY1:=hid ((h5.block _ (lt_of_blk HY1.out)).trans HY1.out)
 replace HY2:=hid ((h5.block _ (lt_of_blk HY2.out)).trans HY2.out)
 replace HP:=hid (HP.out.below h5)
 clear q0 q1 q2 q3 sh0 sh1 l1 l2
 obtain ⟨q0,q1,q2,q3⟩:=rows_cells HY1.out
 obtain ⟨sh0,sh1,_,_⟩:=two_cells HY2.out
 have l1:=lt_of_blk HY1.out
 have l2:=lt_of_blk HY2.out
 go_wp2
 go_ret
 exact ⟨rfl,hb5⟩
theorem maps_wrong3 (v:Value) (D:List Plc) (a1 a2 b1 b2 c1 c2:ByteArray) (w:World) (hw:Good w) (hv:Dft w v D) (h8:D.length≤8) (hf:fewB [(a1,a2),(b1,b2),(c1,c2)]=true) (h1:okPr (a1,a2)=true) (h2:okPr (b1,b2)=true) (h3:okPr (c1,c2)=false):Calls Tryz.prog 9 #[v,.agg #[.string a1,.string a2,.string b1,.string b2],.agg #[.string c1,.string c2]] w (RV (.bool true) w):=by
 have HKN:=hid law_known
 have HFT:=hid (fun w' (h:Dft w' v D)=>law_fits v D w' h)
 have HFW:=hid (fun wq=>law_few (.slice (some ⟨wq.heap.size,0,none⟩) 3 3) [(a1,a2),(b1,b2),(c1,c2)] (wq.alloc (Obj.cells #[.string a1,.string a2,.string b1,.string b2,.string c1,.string c2] 31)) (pairs_new wq 31 [(a1,a2),(b1,b2),(c1,c2)] (Nat.succ_pos _) (show 3≤maxLen by decide) _ rfl))
 unfold RV at HKN
 have HD:=hid hv
 obtain ⟨wA,hwA⟩ : ∃ wA,wA=(w.alloc (Obj.cells #[.string a1,.string a2,.string b1,.string b2] 77)).alloc (Obj.cells #[.string c1,.string c2] 31):=⟨_,rfl⟩
 have HWA:=hid hwA
 obtain ⟨hbA,y1,y2⟩:=boxes_map hwA
 have HY1:=hid y1
 have HY2:=hid y2
 replace HD:=hid (HD.out.below hbA)
 clear hv hwA y1 y2
 have HMK:=hid (fun w' (hg:Good w') (h:Dft w' v D)=>law_make v D w' hg h)
 unfold MadeD at HMK
 rw [decide_eq_true h8] at HFT
 rw [hf] at HFW
 have hs:a1.size≤40∧a2.size≤40∧b1.size≤40∧b2.size≤40∧c1.size≤40∧c2.size≤40:=by
  have h:=(fewB_true.1 hf).2
  have x1:=h (a1,a2) (by simp)
  have x2:=h (b1,b2) (by simp)
  have x3:=h (c1,c2) (by simp)
  exact ⟨x1.1,x1.2,x2.1,x2.2,x3.1,x3.2⟩
 have HR1:=hid (fun w' (hg:Good w')=>show Calls _ _ _ _ (RV (.bool (okPr (a1,a2))) w') from r5_rightpoint a1 a2 (Nat.le_trans hs.1 (by decide)) (Nat.le_trans hs.2.1 (by decide)) w' hg)
 have HR2:=hid (fun w' (hg:Good w')=>show Calls _ _ _ _ (RV (.bool (okPr (b1,b2))) w') from r5_rightpoint b1 b2 (Nat.le_trans hs.2.2.1 (by decide)) (Nat.le_trans hs.2.2.2.1 (by decide)) w' hg)
 have HR3:=hid (fun w' (hg:Good w')=>show Calls _ _ _ _ (RV (.bool (okPr (c1,c2))) w') from r5_rightpoint c1 c2 (Nat.le_trans hs.2.2.2.2.1 (by decide)) (Nat.le_trans hs.2.2.2.2.2 (by decide)) w' hg)
 unfold RV at HR1 HR2 HR3
 have HS:=hid hs
 clear h8 hf hs
 have HX1:=hid h1
 rw [h1] at HR1
 have HX2:=hid h2
 rw [h2] at HR2
 have HX3:=hid h3
 rw [h3] at HR3
 clear h1 h2 h3
 go_enter Tryz.func9,Tryz.ntmps9
 go_upto_region 1 with fail
 rw [←HWA.out]
 go_wp2_with fail
 refine (HKN.out _ (hw.below hbA)).mono ?_
 rintro e v1 ⟨rfl,h1⟩
 have hb1:=hbA.trans (h1.mono hbA.size)
 replace HD:=hid (HD.out.below h1)
 replace HY1:=hid ((h1.block _ (lt_of_blk HY1.out)).trans HY1.out)
 replace HY2:=hid ((h1.block _ (lt_of_blk HY2.out)).trans HY2.out)
 go_wp2_with fail
 refine (HFT.out _ HD.out).mono ?_
 rintro e v0 ⟨rfl,rfl⟩
 obtain ⟨q0,q1,q2,q3⟩:=rows_cells HY1.out
 obtain ⟨sh0,sh1,_,_⟩:=two_cells HY2.out
 have l1:=lt_of_blk HY1.out
 have l2:=lt_of_blk HY2.out
 go_wp2_with fail
 obtain ⟨v2,hwv2⟩ : ∃ v2,v2=v1.alloc (Obj.cells #[.string a1,.string a2,.string b1,.string b2,.string c1,.string c2] 31):=⟨_,rfl⟩
 obtain ⟨h2,hxv2⟩:=box_any hwv2
 have hb2:=hb1.trans (h2.mono hb1.size)
 replace HD:=hid (HD.out.below h2)
 replace HY1:=hid ((h2.block _ (lt_of_blk HY1.out)).trans HY1.out)
 replace HY2:=hid ((h2.block _ (lt_of_blk HY2.out)).trans HY2.out)
 rw [←hwv2]
 have HF2:=hid (HFW.out v1)
 rw [←hwv2] at HF2
 clear hwv2 hxv2
 clear q0 q1 q2 q3 sh0 sh1 l1 l2
 obtain ⟨q0,q1,q2,q3⟩:=rows_cells HY1.out
 obtain ⟨sh0,sh1,_,_⟩:=two_cells HY2.out
 have l1:=lt_of_blk HY1.out
 have l2:=lt_of_blk HY2.out
 refine (HF2.out).mono ?_
 rintro e v0 ⟨rfl,rfl⟩
 go_wp2_with fail
 refine (HMK.out _ (hw.below hb2) HD.out).mono ?_
 rintro e v3 ⟨r0,P,rfl,hDr,hPt,h3⟩
 have hb3:=hb2.trans (h3.mono hb2.size)
 replace HD:=hid (HD.out.below h3)
 replace HY1:=hid ((h3.block _ (lt_of_blk HY1.out)).trans HY1.out)
 replace HY2:=hid ((h3.block _ (lt_of_blk HY2.out)).trans HY2.out)
 obtain ⟨pp,cc,rfl,_,_⟩:=hPt.slice
 have HP:=hid hPt
 have HDP:=hid hDr
 have hMP:=fun w' (hg:Good w') hp=>pg_Map (.slice pp P.length cc) P hDr a1 a2 b1 b2 c1 c2 HS.out w' hg hp
 unfold MapPost at hMP
 have HMP:=hid hMP
 clear hPt hDr hMP
 clear q0 q1 q2 q3 sh0 sh1 l1 l2
 obtain ⟨q0,q1,q2,q3⟩:=rows_cells HY1.out
 obtain ⟨sh0,sh1,_,_⟩:=two_cells HY2.out
 have l1:=lt_of_blk HY1.out
 have l2:=lt_of_blk HY2.out
 go_wp2_with fail
 refine (HMP.out _ (hw.below hb3) HP.out).mono ?_
 rintro e v9 ⟨h9,hor⟩
 have hb9:=hb3.trans (h9.mono hb3.size)
 rcases hor with ⟨_,rfl⟩ | ⟨r,s,t,rfl,rfl,rfl,rfl,rfl,rfl,hr,hs,ht,_⟩
 rotate_left
 ·exact absurd (OkB.two ht) (by rw [HX3.out];decide)
 replace HD:=hid (HD.out.below h9)
 replace HY1:=hid ((h9.block _ (lt_of_blk HY1.out)).trans HY1.out)
 replace HY2:=hid ((h9.block _ (lt_of_blk HY2.out)).trans HY2.out)
 replace HP:=hid (HP.out.below h9)
 clear q0 q1 q2 q3 sh0 sh1 l1 l2
 obtain ⟨q0,q1,q2,q3⟩:=rows_cells HY1.out
 obtain ⟨sh0,sh1,_,_⟩:=two_cells HY2.out
 have l1:=lt_of_blk HY1.out
 have l2:=lt_of_blk HY2.out
 go_wp2_with fail
 refine (HR1.out _ (hw.below hb9)).mono ?_
 rintro e v4 ⟨rfl,h4⟩
 have hb4:=hb9.trans (h4.mono hb9.size)
 replace HD:=hid (HD.out.below h4)
 replace HY1:=hid ((h4.block _ (lt_of_blk HY1.out)).trans HY1.out)
 replace HY2:=hid ((h4.block _ (lt_of_blk HY2.out)).trans HY2.out)
 replace HP:=hid (HP.out.below h4)
 clear q0 q1 q2 q3 sh0 sh1 l1 l2
 obtain ⟨q0,q1,q2,q3⟩:=rows_cells HY1.out
 obtain ⟨sh0,sh1,_,_⟩:=two_cells HY2.out
 have l1:=lt_of_blk HY1.out
 have l2:=lt_of_blk HY2.out
 go_wp2_with fail
 refine (HR2.out _ (hw.below hb4)).mono ?_
 rintro e v5 ⟨rfl,h5⟩
 have hb5:=hb4.trans (h5.mono hb4.size)
 replace HD:=hid (HD.out.below h5)
 replace HY1:=hid ((h5.block _ (lt_of_blk HY1.out)).trans HY1.out)
 replace HY2:=hid ((h5.block _ (lt_of_blk HY2.out)).trans HY2.out)
 replace HP:=hid (HP.out.below h5)
 clear q0 q1 q2 q3 sh0 sh1 l1 l2
 obtain ⟨q0,q1,q2,q3⟩:=rows_cells HY1.out
 obtain ⟨sh0,sh1,_,_⟩:=two_cells HY2.out
 have l1:=lt_of_blk HY1.out
 have l2:=lt_of_blk HY2.out
 go_wp2_with fail
 refine (HR3.out _ (hw.below hb5)).mono ?_
 rintro e v6 ⟨rfl,h6⟩
 have hb6:=hb5.trans (h6.mono hb5.size)
 replace HD:=hid (HD.out.below h6)
 replace HY1:=hid ((h6.block _ (lt_of_blk HY1.out)).trans HY1.out)
 replace HY2:=hid ((h6.block _ (lt_of_blk HY2.out)).trans HY2.out)
 replace HP:=hid (HP.out.below h6)
 clear q0 q1 q2 q3 sh0 sh1 l1 l2
 obtain ⟨q0,q1,q2,q3⟩:=rows_cells HY1.out
 obtain ⟨sh0,sh1,_,_⟩:=two_cells HY2.out
 have l1:=lt_of_blk HY1.out
 have l2:=lt_of_blk HY2.out
 go_wp2
 go_ret
 exact ⟨rfl,hb6⟩
theorem maps_right (v:Value) (D:List Plc) (a1 a2 b1 b2 c1 c2:ByteArray) (w:World) (hw:Good w) (hv:Dft w v D) (h8:D.length≤8) (hf:fewB [(a1,a2),(b1,b2),(c1,c2)]=true) (h1:okPr (a1,a2)=true) (h2:okPr (b1,b2)=true) (h3:okPr (c1,c2)=true):Calls Tryz.prog 9 #[v,.agg #[.string a1,.string a2,.string b1,.string b2],.agg #[.string c1,.string c2]] w (RV (.bool true) w):=by
 have HKN:=hid law_known
 have HFT:=hid (fun w' (h:Dft w' v D)=>law_fits v D w' h)
 have HFW:=hid (fun wq=>law_few (.slice (some ⟨wq.heap.size,0,none⟩) 3 3) [(a1,a2),(b1,b2),(c1,c2)] (wq.alloc (Obj.cells #[.string a1,.string a2,.string b1,.string b2,.string c1,.string c2] 31)) (pairs_new wq 31 [(a1,a2),(b1,b2),(c1,c2)] (Nat.succ_pos _) (show 3≤maxLen by decide) _ rfl))
 unfold RV at HKN
 have HD:=hid hv
 obtain ⟨wA,hwA⟩ : ∃ wA,wA=(w.alloc (Obj.cells #[.string a1,.string a2,.string b1,.string b2] 77)).alloc (Obj.cells #[.string c1,.string c2] 31):=⟨_,rfl⟩
 have HWA:=hid hwA
 obtain ⟨hbA,y1,y2⟩:=boxes_map hwA
 have HY1:=hid y1
 have HY2:=hid y2
 replace HD:=hid (HD.out.below hbA)
 clear hv hwA y1 y2
 have HMK:=hid (fun w' (hg:Good w') (h:Dft w' v D)=>law_make v D w' hg h)
 unfold MadeD at HMK
 rw [decide_eq_true h8] at HFT
 rw [hf] at HFW
 have hs:a1.size≤40∧a2.size≤40∧b1.size≤40∧b2.size≤40∧c1.size≤40∧c2.size≤40:=by
  have h:=(fewB_true.1 hf).2
  have x1:=h (a1,a2) (by simp)
  have x2:=h (b1,b2) (by simp)
  have x3:=h (c1,c2) (by simp)
  exact ⟨x1.1,x1.2,x2.1,x2.2,x3.1,x3.2⟩
 have HR1:=hid (fun w' (hg:Good w')=>show Calls _ _ _ _ (RV (.bool (okPr (a1,a2))) w') from r5_rightpoint a1 a2 (Nat.le_trans hs.1 (by decide)) (Nat.le_trans hs.2.1 (by decide)) w' hg)
 have HR2:=hid (fun w' (hg:Good w')=>show Calls _ _ _ _ (RV (.bool (okPr (b1,b2))) w') from r5_rightpoint b1 b2 (Nat.le_trans hs.2.2.1 (by decide)) (Nat.le_trans hs.2.2.2.1 (by decide)) w' hg)
 have HR3:=hid (fun w' (hg:Good w')=>show Calls _ _ _ _ (RV (.bool (okPr (c1,c2))) w') from r5_rightpoint c1 c2 (Nat.le_trans hs.2.2.2.2.1 (by decide)) (Nat.le_trans hs.2.2.2.2.2 (by decide)) w' hg)
 unfold RV at HR1 HR2 HR3
 have HS:=hid hs
 clear h8 hf hs
 have HXX:=hid (And.intro h1 (And.intro h2 h3))
 rw [h1] at HR1
 rw [h2] at HR2
 rw [h3] at HR3
 clear h1 h2 h3
 go_enter Tryz.func9,Tryz.ntmps9
 go_upto_region 1 with fail
 rw [←HWA.out]
 go_wp2_with fail
 refine (HKN.out _ (hw.below hbA)).mono ?_
 rintro e v1 ⟨rfl,h1⟩
 have hb1:=hbA.trans (h1.mono hbA.size)
 replace HD:=hid (HD.out.below h1)
 replace HY1:=hid ((h1.block _ (lt_of_blk HY1.out)).trans HY1.out)
 replace HY2:=hid ((h1.block _ (lt_of_blk HY2.out)).trans HY2.out)
 go_wp2_with fail
 refine (HFT.out _ HD.out).mono ?_
 rintro e v0 ⟨rfl,rfl⟩
 obtain ⟨q0,q1,q2,q3⟩:=rows_cells HY1.out
 obtain ⟨sh0,sh1,_,_⟩:=two_cells HY2.out
 have l1:=lt_of_blk HY1.out
 have l2:=lt_of_blk HY2.out
 go_wp2_with fail
 obtain ⟨v2,hwv2⟩ : ∃ v2,v2=v1.alloc (Obj.cells #[.string a1,.string a2,.string b1,.string b2,.string c1,.string c2] 31):=⟨_,rfl⟩
 obtain ⟨h2,hxv2⟩:=box_any hwv2
 have hb2:=hb1.trans (h2.mono hb1.size)
 replace HD:=hid (HD.out.below h2)
 replace HY1:=hid ((h2.block _ (lt_of_blk HY1.out)).trans HY1.out)
 replace HY2:=hid ((h2.block _ (lt_of_blk HY2.out)).trans HY2.out)
 rw [←hwv2]
 have HF2:=hid (HFW.out v1)
 rw [←hwv2] at HF2
 clear hwv2 hxv2
 clear q0 q1 q2 q3 sh0 sh1 l1 l2
 obtain ⟨q0,q1,q2,q3⟩:=rows_cells HY1.out
 obtain ⟨sh0,sh1,_,_⟩:=two_cells HY2.out
 have l1:=lt_of_blk HY1.out
 have l2:=lt_of_blk HY2.out
 refine (HF2.out).mono ?_
 rintro e v0 ⟨rfl,rfl⟩
 go_wp2_with fail
 refine (HMK.out _ (hw.below hb2) HD.out).mono ?_
 rintro e v3 ⟨r0,P,rfl,hDr,hPt,h3⟩
 have hb3:=hb2.trans (h3.mono hb2.size)
 replace HD:=hid (HD.out.below h3)
 replace HY1:=hid ((h3.block _ (lt_of_blk HY1.out)).trans HY1.out)
 replace HY2:=hid ((h3.block _ (lt_of_blk HY2.out)).trans HY2.out)
 obtain ⟨pp,cc,rfl,_,_⟩:=hPt.slice
 have HP:=hid hPt
 have HDP:=hid hDr
 have hMP:=fun w' (hg:Good w') hp=>pg_Map (.slice pp P.length cc) P hDr a1 a2 b1 b2 c1 c2 HS.out w' hg hp
 unfold MapPost at hMP
 have HMP:=hid hMP
 clear hPt hDr hMP
 clear q0 q1 q2 q3 sh0 sh1 l1 l2
 obtain ⟨q0,q1,q2,q3⟩:=rows_cells HY1.out
 obtain ⟨sh0,sh1,_,_⟩:=two_cells HY2.out
 have l1:=lt_of_blk HY1.out
 have l2:=lt_of_blk HY2.out
 go_wp2_with fail
 refine (HMP.out _ (hw.below hb3) HP.out).mono ?_
 rintro e v9 ⟨h9,hor⟩
 have hb9:=hb3.trans (h9.mono hb3.size)
 rcases hor with ⟨hno,_⟩ | ⟨r,s,t,ea1,ea2,eb1,eb2,ec1,ec2,hr,hs,ht,hor⟩
 ·exact absurd HXX.out hno
 have HTE:=hid (And.intro ea1 (And.intro ea2 (And.intro eb1 (And.intro eb2 (And.intro ec1 ec2)))))
 replace HD:=hid (HD.out.below h9)
 replace HY1:=hid ((h9.block _ (lt_of_blk HY1.out)).trans HY1.out)
 replace HY2:=hid ((h9.block _ (lt_of_blk HY2.out)).trans HY2.out)
 replace HP:=hid (HP.out.below h9)
 clear q0 q1 q2 q3 sh0 sh1 l1 l2
 obtain ⟨q0,q1,q2,q3⟩:=rows_cells HY1.out
 obtain ⟨sh0,sh1,_,_⟩:=two_cells HY2.out
 have l1:=lt_of_blk HY1.out
 have l2:=lt_of_blk HY2.out
 have HAT:=hid (fun w' (hg:Good w')=>at_pt 0 0 0 0 (by simp) (by simp) (by decide) (by decide) w' hg)
 have z0:Sz2 10000 ((0,0):QP):=⟨Nat.le_trans (show (tx 0).size≤1 by decide +kernel) (by decide),Nat.le_trans (show (tx 0).size≤1 by decide +kernel) (by decide)⟩
 have har:=fun w' (hg:Good w')=>r5_area (0,0) r s z0 ((okP_sz hr).mono (by decide)) ((okP_sz hs).mono (by decide)) w' hg
 rw [crs_zero] at har
 have HAR:=hid har
 unfold RV at HAT HAR
 unfold ptV at HAR
 dsimp only at HAR
 rw [←ea1,←ea2,←eb1,←eb2] at HAR
 have HDN:=hid (show ((tx (det2 r s)).toList == [48])=decide (det2 r s=0) from (isR_mk (det2 r s)).zero)
 have HDZ:=hid (fun h:det2 r s=0=>show tx (det2 r s)=⟨#[48]⟩ by rw [h,tx0])
 have HOK:=hid (HDP.out.map (r:=r) (s:=s) (t:=t) ⟨Sh.of_size (by rw [Sz,←ea1];exact HS.out.1),Sh.of_size (by rw [Sz,←ea2];exact HS.out.2.1)⟩ ⟨Sh.of_size (by rw [Sz,←eb1];exact HS.out.2.2.1),Sh.of_size (by rw [Sz,←eb2];exact HS.out.2.2.2.1)⟩ ⟨Sh.of_size (by rw [Sz,←ec1];exact HS.out.2.2.2.2.1),Sh.of_size (by rw [Sz,←ec2];exact HS.out.2.2.2.2.2)⟩)
 have HRST:=hid (And.intro hr (And.intro hs ht))
 clear har z0 ea1 ea2 eb1 eb2 ec1 ec2 hr hs ht
 rcases hor with ⟨hd,rfl⟩ | ⟨hd,q,u0,rfl,hLA,hPt⟩
 ·go_wp2_with fail
  refine (HR1.out _ (hw.below hb9)).mono ?_
  rintro e v4 ⟨rfl,h4⟩
  have hb4:=hb9.trans (h4.mono hb9.size)
  replace HD:=hid (HD.out.below h4)
  replace HY1:=hid ((h4.block _ (lt_of_blk HY1.out)).trans HY1.out)
  replace HY2:=hid ((h4.block _ (lt_of_blk HY2.out)).trans HY2.out)
  replace HP:=hid (HP.out.below h4)
  clear q0 q1 q2 q3 sh0 sh1 l1 l2
  obtain ⟨q0,q1,q2,q3⟩:=rows_cells HY1.out
  obtain ⟨sh0,sh1,_,_⟩:=two_cells HY2.out
  have l1:=lt_of_blk HY1.out
  have l2:=lt_of_blk HY2.out
  go_wp2_with fail
  refine (HR2.out _ (hw.below hb4)).mono ?_
  rintro e v5 ⟨rfl,h5⟩
  have hb5:=hb4.trans (h5.mono hb4.size)
  replace HD:=hid (HD.out.below h5)
  replace HY1:=hid ((h5.block _ (lt_of_blk HY1.out)).trans HY1.out)
  replace HY2:=hid ((h5.block _ (lt_of_blk HY2.out)).trans HY2.out)
  replace HP:=hid (HP.out.below h5)
  clear q0 q1 q2 q3 sh0 sh1 l1 l2
  obtain ⟨q0,q1,q2,q3⟩:=rows_cells HY1.out
  obtain ⟨sh0,sh1,_,_⟩:=two_cells HY2.out
  have l1:=lt_of_blk HY1.out
  have l2:=lt_of_blk HY2.out
  go_wp2_with fail
  refine (HR3.out _ (hw.below hb5)).mono ?_
  rintro e v6 ⟨rfl,h6⟩
  have hb6:=hb5.trans (h6.mono hb5.size)
  replace HD:=hid (HD.out.below h6)
  replace HY1:=hid ((h6.block _ (lt_of_blk HY1.out)).trans HY1.out)
  replace HY2:=hid ((h6.block _ (lt_of_blk HY2.out)).trans HY2.out)
  replace HP:=hid (HP.out.below h6)
  clear q0 q1 q2 q3 sh0 sh1 l1 l2
  obtain ⟨q0,q1,q2,q3⟩:=rows_cells HY1.out
  obtain ⟨sh0,sh1,_,_⟩:=two_cells HY2.out
  have l1:=lt_of_blk HY1.out
  have l2:=lt_of_blk HY2.out
  have htd:=HDZ.out hd
  rw [htd] at HAR
  clear htd hd HDN HDZ
  go_wp2_with fail
  refine wp_held_list (fun W'=>Below v6.heap.size v6 W') [1,2,3,4] [0,5] 6 (by kernel_rfl) (by kernel_rfl) ⟨rfl,rfl,rfl,Nat.le_refl _,fun _ _=>rfl⟩ ?_
  iterate 4
   refine wpTakeL_step rfl ?_ rfl ?_ ?_
   rotate_left
   ·intro W' hS'
    have s0:=(hS'.cell (p:=⟨w.heap.size,0,none⟩) l1).trans q0
    have s1:=(hS'.cell (p:=⟨w.heap.size,1,none⟩) l1).trans q1
    have s2:=(hS'.cell (p:=⟨w.heap.size,2,none⟩) l1).trans q2
    have s3:=(hS'.cell (p:=⟨w.heap.size,3,none⟩) l1).trans q3
    go_simp
    try with_reducible rfl
   try simp only [zA,zB,zC,Act.put,zD,zE,zF]
  have hA0:Below v6.heap.size v6 v6.drew:=⟨rfl,rfl,rfl,Nat.le_refl _,fun _ _=>rfl⟩
  refine wpKeepL_step rfl rfl (fun K hK=>?_)
  go_simp
  refine (HAT.out _ (hw.below (hb6.trans (hA0.mono hb6.size)))).mono ?_
  rintro e u1 ⟨rfl,hbu1⟩
  have hA1:=hA0.trans (hbu1.mono hA0.size)
  refine hK _ _ ⟨hA1,?_⟩
  clear hK K
  try simp only [zA,zB,zC,Act.put,zD,zE,zF]
  refine wpKeepL_step rfl rfl (fun K hK=>?_)
  go_simp
  refine (HAR.out _ (hw.below (hb6.trans (hA1.mono hb6.size)))).mono ?_
  rintro e u2 ⟨rfl,hbu2⟩
  have hA2:=hA1.trans (hbu2.mono hA1.size)
  refine hK _ _ ⟨hA2,?_⟩
  clear hK K
  try simp only [zA,zB,zC,Act.put,zD,zE,zF]
  unfold wpKeepL
  simp only [List.drop_succ_cons,List.drop_zero]
  try simp only [zA,zB,zC,Act.put,zD,zE,zF]
  refine wpKeep_step rfl (fun K hK=>?_)
  go_simp
  refine hK _ _ ⟨trivial,wpKeep_nil ?_⟩
  clear hK K
  try simp only [zA,zB,zC,Act.put,zD,zE,zF]
  refine NormalOnly.mk ?_
  have hbu:=hb6.trans (hA2.mono hb6.size)
  replace HD:=hid (HD.out.below hA2)
  replace HY1:=hid ((hA2.block _ (lt_of_blk HY1.out)).trans HY1.out)
  replace HY2:=hid ((hA2.block _ (lt_of_blk HY2.out)).trans HY2.out)
  replace HP:=hid (HP.out.below hA2)
  clear q0 q1 q2 q3 sh0 sh1 l1 l2
  obtain ⟨q0,q1,q2,q3⟩:=rows_cells HY1.out
  obtain ⟨sh0,sh1,_,_⟩:=two_cells HY2.out
  have l1:=lt_of_blk HY1.out
  have l2:=lt_of_blk HY2.out
  go_wp2
  go_ret
  exact ⟨rfl,hbu⟩
 ·have hdn:=HDN.out
  rw [decide_eq_false hd] at hdn
  have HD0:=hid hd
  have HLA:=hid hLA
  have HQ:=hid hPt
  have hl8:(rotL (mapL r s t P) u0).length=P.length:=by rw [rotL_len _ (Nat.le_of_lt hLA.1),mapL_len]
  obtain ⟨pq,cq,rfl,_,_⟩:=hPt.slice
  have hp3:=HDP.out.poly.1.1
  have hp8:=HDP.out.le8
  have hz2:∀ k,k<P.length→Sz2 402 (pt P k):=fun k hk=>okP_sz (HDP.out.ok _ (pt_mem hk))
  have HN1:=hid (fun w'=>r_neg t.1 (HRST.out.2.2.1.sz.mono (by decide)) w')
  have HN2:=hid (fun w'=>r_neg t.2 (HRST.out.2.2.2.sz.mono (by decide)) w')
  have zn1:Sz 30000 (-t.1):=((OkB.sz HRST.out.2.2.1).neg).mono (by decide)
  have zn2:Sz 30000 (-t.2):=((OkB.sz HRST.out.2.2.2).neg).mono (by decide)
  have HV1:=hid (fun k (hk:k<P.length) w' (hg:Good w')=>show Calls _ _ _ _ (RV (.string (tx (r.1*(pt P k).1+r.2*(pt P k).2+t.1))) w') from by rw [←map_val];exact r5_value r.1 r.2 (-t.1) (pt P k) (HRST.out.1.1.sz.mono (by decide)) (HRST.out.1.2.sz.mono (by decide)) zn1 ((hz2 k hk).mono (by decide)) w' hg)
  have HV2:=hid (fun k (hk:k<P.length) w' (hg:Good w')=>show Calls _ _ _ _ (RV (.string (tx (s.1*(pt P k).1+s.2*(pt P k).2+t.2))) w') from by rw [←map_val];exact r5_value s.1 s.2 (-t.2) (pt P k) (HRST.out.2.1.1.sz.mono (by decide)) (HRST.out.2.1.2.sz.mono (by decide)) zn2 ((hz2 k hk).mono (by decide)) w' hg)
  unfold RV at HN1 HN2 HV1 HV2
  unfold ptV at HV1 HV2
  obtain ⟨ta1,ta2,tb1,tb2,tc1,tc2⟩:=HTE.out
  rw [←ta1,←ta2] at HV1
  rw [←tb1,←tb2] at HV2
  rw [←tc1] at HN1
  rw [←tc2] at HN2
  have hX:∀ p∈rotL (mapL r s t P) u0,OkB p.1∧OkB p.2:=fun p hp=>HOK.out p (mapL_mem.1 (mem_rotL.1 hp))
  have HAQ:=hid (fun w' (hg:Good w') hp=>r9_area_x (.slice pq (rotL (mapL r s t P) u0).length cq) _ (.inr (by rw [hl8];exact hp3)) (by rw [hl8];omega) hX w' hg hp)
  have HAP:=hid (fun w' (hg:Good w') hp=>r9_area_x (.slice pp P.length cc) P (.inr hp3) (by omega) HDP.out.ok w' hg hp)
  have zd:Sz 100000 (det2 r s):=((HRST.out.1.1.sz.mul HRST.out.2.1.2.sz).sub (HRST.out.1.2.sz.mul HRST.out.2.1.1.sz)).mono (by decide)
  have zad:Sz 100000 (absQ (det2 r s)):=by unfold absQ;split;exact (((HRST.out.1.1.sz.mul HRST.out.2.1.2.sz).sub (HRST.out.1.2.sz.mul HRST.out.2.1.1.sz)).neg).mono (by decide);exact zd
  have HAB:=hid (fun w'=>r_abs (det2 r s) (zd.mono (by decide)) w')
  have har:areaP (rotL (mapL r s t P) u0)=absQ (det2 r s)*areaP P:=by rw [area_rot,mapL_area r s t (by omega)];rfl
  have HML:=hid (fun w' (hg:Good w')=>r_mul (absQ (det2 r s)) (areaP P) (zad.mono (by decide)) ((okb_whole (.inr hp3) (by omega) HDP.out.ok).mono (by decide)) w' hg)
  rw [har] at HAQ
  have HHU:=hid (fun v' w' (hg:Good w') hp=>r9_hull v' (P.map (mapP r s t)) (by rw [List.length_map];omega) (by rw [List.length_map];omega) (fun p hp=>(okP_sz (HOK.out p hp)).mono (by decide)) w' hg hp)
  unfold HullPost at HHU
  unfold RV at HAQ HAP HAB HML
  have HHE:=hid (fun X (hX:Wrap (P.map (mapP r s t)) X)=>mapL_hull HDP.out.poly.1 HD0.out HLA.out hX)
  obtain ⟨RL,hRL⟩ : ∃ RL,RL=rotL (mapL r s t P) u0:=⟨_,rfl⟩
  rw [←hRL] at HQ HAQ HHE hl8 ⊢
  have HL8:=hid hl8
  clear hLA hPt hd ta1 ta2 tb1 tb2 tc1 tc2 hX har zd zad zn1 zn2 hz2 hRL HDN HDZ hl8
  generalize tx (det2 r s)=td at *
  generalize tx (areaP P)=tap at *
  generalize tx (absQ (det2 r s)*areaP P)=tm at *
  generalize tx (absQ (det2 r s))=tab at *
  obtain ⟨Bp,off,rfl,_,_⟩:=Pts.cells HP.out (by omega)
  go_wp2_with fail
  refine (HR1.out _ (hw.below hb9)).mono ?_
  rintro e v4 ⟨rfl,h4⟩
  have hb4:=hb9.trans (h4.mono hb9.size)
  replace HD:=hid (HD.out.below h4)
  replace HY1:=hid ((h4.block _ (lt_of_blk HY1.out)).trans HY1.out)
  replace HY2:=hid ((h4.block _ (lt_of_blk HY2.out)).trans HY2.out)
  replace HP:=hid (HP.out.below h4)
  replace HQ:=hid (HQ.out.below h4)
  clear q0 q1 q2 q3 sh0 sh1 l1 l2
  obtain ⟨q0,q1,q2,q3⟩:=rows_cells HY1.out
  obtain ⟨sh0,sh1,_,_⟩:=two_cells HY2.out
  have l1:=lt_of_blk HY1.out
  have l2:=lt_of_blk HY2.out
  go_wp2_with fail
  refine (HR2.out _ (hw.below hb4)).mono ?_
  rintro e v5 ⟨rfl,h5⟩
  have hb5:=hb4.trans (h5.mono hb4.size)
  replace HD:=hid (HD.out.below h5)
  replace HY1:=hid ((h5.block _ (lt_of_blk HY1.out)).trans HY1.out)
  replace HY2:=hid ((h5.block _ (lt_of_blk HY2.out)).trans HY2.out)
  replace HP:=hid (HP.out.below h5)
  replace HQ:=hid (HQ.out.below h5)
  clear q0 q1 q2 q3 sh0 sh1 l1 l2
  obtain ⟨q0,q1,q2,q3⟩:=rows_cells HY1.out
  obtain ⟨sh0,sh1,_,_⟩:=two_cells HY2.out
  have l1:=lt_of_blk HY1.out
  have l2:=lt_of_blk HY2.out
  go_wp2_with fail
  refine (HR3.out _ (hw.below hb5)).mono ?_
  rintro e v6 ⟨rfl,h6⟩
  have hb6:=hb5.trans (h6.mono hb5.size)
  replace HD:=hid (HD.out.below h6)
  replace HY1:=hid ((h6.block _ (lt_of_blk HY1.out)).trans HY1.out)
  replace HY2:=hid ((h6.block _ (lt_of_blk HY2.out)).trans HY2.out)
  replace HP:=hid (HP.out.below h6)
  replace HQ:=hid (HQ.out.below h6)
  clear q0 q1 q2 q3 sh0 sh1 l1 l2
  obtain ⟨q0,q1,q2,q3⟩:=rows_cells HY1.out
  obtain ⟨sh0,sh1,_,_⟩:=two_cells HY2.out
  have l1:=lt_of_blk HY1.out
  have l2:=lt_of_blk HY2.out
  go_wp2_with fail
  refine wp_held_list (fun W'=>Below v6.heap.size v6 W') [1,2,3,4] [0,5] 6 (by kernel_rfl) (by kernel_rfl) ⟨rfl,rfl,rfl,Nat.le_refl _,fun _ _=>rfl⟩ ?_
  iterate 4
   refine wpTakeL_step rfl ?_ rfl ?_ ?_
   rotate_left
   ·intro W' hS'
    have s0:=(hS'.cell (p:=⟨w.heap.size,0,none⟩) l1).trans q0
    have s1:=(hS'.cell (p:=⟨w.heap.size,1,none⟩) l1).trans q1
    have s2:=(hS'.cell (p:=⟨w.heap.size,2,none⟩) l1).trans q2
    have s3:=(hS'.cell (p:=⟨w.heap.size,3,none⟩) l1).trans q3
    go_simp
    try with_reducible rfl
   try simp only [zA,zB,zC,Act.put,zD,zE,zF]
  have hA0:Below v6.heap.size v6 v6.drew:=⟨rfl,rfl,rfl,Nat.le_refl _,fun _ _=>rfl⟩
  refine wpKeepL_step rfl rfl (fun K hK=>?_)
  go_simp
  refine (HAT.out _ (hw.below (hb6.trans (hA0.mono hb6.size)))).mono ?_
  rintro e u1 ⟨rfl,hbu1⟩
  have hA1:=hA0.trans (hbu1.mono hA0.size)
  refine hK _ _ ⟨hA1,?_⟩
  clear hK K
  try simp only [zA,zB,zC,Act.put,zD,zE,zF]
  refine wpKeepL_step rfl rfl (fun K hK=>?_)
  go_simp
  refine (HAR.out _ (hw.below (hb6.trans (hA1.mono hb6.size)))).mono ?_
  rintro e u2 ⟨rfl,hbu2⟩
  have hA2:=hA1.trans (hbu2.mono hA1.size)
  refine hK _ _ ⟨hA2,?_⟩
  clear hK K
  try simp only [zA,zB,zC,Act.put,zD,zE,zF]
  unfold wpKeepL
  simp only [List.drop_succ_cons,List.drop_zero]
  try simp only [zA,zB,zC,Act.put,zD,zE,zF]
  refine wpKeep_step rfl (fun K hK=>?_)
  go_simp
  refine hK _ _ ⟨trivial,wpKeep_nil ?_⟩
  clear hK K
  try simp only [zA,zB,zC,Act.put,zD,zE,zF]
  refine NormalOnly.mk ?_
  have hbu:=hb6.trans (hA2.mono hb6.size)
  replace HD:=hid (HD.out.below hA2)
  replace HY1:=hid ((hA2.block _ (lt_of_blk HY1.out)).trans HY1.out)
  replace HY2:=hid ((hA2.block _ (lt_of_blk HY2.out)).trans HY2.out)
  replace HP:=hid (HP.out.below hA2)
  replace HQ:=hid (HQ.out.below hA2)
  clear q0 q1 q2 q3 sh0 sh1 l1 l2
  obtain ⟨q0,q1,q2,q3⟩:=rows_cells HY1.out
  obtain ⟨sh0,sh1,_,_⟩:=two_cells HY2.out
  have l1:=lt_of_blk HY1.out
  have l2:=lt_of_blk HY2.out
  obtain ⟨wz,hwz⟩ : ∃ q,q=u2:=⟨_,rfl⟩
  subst hwz
  obtain ⟨B2,o2,hB2,hbl,hcell⟩:=Pts.cells HP.out (by omega)
  cases hB2
  have HCL:=hid (fun i (hi:i<P.length) wx (h:Below wz.heap.size wz wx)=>And.intro ((h.cell (p:=⟨Bp,off+i*2,none⟩) hbl).trans (hcell i hi).1) ((h.cell (p:=⟨Bp,off+i*2+1,none⟩) hbl).trans (hcell i hi).2))
  have hown0:wz.ownsRow wz.heap.size 31 2 (.slice none 0 0) 0 (cellsS ((mapTo r s t P 0).map textP)):=⟨rfl,.inl ⟨rfl,rfl⟩⟩
  have HO0:=hid hown0
  clear hcell hown0
  clear q0 q1 q2 q3 sh0 sh1 l1 l2
  go_wp2_with fail
  go_loopw [12,13] (fun ov iv wr=>∃ k:Nat,iv=.int .i64 (k:Int)∧k≤P.length∧wr.ownsRow wz.heap.size 31 2 ov k (cellsS ((mapTo r s t P k).map textP))∧Below wz.heap.size wz wr) (fun _ iv _=>P.length-(intOf iv).toNat)
  case atStart=>exact ⟨0,rfl,Nat.zero_le _,HO0.out,Below.refl _ _⟩
  case round =>
   obtain ⟨k,rfl,hkl,hown,hbrz⟩:=hrel
   have hbR:=hbu.trans (hbrz.mono hbu.size)
   have HO:=hid hown
   by_cases hk:k<P.length
   ·have hkn:decide ((k:Int)<(P.length:Int))=true:=decide_eq_true (by omega)
    have i1:(0:Int)≤(k:Int):=by omega
    have i2:(k:Int)<(P.length:Int):=by omega
    obtain ⟨c0,c1'⟩:=HCL.out k hk wr hbrz
    have hblr:Bp<wr.heap.size:=Nat.lt_of_lt_of_le hbl hbrz.size
    have HS':=hid (mapTo_succ (r:=r) (s:=s) (t:=t) hk)
    have HLEN:=hid (mapTo_len (r:=r) (s:=s) (t:=t) (Nat.le_of_lt hk))
    have W2:=hid (HV1.out k hk)
    have W4:=hid (HV2.out k hk)
    have HL:=hid (show cellsS ((mapTo r s t P k).map textP) ++ [.string (tx (r.1*(pt P k).1+r.2*(pt P k).2+t.1)),.string (tx (s.1*(pt P k).1+s.2*(pt P k).2+t.2))]=cellsS ((mapTo r s t P k ++ [mapP r s t (pt P k)]).map textP) from cells_last (mapTo r s t P k) (mapP r s t (pt P k)))
    have HZ1:=hid ((hbrz.block _ (lt_of_blk HY1.out)).trans HY1.out)
    have HZ2:=hid ((hbrz.block _ (lt_of_blk HY2.out)).trans HY2.out)
    have l1:=lt_of_blk HZ1.out
    have l2:=lt_of_blk HZ2.out
    obtain ⟨q0,q1,q2,q3⟩:=rows_cells HZ1.out
    obtain ⟨sh0,sh1,_,_⟩:=two_cells HZ2.out
    clear hown HV1 HV2
    generalize tx (r.1*(pt P k).1+r.2*(pt P k).2+t.1)=z1 at *
    generalize tx (s.1*(pt P k).1+s.2*(pt P k).2+t.2)=z2 at *
    generalize tx (-t.1)=n1' at *
    generalize tx (-t.2)=n2' at *
    generalize tx (pt P k).1=p1 at *
    generalize tx (pt P k).2=p2 at *
    go_wp2_with fail
    refine wp_held_ph (fun W'=>Below wr.heap.size wr W') [(true,0),(true,1),(true,2),(true,3),(true,4),(true,5),(true,6),(true,7),(true,8),(true,10),(true,11),(true,12),(true,13),(true,15),(true,16),(true,17),(true,18),(true,19),(true,20),(true,21),(true,22),(true,24),(true,25),(true,26),(true,27),(false,9),(false,14),(false,23),(false,28),(true,29),(false,30)] 31 (by kernel_rfl) (by kernel_rfl) ⟨rfl,rfl,rfl,Nat.le_refl _,fun _ _=>rfl⟩ ?_
    have hG0:Below wr.heap.size wr wr.drew:=⟨rfl,rfl,rfl,Nat.le_refl _,fun _ _=>rfl⟩
    iterate 25
     refine wpPh_take rfl ?_ rfl ?_ ?_
     rotate_left
     ·intro W' hS'
      have s0:=(hS'.cell (p:=⟨w.heap.size,0,none⟩) l1).trans q0
      have s1:=(hS'.cell (p:=⟨w.heap.size,1,none⟩) l1).trans q1
      have s2:=(hS'.cell (p:=⟨w.heap.size,2,none⟩) l1).trans q2
      have s3:=(hS'.cell (p:=⟨w.heap.size,3,none⟩) l1).trans q3
      have s4:=(hS'.cell (p:=⟨w.heap.size+1,0,none⟩) l2).trans sh0
      have s5:=(hS'.cell (p:=⟨w.heap.size+1,1,none⟩) l2).trans sh1
      have s6:=(hS'.cell (p:=⟨Bp,off+k*2,none⟩) hblr).trans c0
      have s7:=(hS'.cell (p:=⟨Bp,off+k*2+1,none⟩) hblr).trans c1'
      go_simp
      try with_reducible rfl
     try simp only [zA,zB,zC,Act.put,zD,zE,zF]
    refine wpPh_keep rfl rfl (fun K hK=>?_)
    go_simp
    refine (HN1.out _).mono ?_
    rintro e m1 ⟨rfl,hbm1⟩
    have hG1:=hG0.trans (hbm1.mono hG0.size)
    refine hK _ _ ⟨hG1,?_⟩
    clear hK K
    try simp only [zA,zB,zC,Act.put,zD,zE,zF]
    refine wpPh_keep rfl rfl (fun K hK=>?_)
    go_simp
    refine (W2.out _ (hw.below (hbR.trans (hG1.mono hbR.size)))).mono ?_
    rintro e m2 ⟨rfl,hbm2⟩
    have hG2:=hG1.trans (hbm2.mono hG1.size)
    refine hK _ _ ⟨hG2,?_⟩
    clear hK K
    try simp only [zA,zB,zC,Act.put,zD,zE,zF]
    refine wpPh_keep rfl rfl (fun K hK=>?_)
    go_simp
    refine (HN2.out _).mono ?_
    rintro e m3 ⟨rfl,hbm3⟩
    have hG3:=hG2.trans (hbm3.mono hG2.size)
    refine hK _ _ ⟨hG3,?_⟩
    clear hK K
    try simp only [zA,zB,zC,Act.put,zD,zE,zF]
    refine wpPh_keep rfl rfl (fun K hK=>?_)
    go_simp
    refine (W4.out _ (hw.below (hbR.trans (hG3.mono hbR.size)))).mono ?_
    rintro e m4 ⟨rfl,hbm4⟩
    have hG4:=hG3.trans (hbm4.mono hG3.size)
    refine hK _ _ ⟨hG4,?_⟩
    clear hK K
    try simp only [zA,zB,zC,Act.put,zD,zE,zF]
    refine wpPh_take rfl ?_ rfl ?_ ?_
    rotate_left
    ·intro W' hS'
     have s0:=(hS'.cell (p:=⟨w.heap.size,0,none⟩) l1).trans q0
     have s1:=(hS'.cell (p:=⟨w.heap.size,1,none⟩) l1).trans q1
     have s2:=(hS'.cell (p:=⟨w.heap.size,2,none⟩) l1).trans q2
     have s3:=(hS'.cell (p:=⟨w.heap.size,3,none⟩) l1).trans q3
     have s4:=(hS'.cell (p:=⟨w.heap.size+1,0,none⟩) l2).trans sh0
     have s5:=(hS'.cell (p:=⟨w.heap.size+1,1,none⟩) l2).trans sh1
     have s6:=(hS'.cell (p:=⟨Bp,off+k*2,none⟩) hblr).trans c0
     have s7:=(hS'.cell (p:=⟨Bp,off+k*2+1,none⟩) hblr).trans c1'
     go_simp
     try with_reducible rfl
    try simp only [zA,zB,zC,Act.put,zD,zE,zF]
    refine wpPh_keep rfl rfl (fun K hK=>?_)
    go_simp
    obtain ⟨m5,hwm5⟩ : ∃ m5,m5=m4.alloc (Obj.cells #[.string z1,.string z2] 31):=⟨_,rfl⟩
    have hbm5:Below m4.heap.size m4 m5:=by rw [hwm5];exact alloc_below _ _
    have hG5:=hG4.trans (hbm5.mono hG4.size)
    rw [←hwm5]
    have HWm5:=hid hwm5
    clear hwm5
    refine hK _ _ ⟨hG5,?_⟩
    clear hK K
    try simp only [zA,zB,zC,Act.put,zD,zE,zF]
    unfold wpPh
    simp only [List.drop_succ_cons,List.drop_zero]
    try simp only [zA,zB,zC,Act.put,zD,zE,zF]
    have hbn:=hbR.trans (hG5.mono hbR.size)
    have hyn:=hbrz.trans (hG5.mono hbrz.size)
    have HO1:=hid (owns_below HO.out hG4)
    have hbase:wz.heap.size≤m4.heap.size:=(hbrz.trans (hG4.mono hbrz.size)).size
    clear q0 q1 q2 q3 sh0 sh1 l1 l2 c0 c1'
    rw [HWm5.out]
    go_wp2_with (at_builtin;refine app_new slPt rfl _ _ rfl wz.heap.size _ k _ rfl HO1.out 1 1 _ rfl rfl (oneTwo _ _) (by omega) (by decide) hbase _ HL.out ?_;intro v1 w9 hown2 hb9;rw [←HS'.out] at hown2;have HO2:=hid hown2;clear hown2)
    obtain ⟨g2,cp2,rfl⟩:=ownsRow_succ HO2.out
    refine NormalOnly.mk ?_
    go_wp2
    refine ⟨⟨k+1,int_succ k,hk,HO2.out,(hbrz.trans (hG4.mono hbrz.size)).trans hb9⟩,?_⟩
    show P.length-((k:Int)+1).toNat<P.length-((k:Int)).toNat
    omega
   ·have hkn:decide ((k:Int)<(P.length:Int))=false:=decide_eq_false (by omega)
    have ek:k=P.length:=by omega
    have HM:=hid (mapTo_all (r:=r) (s:=s) (t:=t) ek)
    have HLEN:=hid (mapTo_len (r:=r) (s:=s) (t:=t) hkl)
    rcases hown.2 with ⟨_,h0⟩ | ⟨g,cap,cur,rfl,_⟩
    ·omega
    ·subst ek
     rw [HM.out] at hown
     have HPM:=hid (show Pts wr (.slice (some ⟨g,0,none⟩) P.length cap) (P.map (mapP r s t)) from pairs_of_cells (by rw [List.length_map,List.length_map];exact hown))
     obtain ⟨B3,o3,hB3,hbl3,hcell3⟩:=Pts.cells HPM.out (by rw [List.length_map];omega)
     cases hB3
     rw [List.length_map] at hcell3
     have HC3:=hid (fun i (hi:i<P.length) wx (h:Below wr.heap.size wr wx)=>And.intro ((h.cell (p:=⟨g,0+i*2,none⟩) hbl3).trans (hcell3 i hi).1) ((h.cell (p:=⟨g,0+i*2+1,none⟩) hbl3).trans (hcell3 i hi).2))
     have HRP:=hid (fun i (hi:i<P.length) w' (hg:Good w')=>show Calls Tryz.prog 15 #[.agg #[.string (tx (pt (P.map (mapP r s t)) i).1),.string (tx (pt (P.map (mapP r s t)) i).2)]] w' (RV (.bool true) w') from by
      have hm:=HOK.out _ (pt_mem (R:=P.map (mapP r s t)) (i:=i) (by rw [List.length_map];exact hi))
      have h:=r5_rightpoint (tx (pt (P.map (mapP r s t)) i).1) (tx (pt (P.map (mapP r s t)) i).2) (Nat.le_trans hm.1.sz (by decide)) (Nat.le_trans hm.2.sz (by decide)) w' hg
      have e:=OkB.two hm
      unfold okPr okS at e
      rw [e] at h
      exact h)
     unfold RV at HRP
     obtain ⟨wy,hwy⟩ : ∃ q,q=wr:=⟨_,rfl⟩
     subst hwy
     clear hown hcell3 HO
     go_wp2_with fail
     go_loopw [6,14] (fun rv iv wr=>∃ k:Nat,rv=.bool false∧iv=.int .i64 (k:Int)∧k≤P.length∧Below wy.heap.size wy wr) (fun _ iv _=>P.length-(intOf iv).toNat)
     case atStart=>exact ⟨0,rfl,rfl,Nat.zero_le _,Below.refl _ _⟩
     case round =>
      obtain ⟨k,rfl,rfl,hkl',hbry⟩:=hrel
      have hbY:=hbR.trans (hbry.mono hbR.size)
      by_cases hk':k<P.length
      ·have hkn':decide ((k:Int)<(P.length:Int))=true:=decide_eq_true (by omega)
       have i1:(0:Int)≤(k:Int):=by omega
       have i2:(k:Int)<(P.length:Int):=by omega
       obtain ⟨c0,c1'⟩:=HC3.out k hk' wr hbry
       have H1:=hid (HRP.out k hk')
       rw [Nat.zero_add] at c0 c1'
       clear HRP HC3
       generalize tx (pt (P.map (mapP r s t)) k).1=p1 at *
       generalize tx (pt (P.map (mapP r s t)) k).2=p2 at *
       go_wp2_with fail
       refine (H1.out _ (hw.below hbY)).mono ?_
       rintro e w5 ⟨rfl,h5⟩
       go_wp2
       refine ⟨⟨k+1,rfl,int_succ k,hk',hbry.trans (h5.mono hbry.size)⟩,?_⟩
       show P.length-((k:Int)+1).toNat<P.length-((k:Int)).toNat
       omega
      ·have hkn':decide ((k:Int)<(P.length:Int))=false:=decide_eq_false (by omega)
       have hzr:=hbrz.trans (hbry.mono hbrz.size)
       have HPr:=hid (HP.out.below hzr)
       have HQr:=hid (HQ.out.below hzr)
       have HMr:=hid (HPM.out.below hbry)
       go_wp2_with fail
       refine (HHU.out _ _ (hw.below hbY) HMr.out).mono ?_
       rintro e v1 ⟨r2,X,rfl,hW,hPX,h1⟩
       have hb1:=hbY.trans (h1.mono hbY.size)
       replace HPr:=hid (HPr.out.below h1)
       replace HQr:=hid (HQr.out.below h1)
       replace HMr:=hid (HMr.out.below h1)
       obtain rfl:=HHE.out X hW
       rw [if_neg (show ¬ X.length<3 by rw [HL8.out];omega)] at hPX
       obtain ⟨px,cx,rfl,_,_⟩:=hPX.slice
       have HX:=hid hPX
       clear hW hPX
       have HE:=hid (r9_equal pointNeq _ _ _ _ v1 HQr.out HX.out)
       rw [decide_eq_true rfl] at HE
       go_wp2_with fail
       refine (HE.out).mono ?_
       rintro e v2 ⟨rfl,h2⟩
       have hb2:=hb1.trans (h2.mono hb1.size)
       replace HPr:=hid (HPr.out.below h2)
       replace HQr:=hid (HQr.out.below h2)
       replace HMr:=hid (HMr.out.below h2)
       replace HX:=hid (HX.out.below h2)
       go_wp2_with fail
       refine (HAQ.out _ (hw.below hb2) HQr.out).mono ?_
       rintro e v3 ⟨rfl,h3⟩
       have hb3:=hb2.trans (h3.mono hb2.size)
       replace HPr:=hid (HPr.out.below h3)
       replace HQr:=hid (HQr.out.below h3)
       replace HMr:=hid (HMr.out.below h3)
       replace HX:=hid (HX.out.below h3)
       go_wp2_with fail
       refine (HAB.out _).mono ?_
       rintro e v4 ⟨rfl,h4⟩
       have hb4:=hb3.trans (h4.mono hb3.size)
       replace HPr:=hid (HPr.out.below h4)
       replace HQr:=hid (HQr.out.below h4)
       replace HMr:=hid (HMr.out.below h4)
       replace HX:=hid (HX.out.below h4)
       go_wp2_with fail
       refine (HAP.out _ (hw.below hb4) HPr.out).mono ?_
       rintro e v5 ⟨rfl,h5⟩
       have hb5:=hb4.trans (h5.mono hb4.size)
       replace HPr:=hid (HPr.out.below h5)
       replace HQr:=hid (HQr.out.below h5)
       replace HMr:=hid (HMr.out.below h5)
       replace HX:=hid (HX.out.below h5)
       go_wp2_with fail
       refine (HML.out _ (hw.below hb5)).mono ?_
       rintro e v6 ⟨rfl,h6⟩
       have hb6:=hb5.trans (h6.mono hb5.size)
       replace HPr:=hid (HPr.out.below h6)
       replace HQr:=hid (HQr.out.below h6)
       replace HMr:=hid (HMr.out.below h6)
       replace HX:=hid (HX.out.below h6)
       go_wp2
       go_ret
       exact ⟨rfl,hb6⟩
theorem law_PolygonMaps (v:Value) (D:List Plc) (a1 a2 b1 b2 c1 c2:ByteArray) (w:World) (hw:Good w) (hv:Dft w v D):Calls Tryz.prog 9 #[v,.agg #[.string a1,.string a2,.string b1,.string b2],.agg #[.string c1,.string c2]] w (RV (.bool true) w):=by
 by_cases h8:D.length≤8
 ·cases hf:fewB [(a1,a2),(b1,b2),(c1,c2)]
  ·exact maps_out2 v D a1 a2 b1 b2 c1 c2 w hw hv h8 hf
  ·cases h1:okPr (a1,a2)
   ·exact maps_wrong1 v D a1 a2 b1 b2 c1 c2 w hw hv h8 hf h1
   ·cases h2:okPr (b1,b2)
    ·exact maps_wrong2 v D a1 a2 b1 b2 c1 c2 w hw hv h8 hf h1 h2
    ·cases h3:okPr (c1,c2)
     ·exact maps_wrong3 v D a1 a2 b1 b2 c1 c2 w hw hv h8 hf h1 h2 h3
     ·exact maps_right v D a1 a2 b1 b2 c1 c2 w hw hv h8 hf h1 h2 h3
 ·exact maps_out1 v D a1 a2 b1 b2 c1 c2 w hw hv h8
end Go.Proofs.YtgohnjdgoglcfaaGreatDoor
