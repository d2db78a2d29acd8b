import Derived.Test.YtgohnjdgoglcfaaGreatDoorV8Z
namespace Go.Proofs.YtgohnjdgoglcfaaGreatDoor
open Go.RowKit Go.Shelf
open Go.Lib (decDigits itoa nDigits)
set_option maxRecDepth 100000 in
set_option maxHeartbeats 4000000 in
theorem chords_out0 (v:Value) (D:List Plc) (a1 a2 b1 b2:ByteArray) (w:World) (hw:Good w) (hv:Dft w v D) (h8:¬ D.length≤8):Calls Tryz.prog 4 #[v,.agg #[.string a1,.string a2],.agg #[.string b1,.string b2]] w (RV (.bool true) w):=by
 have HKN:=Lib.hid law_known
 have HFT:=Lib.hid (fun w' (h:Dft w' v D)=>law_fits v D w' h)
 unfold RV at HKN
 have HDD:=Lib.hid hv
 have HD:=HDD
 obtain ⟨wA,hwA⟩ : ∃ wA,wA=(w.alloc (Obj.cells #[.string a1,.string a2] 31)).alloc (Obj.cells #[.string b1,.string b2] 31):=⟨_,rfl⟩
 have HWA:=Lib.hid hwA
 obtain ⟨hbA,hx1,hx2⟩:=boxes2 hwA
 have HX:=Lib.hid hx1
 have HY:=Lib.hid hx2
 replace HD:=Lib.hid (HD.out.below hbA)
 clear hwA hx1 hx2 hv
 rw [decide_eq_false h8] at HFT
 clear h8
 go_enter Tryz.func4,Tryz.ntmps4
 go_upto_region 1 with fail
 rw [←HWA.out]
 go_wp2_with fail
 refine (HKN.out _ (hw.below hbA)).mono ?_
 rintro e v1 ⟨rfl,h1⟩
 have hb1:=hbA.trans (h1.mono hbA.size)
 replace HD:=Lib.hid (HD.out.below h1)
 replace HX:=Lib.hid ((h1.block _ (lt_of_blk HX.out)).trans HX.out)
 replace HY:=Lib.hid ((h1.block _ (lt_of_blk HY.out)).trans HY.out)
 go_wp2_with fail
 refine (HFT.out _ HD.out).mono ?_
 rintro e v0 ⟨rfl,rfl⟩
 go_wp2_with fail
 refine (HKN.out _ (hw.below hb1)).mono ?_
 rintro e v2 ⟨rfl,h2⟩
 have hb2:=hb1.trans (h2.mono hb1.size)
 replace HD:=Lib.hid (HD.out.below h2)
 replace HX:=Lib.hid ((h2.block _ (lt_of_blk HX.out)).trans HX.out)
 replace HY:=Lib.hid ((h2.block _ (lt_of_blk HY.out)).trans HY.out)
 go_wp2
 go_ret
 exact ⟨rfl,hb2⟩
set_option maxRecDepth 100000 in
set_option maxHeartbeats 4000000 in
theorem chords_out1 (v:Value) (D:List Plc) (a1 a2 b1 b2:ByteArray) (w:World) (hw:Good w) (hv:Dft w v D) (h8:D.length≤8) (k1:¬ a1.size≤40):Calls Tryz.prog 4 #[v,.agg #[.string a1,.string a2],.agg #[.string b1,.string b2]] w (RV (.bool true) w):=by
 have HKN:=Lib.hid law_known
 have HFT:=Lib.hid (fun w' (h:Dft w' v D)=>law_fits v D w' h)
 unfold RV at HKN
 have HDD:=Lib.hid hv
 have HD:=HDD
 obtain ⟨wA,hwA⟩ : ∃ wA,wA=(w.alloc (Obj.cells #[.string a1,.string a2] 31)).alloc (Obj.cells #[.string b1,.string b2] 31):=⟨_,rfl⟩
 have HWA:=Lib.hid hwA
 obtain ⟨hbA,hx1,hx2⟩:=boxes2 hwA
 have HX:=Lib.hid hx1
 have HY:=Lib.hid hx2
 replace HD:=Lib.hid (HD.out.below hbA)
 clear hwA hx1 hx2 hv
 rw [decide_eq_true h8] at HFT
 clear h8
 go_enter Tryz.func4,Tryz.ntmps4
 go_upto_region 1 with fail
 rw [←HWA.out]
 go_wp2_with fail
 refine (HKN.out _ (hw.below hbA)).mono ?_
 rintro e v1 ⟨rfl,h1⟩
 have hb1:=hbA.trans (h1.mono hbA.size)
 replace HD:=Lib.hid (HD.out.below h1)
 replace HX:=Lib.hid ((h1.block _ (lt_of_blk HX.out)).trans HX.out)
 replace HY:=Lib.hid ((h1.block _ (lt_of_blk HY.out)).trans HY.out)
 go_wp2_with fail
 refine (HFT.out _ HD.out).mono ?_
 rintro e v0 ⟨rfl,rfl⟩
 obtain ⟨g0,g1,_,_⟩:=two_cells HX.out
 obtain ⟨e0,e1,_,_⟩:=two_cells HY.out
 go_wp2_with fail
 refine (HKN.out _ (hw.below hb1)).mono ?_
 rintro e v2 ⟨rfl,h2⟩
 have hb2:=hb1.trans (h2.mono hb1.size)
 replace HD:=Lib.hid (HD.out.below h2)
 replace HX:=Lib.hid ((h2.block _ (lt_of_blk HX.out)).trans HX.out)
 replace HY:=Lib.hid ((h2.block _ (lt_of_blk HY.out)).trans HY.out)
 go_wp2
 go_ret
 exact ⟨rfl,hb2⟩
set_option maxRecDepth 100000 in
set_option maxHeartbeats 4000000 in
theorem chords_out2 (v:Value) (D:List Plc) (a1 a2 b1 b2:ByteArray) (w:World) (hw:Good w) (hv:Dft w v D) (h8:D.length≤8) (k1:a1.size≤40) (k2:¬ a2.size≤40):Calls Tryz.prog 4 #[v,.agg #[.string a1,.string a2],.agg #[.string b1,.string b2]] w (RV (.bool true) w):=by
 have HKN:=Lib.hid law_known
 have HFT:=Lib.hid (fun w' (h:Dft w' v D)=>law_fits v D w' h)
 unfold RV at HKN
 have HDD:=Lib.hid hv
 have HD:=HDD
 obtain ⟨wA,hwA⟩ : ∃ wA,wA=(w.alloc (Obj.cells #[.string a1,.string a2] 31)).alloc (Obj.cells #[.string b1,.string b2] 31):=⟨_,rfl⟩
 have HWA:=Lib.hid hwA
 obtain ⟨hbA,hx1,hx2⟩:=boxes2 hwA
 have HX:=Lib.hid hx1
 have HY:=Lib.hid hx2
 replace HD:=Lib.hid (HD.out.below hbA)
 clear hwA hx1 hx2 hv
 rw [decide_eq_true h8] at HFT
 clear h8
 go_enter Tryz.func4,Tryz.ntmps4
 go_upto_region 1 with fail
 rw [←HWA.out]
 go_wp2_with fail
 refine (HKN.out _ (hw.below hbA)).mono ?_
 rintro e v1 ⟨rfl,h1⟩
 have hb1:=hbA.trans (h1.mono hbA.size)
 replace HD:=Lib.hid (HD.out.below h1)
 replace HX:=Lib.hid ((h1.block _ (lt_of_blk HX.out)).trans HX.out)
 replace HY:=Lib.hid ((h1.block _ (lt_of_blk HY.out)).trans HY.out)
 go_wp2_with fail
 refine (HFT.out _ HD.out).mono ?_
 rintro e v0 ⟨rfl,rfl⟩
 obtain ⟨g0,g1,_,_⟩:=two_cells HX.out
 obtain ⟨e0,e1,_,_⟩:=two_cells HY.out
 go_wp2_with fail
 refine (HKN.out _ (hw.below hb1)).mono ?_
 rintro e v2 ⟨rfl,h2⟩
 have hb2:=hb1.trans (h2.mono hb1.size)
 replace HD:=Lib.hid (HD.out.below h2)
 replace HX:=Lib.hid ((h2.block _ (lt_of_blk HX.out)).trans HX.out)
 replace HY:=Lib.hid ((h2.block _ (lt_of_blk HY.out)).trans HY.out)
 go_wp2
 go_ret
 exact ⟨rfl,hb2⟩
set_option maxRecDepth 100000 in
set_option maxHeartbeats 4000000 in
theorem chords_out3 (v:Value) (D:List Plc) (a1 a2 b1 b2:ByteArray) (w:World) (hw:Good w) (hv:Dft w v D) (h8:D.length≤8) (k1:a1.size≤40) (k2:a2.size≤40) (k3:¬ b1.size≤40):Calls Tryz.prog 4 #[v,.agg #[.string a1,.string a2],.agg #[.string b1,.string b2]] w (RV (.bool true) w):=by
 have HKN:=Lib.hid law_known
 have HFT:=Lib.hid (fun w' (h:Dft w' v D)=>law_fits v D w' h)
 unfold RV at HKN
 have HDD:=Lib.hid hv
 have HD:=HDD
 obtain ⟨wA,hwA⟩ : ∃ wA,wA=(w.alloc (Obj.cells #[.string a1,.string a2] 31)).alloc (Obj.cells #[.string b1,.string b2] 31):=⟨_,rfl⟩
 have HWA:=Lib.hid hwA
 obtain ⟨hbA,hx1,hx2⟩:=boxes2 hwA
 have HX:=Lib.hid hx1
 have HY:=Lib.hid hx2
 replace HD:=Lib.hid (HD.out.below hbA)
 clear hwA hx1 hx2 hv
 rw [decide_eq_true h8] at HFT
 clear h8
 go_enter Tryz.func4,Tryz.ntmps4
 go_upto_region 1 with fail
 rw [←HWA.out]
 go_wp2_with fail
 refine (HKN.out _ (hw.below hbA)).mono ?_
 rintro e v1 ⟨rfl,h1⟩
 have hb1:=hbA.trans (h1.mono hbA.size)
 replace HD:=Lib.hid (HD.out.below h1)
 replace HX:=Lib.hid ((h1.block _ (lt_of_blk HX.out)).trans HX.out)
 replace HY:=Lib.hid ((h1.block _ (lt_of_blk HY.out)).trans HY.out)
 go_wp2_with fail
 refine (HFT.out _ HD.out).mono ?_
 rintro e v0 ⟨rfl,rfl⟩
 obtain ⟨g0,g1,_,_⟩:=two_cells HX.out
 obtain ⟨e0,e1,_,_⟩:=two_cells HY.out
 go_wp2_with fail
 refine (HKN.out _ (hw.below hb1)).mono ?_
 rintro e v2 ⟨rfl,h2⟩
 have hb2:=hb1.trans (h2.mono hb1.size)
 replace HD:=Lib.hid (HD.out.below h2)
 replace HX:=Lib.hid ((h2.block _ (lt_of_blk HX.out)).trans HX.out)
 replace HY:=Lib.hid ((h2.block _ (lt_of_blk HY.out)).trans HY.out)
 go_wp2
 go_ret
 exact ⟨rfl,hb2⟩
set_option maxRecDepth 100000 in
set_option maxHeartbeats 4000000 in
theorem chords_out4 (v:Value) (D:List Plc) (a1 a2 b1 b2:ByteArray) (w:World) (hw:Good w) (hv:Dft w v D) (h8:D.length≤8) (k1:a1.size≤40) (k2:a2.size≤40) (k3:b1.size≤40) (k4:¬ b2.size≤40):Calls Tryz.prog 4 #[v,.agg #[.string a1,.string a2],.agg #[.string b1,.string b2]] w (RV (.bool true) w):=by
 have HKN:=Lib.hid law_known
 have HFT:=Lib.hid (fun w' (h:Dft w' v D)=>law_fits v D w' h)
 unfold RV at HKN
 have HDD:=Lib.hid hv
 have HD:=HDD
 obtain ⟨wA,hwA⟩ : ∃ wA,wA=(w.alloc (Obj.cells #[.string a1,.string a2] 31)).alloc (Obj.cells #[.string b1,.string b2] 31):=⟨_,rfl⟩
 have HWA:=Lib.hid hwA
 obtain ⟨hbA,hx1,hx2⟩:=boxes2 hwA
 have HX:=Lib.hid hx1
 have HY:=Lib.hid hx2
 replace HD:=Lib.hid (HD.out.below hbA)
 clear hwA hx1 hx2 hv
 rw [decide_eq_true h8] at HFT
 clear h8
 go_enter Tryz.func4,Tryz.ntmps4
 go_upto_region 1 with fail
 rw [←HWA.out]
 go_wp2_with fail
 refine (HKN.out _ (hw.below hbA)).mono ?_
 rintro e v1 ⟨rfl,h1⟩
 have hb1:=hbA.trans (h1.mono hbA.size)
 replace HD:=Lib.hid (HD.out.below h1)
 replace HX:=Lib.hid ((h1.block _ (lt_of_blk HX.out)).trans HX.out)
 replace HY:=Lib.hid ((h1.block _ (lt_of_blk HY.out)).trans HY.out)
 go_wp2_with fail
 refine (HFT.out _ HD.out).mono ?_
 rintro e v0 ⟨rfl,rfl⟩
 obtain ⟨g0,g1,_,_⟩:=two_cells HX.out
 obtain ⟨e0,e1,_,_⟩:=two_cells HY.out
 go_wp2_with fail
 refine (HKN.out _ (hw.below hb1)).mono ?_
 rintro e v2 ⟨rfl,h2⟩
 have hb2:=hb1.trans (h2.mono hb1.size)
 replace HD:=Lib.hid (HD.out.below h2)
 replace HX:=Lib.hid ((h2.block _ (lt_of_blk HX.out)).trans HX.out)
 replace HY:=Lib.hid ((h2.block _ (lt_of_blk HY.out)).trans HY.out)
 go_wp2
 go_ret
 exact ⟨rfl,hb2⟩
set_option maxRecDepth 100000 in
set_option maxHeartbeats 4000000 in
theorem chords_a (v:Value) (D:List Plc) (a1 a2 b1 b2:ByteArray) (w:World) (hw:Good w) (hv:Dft w v D) (h8:D.length≤8) (k1:a1.size≤40) (k2:a2.size≤40) (k3:b1.size≤40) (k4:b2.size≤40) (q1:okPr (a1,a2)=false):Calls Tryz.prog 4 #[v,.agg #[.string a1,.string a2],.agg #[.string b1,.string b2]] w (RV (.bool true) w):=by
 have HKN:=Lib.hid law_known
 have HFT:=Lib.hid (fun w' (h:Dft w' v D)=>law_fits v D w' h)
 unfold RV at HKN
 have HDD:=Lib.hid hv
 have HD:=HDD
 obtain ⟨wA,hwA⟩ : ∃ wA,wA=(w.alloc (Obj.cells #[.string a1,.string a2] 31)).alloc (Obj.cells #[.string b1,.string b2] 31):=⟨_,rfl⟩
 have HWA:=Lib.hid hwA
 obtain ⟨hbA,hx1,hx2⟩:=boxes2 hwA
 have HX:=Lib.hid hx1
 have HY:=Lib.hid hx2
 replace HD:=Lib.hid (HD.out.below hbA)
 clear hwA hx1 hx2 hv
 have HMK:=Lib.hid (fun w' (hg:Good w') (h:Dft w' v D)=>law_make v D w' hg h)
 unfold MadeD at HMK
 rw [decide_eq_true h8] at HFT
 have hsz:a1.size≤4000000∧a2.size≤4000000∧b1.size≤4000000∧b2.size≤4000000:=⟨Nat.le_trans k1 (by decide),Nat.le_trans k2 (by decide),Nat.le_trans k3 (by decide),Nat.le_trans k4 (by decide)⟩
 have HRA:=Lib.hid (fun w' (hg:Good w')=>right_point a1 a2 hsz.1 hsz.2.1 w' hg)
 have HRB:=Lib.hid (fun w' (hg:Good w')=>right_point b1 b2 hsz.2.2.1 hsz.2.2.2 w' hg)
 unfold RV at HRA HRB
 clear h8
 go_enter Tryz.func4,Tryz.ntmps4
 go_upto_region 1 with fail
 rw [←HWA.out]
 go_wp2_with fail
 refine (HKN.out _ (hw.below hbA)).mono ?_
 rintro e v1 ⟨rfl,h1⟩
 have hb1:=hbA.trans (h1.mono hbA.size)
 replace HD:=Lib.hid (HD.out.below h1)
 replace HX:=Lib.hid ((h1.block _ (lt_of_blk HX.out)).trans HX.out)
 replace HY:=Lib.hid ((h1.block _ (lt_of_blk HY.out)).trans HY.out)
 go_wp2_with fail
 refine (HFT.out _ HD.out).mono ?_
 rintro e v0 ⟨rfl,rfl⟩
 obtain ⟨g0,g1,_,_⟩:=two_cells HX.out
 obtain ⟨e0,e1,_,_⟩:=two_cells HY.out
 go_wp2_with fail
 refine (HMK.out _ (hw.below hb1) HD.out).mono ?_
 rintro e v2 ⟨r,P,rfl,hDr,hPt,h2⟩
 have hb2:=hb1.trans (h2.mono hb1.size)
 replace HD:=Lib.hid (HD.out.below h2)
 replace HX:=Lib.hid ((h2.block _ (lt_of_blk HX.out)).trans HX.out)
 replace HY:=Lib.hid ((h2.block _ (lt_of_blk HY.out)).trans HY.out)
 obtain ⟨pp,cc,rfl,hcc1,hcc2⟩:=hPt.slice
 have HP:=Lib.hid hPt
 have HDR:=Lib.hid hDr
 have hP8:=hDr.le8
 have hP3:=hDr.poly.1.1
 clear hPt hDr g0 g1 e0 e1
 have HCH:=Lib.hid (fun w' (hg:Good w') hp=>pg_chord_a (.slice pp P.length cc) P a1 a2 b1 b2 HDR.out.poly (by omega) HDR.out.ok hsz q1 w' hg hp)
 unfold RV at HCH
 rw [q1] at HRA
 clear q1 k1 k2 k3 k4 hsz
 obtain ⟨g0,g1,_,_⟩:=two_cells HX.out
 obtain ⟨e0,e1,_,_⟩:=two_cells HY.out
 go_wp2_with fail
 refine (HCH.out _ (hw.below hb2) HP.out).mono ?_
 rintro e v3 ⟨rfl,h3⟩
 have hb3:=hb2.trans (h3.mono hb2.size)
 replace HD:=Lib.hid (HD.out.below h3)
 replace HX:=Lib.hid ((h3.block _ (lt_of_blk HX.out)).trans HX.out)
 replace HY:=Lib.hid ((h3.block _ (lt_of_blk HY.out)).trans HY.out)
 replace HP:=Lib.hid (HP.out.below h3)
 clear g0 g1 e0 e1
 obtain ⟨g0,g1,_,_⟩:=two_cells HX.out
 obtain ⟨e0,e1,_,_⟩:=two_cells HY.out
 go_wp2_with fail
 refine (HRA.out _ (hw.below hb3)).mono ?_
 rintro e v4 ⟨rfl,h4⟩
 have hb4:=hb3.trans (h4.mono hb3.size)
 replace HD:=Lib.hid (HD.out.below h4)
 replace HX:=Lib.hid ((h4.block _ (lt_of_blk HX.out)).trans HX.out)
 replace HY:=Lib.hid ((h4.block _ (lt_of_blk HY.out)).trans HY.out)
 replace HP:=Lib.hid (HP.out.below h4)
 go_wp2
 go_ret
 exact ⟨rfl,hb4⟩
set_option maxRecDepth 100000 in
set_option maxHeartbeats 4000000 in
theorem chords_b (v:Value) (D:List Plc) (a1 a2 b1 b2:ByteArray) (w:World) (hw:Good w) (hv:Dft w v D) (h8:D.length≤8) (k1:a1.size≤40) (k2:a2.size≤40) (k3:b1.size≤40) (k4:b2.size≤40) (q1:okPr (a1,a2)=true) (q2:okPr (b1,b2)=false):Calls Tryz.prog 4 #[v,.agg #[.string a1,.string a2],.agg #[.string b1,.string b2]] w (RV (.bool true) w):=by
 have HKN:=Lib.hid law_known
 have HFT:=Lib.hid (fun w' (h:Dft w' v D)=>law_fits v D w' h)
 unfold RV at HKN
 have HDD:=Lib.hid hv
 have HD:=HDD
 obtain ⟨wA,hwA⟩ : ∃ wA,wA=(w.alloc (Obj.cells #[.string a1,.string a2] 31)).alloc (Obj.cells #[.string b1,.string b2] 31):=⟨_,rfl⟩
 have HWA:=Lib.hid hwA
 obtain ⟨hbA,hx1,hx2⟩:=boxes2 hwA
 have HX:=Lib.hid hx1
 have HY:=Lib.hid hx2
 replace HD:=Lib.hid (HD.out.below hbA)
 clear hwA hx1 hx2 hv
 have HMK:=Lib.hid (fun w' (hg:Good w') (h:Dft w' v D)=>law_make v D w' hg h)
 unfold MadeD at HMK
 rw [decide_eq_true h8] at HFT
 have hsz:a1.size≤4000000∧a2.size≤4000000∧b1.size≤4000000∧b2.size≤4000000:=⟨Nat.le_trans k1 (by decide),Nat.le_trans k2 (by decide),Nat.le_trans k3 (by decide),Nat.le_trans k4 (by decide)⟩
 have HRA:=Lib.hid (fun w' (hg:Good w')=>right_point a1 a2 hsz.1 hsz.2.1 w' hg)
 have HRB:=Lib.hid (fun w' (hg:Good w')=>right_point b1 b2 hsz.2.2.1 hsz.2.2.2 w' hg)
 unfold RV at HRA HRB
 clear h8
 go_enter Tryz.func4,Tryz.ntmps4
 go_upto_region 1 with fail
 rw [←HWA.out]
 go_wp2_with fail
 refine (HKN.out _ (hw.below hbA)).mono ?_
 rintro e v1 ⟨rfl,h1⟩
 have hb1:=hbA.trans (h1.mono hbA.size)
 replace HD:=Lib.hid (HD.out.below h1)
 replace HX:=Lib.hid ((h1.block _ (lt_of_blk HX.out)).trans HX.out)
 replace HY:=Lib.hid ((h1.block _ (lt_of_blk HY.out)).trans HY.out)
 go_wp2_with fail
 refine (HFT.out _ HD.out).mono ?_
 rintro e v0 ⟨rfl,rfl⟩
 obtain ⟨g0,g1,_,_⟩:=two_cells HX.out
 obtain ⟨e0,e1,_,_⟩:=two_cells HY.out
 go_wp2_with fail
 refine (HMK.out _ (hw.below hb1) HD.out).mono ?_
 rintro e v2 ⟨r,P,rfl,hDr,hPt,h2⟩
 have hb2:=hb1.trans (h2.mono hb1.size)
 replace HD:=Lib.hid (HD.out.below h2)
 replace HX:=Lib.hid ((h2.block _ (lt_of_blk HX.out)).trans HX.out)
 replace HY:=Lib.hid ((h2.block _ (lt_of_blk HY.out)).trans HY.out)
 obtain ⟨pp,cc,rfl,hcc1,hcc2⟩:=hPt.slice
 have HP:=Lib.hid hPt
 have HDR:=Lib.hid hDr
 have hP8:=hDr.le8
 have hP3:=hDr.poly.1.1
 clear hPt hDr g0 g1 e0 e1
 have HCH:=Lib.hid (fun w' (hg:Good w') hp=>pg_chord_b (.slice pp P.length cc) P a1 a2 b1 b2 HDR.out.poly (by omega) HDR.out.ok hsz q1 q2 w' hg hp)
 unfold RV at HCH
 rw [q1] at HRA
 rw [q2] at HRB
 clear q1 q2 k1 k2 k3 k4 hsz
 obtain ⟨g0,g1,_,_⟩:=two_cells HX.out
 obtain ⟨e0,e1,_,_⟩:=two_cells HY.out
 go_wp2_with fail
 refine (HCH.out _ (hw.below hb2) HP.out).mono ?_
 rintro e v3 ⟨rfl,h3⟩
 have hb3:=hb2.trans (h3.mono hb2.size)
 replace HD:=Lib.hid (HD.out.below h3)
 replace HX:=Lib.hid ((h3.block _ (lt_of_blk HX.out)).trans HX.out)
 replace HY:=Lib.hid ((h3.block _ (lt_of_blk HY.out)).trans HY.out)
 replace HP:=Lib.hid (HP.out.below h3)
 clear g0 g1 e0 e1
 obtain ⟨g0,g1,_,_⟩:=two_cells HX.out
 obtain ⟨e0,e1,_,_⟩:=two_cells HY.out
 go_wp2_with fail
 refine (HRA.out _ (hw.below hb3)).mono ?_
 rintro e v4 ⟨rfl,h4⟩
 have hb4:=hb3.trans (h4.mono hb3.size)
 replace HD:=Lib.hid (HD.out.below h4)
 replace HX:=Lib.hid ((h4.block _ (lt_of_blk HX.out)).trans HX.out)
 replace HY:=Lib.hid ((h4.block _ (lt_of_blk HY.out)).trans HY.out)
 replace HP:=Lib.hid (HP.out.below h4)
 clear g0 g1 e0 e1
 obtain ⟨g0,g1,_,_⟩:=two_cells HX.out
 obtain ⟨e0,e1,_,_⟩:=two_cells HY.out
 go_wp2_with fail
 refine (HRB.out _ (hw.below hb4)).mono ?_
 rintro e v5 ⟨rfl,h5⟩
 have hb5:=hb4.trans (h5.mono hb4.size)
 replace HD:=Lib.hid (HD.out.below h5)
 replace HX:=Lib.hid ((h5.block _ (lt_of_blk HX.out)).trans HX.out)
 replace HY:=Lib.hid ((h5.block _ (lt_of_blk HY.out)).trans HY.out)
 replace HP:=Lib.hid (HP.out.below h5)
 go_wp2
 go_ret
 exact ⟨rfl,hb5⟩
set_option maxRecDepth 100000 in
set_option maxHeartbeats 4000000 in
theorem chords_z (v:Value) (D:List Plc) (a1 a2 b1 b2:ByteArray) (w:World) (hw:Good w) (hv:Dft w v D) (h8:D.length≤8) (k1:a1.size≤40) (k2:a2.size≤40) (k3:b1.size≤40) (k4:b2.size≤40) (q1:okPr (a1,a2)=true) (q2:okPr (b1,b2)=true) (f1:a1=b1) (f2:a2=b2):Calls Tryz.prog 4 #[v,.agg #[.string a1,.string a2],.agg #[.string b1,.string b2]] w (RV (.bool true) w):=by
 have F1:=Lib.hid f1
 have F2:=Lib.hid f2
 clear f1 f2
 have HKN:=Lib.hid law_known
 have HFT:=Lib.hid (fun w' (h:Dft w' v D)=>law_fits v D w' h)
 unfold RV at HKN
 have HDD:=Lib.hid hv
 have HD:=HDD
 obtain ⟨wA,hwA⟩ : ∃ wA,wA=(w.alloc (Obj.cells #[.string a1,.string a2] 31)).alloc (Obj.cells #[.string b1,.string b2] 31):=⟨_,rfl⟩
 have HWA:=Lib.hid hwA
 obtain ⟨hbA,hx1,hx2⟩:=boxes2 hwA
 have HX:=Lib.hid hx1
 have HY:=Lib.hid hx2
 replace HD:=Lib.hid (HD.out.below hbA)
 clear hwA hx1 hx2 hv
 have HMK:=Lib.hid (fun w' (hg:Good w') (h:Dft w' v D)=>law_make v D w' hg h)
 unfold MadeD at HMK
 rw [decide_eq_true h8] at HFT
 have hsz:a1.size≤4000000∧a2.size≤4000000∧b1.size≤4000000∧b2.size≤4000000:=⟨Nat.le_trans k1 (by decide),Nat.le_trans k2 (by decide),Nat.le_trans k3 (by decide),Nat.le_trans k4 (by decide)⟩
 have HRA:=Lib.hid (fun w' (hg:Good w')=>right_point a1 a2 hsz.1 hsz.2.1 w' hg)
 have HRB:=Lib.hid (fun w' (hg:Good w')=>right_point b1 b2 hsz.2.2.1 hsz.2.2.2 w' hg)
 unfold RV at HRA HRB
 clear h8
 go_enter Tryz.func4,Tryz.ntmps4
 go_upto_region 1 with fail
 rw [←HWA.out]
 go_wp2_with fail
 refine (HKN.out _ (hw.below hbA)).mono ?_
 rintro e v1 ⟨rfl,h1⟩
 have hb1:=hbA.trans (h1.mono hbA.size)
 replace HD:=Lib.hid (HD.out.below h1)
 replace HX:=Lib.hid ((h1.block _ (lt_of_blk HX.out)).trans HX.out)
 replace HY:=Lib.hid ((h1.block _ (lt_of_blk HY.out)).trans HY.out)
 go_wp2_with fail
 refine (HFT.out _ HD.out).mono ?_
 rintro e v0 ⟨rfl,rfl⟩
 obtain ⟨g0,g1,_,_⟩:=two_cells HX.out
 obtain ⟨e0,e1,_,_⟩:=two_cells HY.out
 go_wp2_with fail
 refine (HMK.out _ (hw.below hb1) HD.out).mono ?_
 rintro e v2 ⟨r,P,rfl,hDr,hPt,h2⟩
 have hb2:=hb1.trans (h2.mono hb1.size)
 replace HD:=Lib.hid (HD.out.below h2)
 replace HX:=Lib.hid ((h2.block _ (lt_of_blk HX.out)).trans HX.out)
 replace HY:=Lib.hid ((h2.block _ (lt_of_blk HY.out)).trans HY.out)
 obtain ⟨pp,cc,rfl,hcc1,hcc2⟩:=hPt.slice
 have HP:=Lib.hid hPt
 have HDR:=Lib.hid hDr
 have hP8:=hDr.le8
 have hP3:=hDr.poly.1.1
 clear hPt hDr g0 g1 e0 e1
 have HCH:=Lib.hid (fun w' (hg:Good w') hp=>pg_chord_z (.slice pp P.length cc) P a1 a2 b1 b2 HDR.out.poly (by omega) HDR.out.ok hsz q1 q2 F1.out F2.out w' hg hp)
 unfold RV at HCH
 rw [q1] at HRA
 rw [q2] at HRB
 have heq:∀ wx:World,(binOp .eql 31 (.agg #[.string a1,.string a2]) (.agg #[.string b1,.string b2])).run Tryz.prog wx=.ok (.bool true) wx:=fun wx=>by
  obtain ⟨q,z1,z2,_,_⟩:=okPr_pt q1
  rw [←F1.out,←F2.out,z1,z2,eqlPts,decide_eq_true rfl]
 have hgd:=fun (x y:Operand) (xs ys:Array Value) (wx:World)=>guardPts .eql x y xs ys wx
 clear F1 F2
 clear q1 q2 k1 k2 k3 k4 hsz
 obtain ⟨g0,g1,_,_⟩:=two_cells HX.out
 obtain ⟨e0,e1,_,_⟩:=two_cells HY.out
 go_wp2_with fail
 refine (HCH.out _ (hw.below hb2) HP.out).mono ?_
 rintro e v3 ⟨rfl,h3⟩
 have hb3:=hb2.trans (h3.mono hb2.size)
 replace HD:=Lib.hid (HD.out.below h3)
 replace HX:=Lib.hid ((h3.block _ (lt_of_blk HX.out)).trans HX.out)
 replace HY:=Lib.hid ((h3.block _ (lt_of_blk HY.out)).trans HY.out)
 replace HP:=Lib.hid (HP.out.below h3)
 clear g0 g1 e0 e1
 obtain ⟨g0,g1,_,_⟩:=two_cells HX.out
 obtain ⟨e0,e1,_,_⟩:=two_cells HY.out
 go_wp2_with fail
 refine (HRA.out _ (hw.below hb3)).mono ?_
 rintro e v4 ⟨rfl,h4⟩
 have hb4:=hb3.trans (h4.mono hb3.size)
 replace HD:=Lib.hid (HD.out.below h4)
 replace HX:=Lib.hid ((h4.block _ (lt_of_blk HX.out)).trans HX.out)
 replace HY:=Lib.hid ((h4.block _ (lt_of_blk HY.out)).trans HY.out)
 replace HP:=Lib.hid (HP.out.below h4)
 clear g0 g1 e0 e1
 obtain ⟨g0,g1,_,_⟩:=two_cells HX.out
 obtain ⟨e0,e1,_,_⟩:=two_cells HY.out
 go_wp2_with fail
 refine (HRB.out _ (hw.below hb4)).mono ?_
 rintro e v5 ⟨rfl,h5⟩
 have hb5:=hb4.trans (h5.mono hb4.size)
 replace HD:=Lib.hid (HD.out.below h5)
 replace HX:=Lib.hid ((h5.block _ (lt_of_blk HX.out)).trans HX.out)
 replace HY:=Lib.hid ((h5.block _ (lt_of_blk HY.out)).trans HY.out)
 replace HP:=Lib.hid (HP.out.below h5)
 clear g0 g1 e0 e1
 obtain ⟨g0,g1,_,_⟩:=two_cells HX.out
 obtain ⟨e0,e1,_,_⟩:=two_cells HY.out
 go_wp2
 go_ret
 exact ⟨rfl,hb5⟩
theorem chordOut_yes {P:List QP} {q r:QP} {w w':World} {e:Ending} (hc:ChIn P q r P.length∧loP P q r P.length<hiP P q r P.length) (h:∃ x,e=.returned x∧ChordOut P q r x∧Below w.heap.size w w'):RV (.tuple #[.string (tx (loP P q r P.length)),.string (tx (hiP P q r P.length)),.bool true,.int .i64 0]) w e w':=by
 obtain ⟨x,rfl,h1,h2⟩:=h
 rcases h1 with ⟨_,_,rfl⟩ | ⟨hn,_⟩
 ·exact ⟨rfl,h2⟩
 ·exact absurd hc hn
theorem chordOut_no {P:List QP} {q r:QP} {w w':World} {e:Ending} (hc:¬ (ChIn P q r P.length∧loP P q r P.length<hiP P q r P.length)) (h:∃ x,e=.returned x∧ChordOut P q r x∧Below w.heap.size w w'):RV (.tuple #[.string ⟨#[]⟩,.string ⟨#[]⟩,.bool false,.int .i64 0]) w e w':=by
 obtain ⟨x,rfl,h1,h2⟩:=h
 rcases h1 with ⟨a,b,_⟩ | ⟨_,rfl⟩
 ·exact absurd ⟨a,b⟩ hc
 ·exact ⟨rfl,h2⟩
theorem rchord_yes {P:List QP} {q r:QP} {w w':World} {e:Ending} (hc:ChIn P q r P.length∧loP P q r P.length<hiP P q r P.length) (h:RChPost P q r w e w'):RV (.tuple #[.string (tx (loP P q r P.length)),.string (tx (hiP P q r P.length)),.bool true]) w e w':=by
 obtain ⟨x,rfl,h1,h2⟩:=h
 rcases h1 with ⟨_,_,rfl⟩ | ⟨hn,_⟩
 ·exact ⟨rfl,h2⟩
 ·exact absurd hc hn
theorem rchord_no {P:List QP} {q r:QP} {w w':World} {e:Ending} (hc:¬ (ChIn P q r P.length∧loP P q r P.length<hiP P q r P.length)) (h:RChPost P q r w e w'):RV (.tuple #[.string ⟨#[]⟩,.string ⟨#[]⟩,.bool false]) w e w':=by
 obtain ⟨x,rfl,h1,h2⟩:=h
 rcases h1 with ⟨a,b,_⟩ | ⟨_,rfl⟩
 ·exact absurd ⟨a,b⟩ hc
 ·exact ⟨rfl,h2⟩
set_option maxRecDepth 100000 in
set_option maxHeartbeats 4000000 in
theorem chords_right (v:Value) (D:List Plc) (a1 a2 b1 b2:ByteArray) (w:World) (hw:Good w) (hv:Dft w v D) (h8:D.length≤8) (k1:a1.size≤40) (k2:a2.size≤40) (k3:b1.size≤40) (k4:b2.size≤40) (q1:okPr (a1,a2)=true) (q2:okPr (b1,b2)=true) (hno:¬ (a1=b1∧a2=b2)):Calls Tryz.prog 4 #[v,.agg #[.string a1,.string a2],.agg #[.string b1,.string b2]] w (RV (.bool true) w):=by
 have HKN:=Lib.hid law_known
 have HFT:=Lib.hid (fun w' (h:Dft w' v D)=>law_fits v D w' h)
 unfold RV at HKN
 have HDD:=Lib.hid hv
 have HD:=HDD
 obtain ⟨wA,hwA⟩ : ∃ wA,wA=(w.alloc (Obj.cells #[.string a1,.string a2] 31)).alloc (Obj.cells #[.string b1,.string b2] 31):=⟨_,rfl⟩
 have HWA:=Lib.hid hwA
 obtain ⟨hbA,hx1,hx2⟩:=boxes2 hwA
 have HX:=Lib.hid hx1
 have HY:=Lib.hid hx2
 replace HD:=Lib.hid (HD.out.below hbA)
 clear hwA hx1 hx2 hv
 have HMK:=Lib.hid (fun w' (hg:Good w') (h:Dft w' v D)=>law_make v D w' hg h)
 unfold MadeD at HMK
 rw [decide_eq_true h8] at HFT
 have hsz:a1.size≤4000000∧a2.size≤4000000∧b1.size≤4000000∧b2.size≤4000000:=⟨Nat.le_trans k1 (by decide),Nat.le_trans k2 (by decide),Nat.le_trans k3 (by decide),Nat.le_trans k4 (by decide)⟩
 have HRA:=Lib.hid (fun w' (hg:Good w')=>right_point a1 a2 hsz.1 hsz.2.1 w' hg)
 have HRB:=Lib.hid (fun w' (hg:Good w')=>right_point b1 b2 hsz.2.2.1 hsz.2.2.2 w' hg)
 unfold RV at HRA HRB
 clear h8
 go_enter Tryz.func4,Tryz.ntmps4
 go_upto_region 1 with fail
 rw [←HWA.out]
 go_wp2_with fail
 refine (HKN.out _ (hw.below hbA)).mono ?_
 rintro e v1 ⟨rfl,h1⟩
 have hb1:=hbA.trans (h1.mono hbA.size)
 replace HD:=Lib.hid (HD.out.below h1)
 replace HX:=Lib.hid ((h1.block _ (lt_of_blk HX.out)).trans HX.out)
 replace HY:=Lib.hid ((h1.block _ (lt_of_blk HY.out)).trans HY.out)
 go_wp2_with fail
 refine (HFT.out _ HD.out).mono ?_
 rintro e v0 ⟨rfl,rfl⟩
 obtain ⟨g0,g1,_,_⟩:=two_cells HX.out
 obtain ⟨e0,e1,_,_⟩:=two_cells HY.out
 go_wp2_with fail
 refine (HMK.out _ (hw.below hb1) HD.out).mono ?_
 rintro e v2 ⟨r,P,rfl,hDr,hPt,h2⟩
 have hb2:=hb1.trans (h2.mono hb1.size)
 replace HD:=Lib.hid (HD.out.below h2)
 replace HX:=Lib.hid ((h2.block _ (lt_of_blk HX.out)).trans HX.out)
 replace HY:=Lib.hid ((h2.block _ (lt_of_blk HY.out)).trans HY.out)
 obtain ⟨pp,cc,rfl,hcc1,hcc2⟩:=hPt.slice
 have HP:=Lib.hid hPt
 have HDR:=Lib.hid hDr
 have hP8:=hDr.le8
 have hP3:=hDr.poly.1.1
 clear hPt hDr g0 g1 e0 e1
 obtain ⟨q,rfl,rfl,hq1,hq2⟩:=okPr_pt q1
 obtain ⟨r,rfl,rfl,hr1,hr2⟩:=okPr_pt q2
 rw [q1] at HRA
 rw [q2] at HRB
 have hne:q≠r:=fun e=>hno ⟨by rw [e],by rw [e]⟩
 have heq:∀ wx:World,(binOp .eql 31 (.agg #[.string (tx q.1),.string (tx q.2)]) (.agg #[.string (tx r.1),.string (tx r.2)])).run Tryz.prog wx=.ok (.bool false) wx:=fun wx=>by
  rw [eqlPts,decide_eq_false hne]
 have hgd:=fun (x y:Operand) (xs ys:Array Value) (wx:World)=>guardPts .eql x y xs ys wx
 by_cases hcc:ChIn P q r P.length∧loP P q r P.length<hiP P q r P.length
 ·have HCH:=Lib.hid (fun w' (hg:Good w') hp=>(pg_Chord (.slice pp P.length cc) P q r HDR.out.poly (by omega) HDR.out.ok ⟨hq1,hq2⟩ ⟨hr1,hr2⟩ hne
   (fun _=>⟨HDR.out.lo (.of_size k1) (.of_size k2) (.of_size k3) (.of_size k4) _ (Nat.le_refl _),HDR.out.hi (.of_size k1) (.of_size k2) (.of_size k3) (.of_size k4) _ (Nat.le_refl _)⟩) w' hg hp).mono fun e w'' h=>chordOut_yes hcc h)
  have HRC:=Lib.hid (fun w' (hg:Good w') hp=>(r9_chord (.slice pp P.length cc) P q r hP3 (by omega) (fun p hp=>okP_sz (HDR.out.ok p hp)) ⟨hq1.sz,hq2.sz⟩ ⟨hr1.sz,hr2.sz⟩ w' hg hp).mono fun e w'' h=>rchord_yes hcc h)
  unfold ptV at HCH HRC
  unfold RV at HCH HRC
  clear hq1 hq2 hr1 hr2 hne q1 q2 k1 k2 k3 k4 hsz
  generalize tx q.1=s1 at *
  generalize tx q.2=s2 at *
  generalize tx r.1=t1 at *
  generalize tx r.2=t2 at *
  generalize tx (loP P q r P.length)=lo at *
  generalize tx (hiP P q r P.length)=hi at *
  obtain ⟨g0,g1,_,_⟩:=two_cells HX.out
  obtain ⟨e0,e1,_,_⟩:=two_cells HY.out
  go_wp2_with fail
  refine (HCH.out _ (hw.below hb2) HP.out).mono ?_
  rintro e v3 ⟨rfl,h3⟩
  have hb3:=hb2.trans (h3.mono hb2.size)
  replace HD:=Lib.hid (HD.out.below h3)
  replace HX:=Lib.hid ((h3.block _ (lt_of_blk HX.out)).trans HX.out)
  replace HY:=Lib.hid ((h3.block _ (lt_of_blk HY.out)).trans HY.out)
  replace HP:=Lib.hid (HP.out.below h3)
  clear g0 g1 e0 e1
  obtain ⟨g0,g1,_,_⟩:=two_cells HX.out
  obtain ⟨e0,e1,_,_⟩:=two_cells HY.out
  go_wp2_with fail
  refine (HRA.out _ (hw.below hb3)).mono ?_
  rintro e v4 ⟨rfl,h4⟩
  have hb4:=hb3.trans (h4.mono hb3.size)
  replace HD:=Lib.hid (HD.out.below h4)
  replace HX:=Lib.hid ((h4.block _ (lt_of_blk HX.out)).trans HX.out)
  replace HY:=Lib.hid ((h4.block _ (lt_of_blk HY.out)).trans HY.out)
  replace HP:=Lib.hid (HP.out.below h4)
  clear g0 g1 e0 e1
  obtain ⟨g0,g1,_,_⟩:=two_cells HX.out
  obtain ⟨e0,e1,_,_⟩:=two_cells HY.out
  go_wp2_with fail
  refine (HRB.out _ (hw.below hb4)).mono ?_
  rintro e v5 ⟨rfl,h5⟩
  have hb5:=hb4.trans (h5.mono hb4.size)
  replace HD:=Lib.hid (HD.out.below h5)
  replace HX:=Lib.hid ((h5.block _ (lt_of_blk HX.out)).trans HX.out)
  replace HY:=Lib.hid ((h5.block _ (lt_of_blk HY.out)).trans HY.out)
  replace HP:=Lib.hid (HP.out.below h5)
  clear g0 g1 e0 e1
  obtain ⟨g0,g1,_,_⟩:=two_cells HX.out
  obtain ⟨e0,e1,_,_⟩:=two_cells HY.out
  go_wp2_with fail
  refine (HRC.out _ (hw.below hb5) HP.out).mono ?_
  rintro e v6 ⟨rfl,h6⟩
  have hb6:=hb5.trans (h6.mono hb5.size)
  replace HD:=Lib.hid (HD.out.below h6)
  replace HX:=Lib.hid ((h6.block _ (lt_of_blk HX.out)).trans HX.out)
  replace HY:=Lib.hid ((h6.block _ (lt_of_blk HY.out)).trans HY.out)
  replace HP:=Lib.hid (HP.out.below h6)
  go_wp2
  go_ret
  exact ⟨rfl,hb6⟩
 ·have HCH:=Lib.hid (fun w' (hg:Good w') hp=>(pg_Chord (.slice pp P.length cc) P q r HDR.out.poly (by omega) HDR.out.ok ⟨hq1,hq2⟩ ⟨hr1,hr2⟩ hne
   (fun _=>⟨HDR.out.lo (.of_size k1) (.of_size k2) (.of_size k3) (.of_size k4) _ (Nat.le_refl _),HDR.out.hi (.of_size k1) (.of_size k2) (.of_size k3) (.of_size k4) _ (Nat.le_refl _)⟩) w' hg hp).mono fun e w'' h=>chordOut_no hcc h)
  have HRC:=Lib.hid (fun w' (hg:Good w') hp=>(r9_chord (.slice pp P.length cc) P q r hP3 (by omega) (fun p hp=>okP_sz (HDR.out.ok p hp)) ⟨hq1.sz,hq2.sz⟩ ⟨hr1.sz,hr2.sz⟩ w' hg hp).mono fun e w'' h=>rchord_no hcc h)
  unfold ptV at HCH HRC
  unfold RV at HCH HRC
  clear hq1 hq2 hr1 hr2 hne q1 q2 k1 k2 k3 k4 hsz
  generalize tx q.1=s1 at *
  generalize tx q.2=s2 at *
  generalize tx r.1=t1 at *
  generalize tx r.2=t2 at *
  obtain ⟨g0,g1,_,_⟩:=two_cells HX.out
  obtain ⟨e0,e1,_,_⟩:=two_cells HY.out
  go_wp2_with fail
  refine (HCH.out _ (hw.below hb2) HP.out).mono ?_
  rintro e v3 ⟨rfl,h3⟩
  have hb3:=hb2.trans (h3.mono hb2.size)
  replace HD:=Lib.hid (HD.out.below h3)
  replace HX:=Lib.hid ((h3.block _ (lt_of_blk HX.out)).trans HX.out)
  replace HY:=Lib.hid ((h3.block _ (lt_of_blk HY.out)).trans HY.out)
  replace HP:=Lib.hid (HP.out.below h3)
  clear g0 g1 e0 e1
  obtain ⟨g0,g1,_,_⟩:=two_cells HX.out
  obtain ⟨e0,e1,_,_⟩:=two_cells HY.out
  go_wp2_with fail
  refine (HRA.out _ (hw.below hb3)).mono ?_
  rintro e v4 ⟨rfl,h4⟩
  have hb4:=hb3.trans (h4.mono hb3.size)
  replace HD:=Lib.hid (HD.out.below h4)
  replace HX:=Lib.hid ((h4.block _ (lt_of_blk HX.out)).trans HX.out)
  replace HY:=Lib.hid ((h4.block _ (lt_of_blk HY.out)).trans HY.out)
  replace HP:=Lib.hid (HP.out.below h4)
  clear g0 g1 e0 e1
  obtain ⟨g0,g1,_,_⟩:=two_cells HX.out
  obtain ⟨e0,e1,_,_⟩:=two_cells HY.out
  go_wp2_with fail
  refine (HRB.out _ (hw.below hb4)).mono ?_
  rintro e v5 ⟨rfl,h5⟩
  have hb5:=hb4.trans (h5.mono hb4.size)
  replace HD:=Lib.hid (HD.out.below h5)
  replace HX:=Lib.hid ((h5.block _ (lt_of_blk HX.out)).trans HX.out)
  replace HY:=Lib.hid ((h5.block _ (lt_of_blk HY.out)).trans HY.out)
  replace HP:=Lib.hid (HP.out.below h5)
  clear g0 g1 e0 e1
  obtain ⟨g0,g1,_,_⟩:=two_cells HX.out
  obtain ⟨e0,e1,_,_⟩:=two_cells HY.out
  go_wp2_with fail
  refine (HRC.out _ (hw.below hb5) HP.out).mono ?_
  rintro e v6 ⟨rfl,h6⟩
  have hb6:=hb5.trans (h6.mono hb5.size)
  replace HD:=Lib.hid (HD.out.below h6)
  replace HX:=Lib.hid ((h6.block _ (lt_of_blk HX.out)).trans HX.out)
  replace HY:=Lib.hid ((h6.block _ (lt_of_blk HY.out)).trans HY.out)
  replace HP:=Lib.hid (HP.out.below h6)
  go_wp2
  go_ret
  exact ⟨rfl,hb6⟩
theorem law_PolygonChords (v:Value) (D:List Plc) (a1 a2 b1 b2:ByteArray) (w:World) (hw:Good w) (hv:Dft w v D):Calls Tryz.prog 4 #[v,.agg #[.string a1,.string a2],.agg #[.string b1,.string b2]] w (RV (.bool true) w):=by
 by_cases h8:D.length≤8
 ·by_cases k1:a1.size≤40
  ·by_cases k2:a2.size≤40
   ·by_cases k3:b1.size≤40
    ·by_cases k4:b2.size≤40
     ·rcases Bool.eq_false_or_eq_true (okPr (a1,a2)) with h1 | h1
      ·rcases Bool.eq_false_or_eq_true (okPr (b1,b2)) with h2 | h2
       ·by_cases e:a1=b1∧a2=b2
        ·exact chords_z v D a1 a2 b1 b2 w hw hv h8 k1 k2 k3 k4 h1 h2 e.1 e.2
        ·exact chords_right v D a1 a2 b1 b2 w hw hv h8 k1 k2 k3 k4 h1 h2 e
       ·exact chords_b v D a1 a2 b1 b2 w hw hv h8 k1 k2 k3 k4 h1 h2
      ·exact chords_a v D a1 a2 b1 b2 w hw hv h8 k1 k2 k3 k4 h1
     ·exact chords_out4 v D a1 a2 b1 b2 w hw hv h8 k1 k2 k3 k4
    ·exact chords_out3 v D a1 a2 b1 b2 w hw hv h8 k1 k2 k3
   ·exact chords_out2 v D a1 a2 b1 b2 w hw hv h8 k1 k2
  ·exact chords_out1 v D a1 a2 b1 b2 w hw hv h8 k1
 ·exact chords_out0 v D a1 a2 b1 b2 w hw hv h8
end Go.Proofs.YtgohnjdgoglcfaaGreatDoor
