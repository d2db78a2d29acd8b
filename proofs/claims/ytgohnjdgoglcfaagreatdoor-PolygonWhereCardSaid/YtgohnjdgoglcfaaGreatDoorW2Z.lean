import Derived.Test.YtgohnjdgoglcfaaGreatDoorV6Z
namespace Go.Proofs.YtgohnjdgoglcfaaGreatDoor
open Go.RowKit Go.Shelf
open Go.Lib (decDigits itoa nDigits)
theorem box_pair {w wA:World} {cs cs':Array Value} {t t':TypeId} (hwA:wA=(w.alloc (Obj.cells cs t)).alloc (Obj.cells cs' t')):Below w.heap.size w wA∧wA.heap[w.heap.size]?=some (.cells cs t (0,0))∧wA.heap[w.heap.size+1]?=some (.cells cs' t' (0,0)):=by
 obtain ⟨w1,hw1⟩ : ∃ w1,w1=w.alloc (Obj.cells cs t):=⟨_,rfl⟩
 obtain ⟨b1,x1⟩:=box_any hw1
 rw [←hw1] at hwA
 obtain ⟨b2,x2⟩:=box_any hwA
 have s1:w1.heap.size=w.heap.size+1:=by rw [hw1];simp
 rw [s1] at x2
 exact ⟨b1.trans (b2.mono (by omega)),(b2.block _ (lt_of_blk x1)).trans x1,x2⟩
theorem side01 {s:Rat} (h:ins 0 1 s):0≤s∧s≤1:=by
 unfold ins at h
 constructor
 ·apply Rat.not_lt.1
  intro hs
  have:=Rat.mul_pos (show 0 < -s by grind) (show 0<1-s by grind)
  grind
 ·apply Rat.not_lt.1
  intro hs
  have:=Rat.mul_pos (show 0<s by grind) (show 0<s-1 by grind)
  grind
set_option maxRecDepth 100000 in
set_option maxHeartbeats 4000000 in
theorem where_out1 (v:Value) (D:List Plc) (a b:ByteArray) (n d:Int) (w:World) (hw:Good w) (hv:Dft w v D) (h8:¬ D.length≤8):Calls Tryz.prog 6 #[v,.agg #[.string a,.string b],SmV n d] w (RV (.bool true) w):=by
 have HKN:=Lib.hid law_known
 have HFT:=Lib.hid (fun w' (h:Dft w' v D)=>law_fits v D w' h)
 unfold RV at HKN
 have HDD:=Lib.hid hv
 have HD:=HDD
 unfold SmV
 obtain ⟨wA,hwA⟩ : ∃ wA,wA=(w.alloc (Obj.cells #[.string a,.string b] 31)).alloc (Obj.cells #[.int .i16 n,.int .u8 d] 55):=⟨_,rfl⟩
 have HWA:=Lib.hid hwA
 obtain ⟨hbA,hx1,hx2⟩:=box_pair hwA
 have HX:=Lib.hid hx1
 have HY:=Lib.hid hx2
 replace HD:=Lib.hid (HD.out.below hbA)
 clear hwA hx1 hx2 hv
 rw [decide_eq_false h8] at HFT
 clear h8
 go_enter Tryz.func6,Tryz.ntmps6
 go_upto_region 1 with fail
 rw [←HWA.out]
 go_wp2_with fail
 refine (HKN.out _ (hw.below hbA)).mono ?_
 rintro e v1 ⟨rfl,h1⟩
 have hb1:=hbA.trans (h1.mono hbA.size)
 replace HD:=Lib.hid (HD.out.below h1)
 replace HX:=Lib.hid ((h1.block _ (lt_of_blk HX.out)).trans HX.out)
 replace HY:=Lib.hid ((h1.block _ (lt_of_blk HY.out)).trans HY.out)
 go_wp2_with fail
 refine (HFT.out _ HD.out).mono ?_
 rintro e v0 ⟨rfl,rfl⟩
 go_wp2_with fail
 refine (HKN.out _ (hw.below hb1)).mono ?_
 rintro e v2 ⟨rfl,h2⟩
 have hb2:=hb1.trans (h2.mono hb1.size)
 replace HD:=Lib.hid (HD.out.below h2)
 replace HX:=Lib.hid ((h2.block _ (lt_of_blk HX.out)).trans HX.out)
 replace HY:=Lib.hid ((h2.block _ (lt_of_blk HY.out)).trans HY.out)
 go_wp2
 go_ret
 exact ⟨rfl,hb2⟩
set_option maxRecDepth 100000 in
set_option maxHeartbeats 4000000 in
theorem where_out2 (v:Value) (D:List Plc) (a b:ByteArray) (n d:Int) (w:World) (hw:Good w) (hv:Dft w v D) (h8:D.length≤8) (ha:¬ a.size≤40):Calls Tryz.prog 6 #[v,.agg #[.string a,.string b],SmV n d] w (RV (.bool true) w):=by
 have HKN:=Lib.hid law_known
 have HFT:=Lib.hid (fun w' (h:Dft w' v D)=>law_fits v D w' h)
 unfold RV at HKN
 have HDD:=Lib.hid hv
 have HD:=HDD
 unfold SmV
 obtain ⟨wA,hwA⟩ : ∃ wA,wA=(w.alloc (Obj.cells #[.string a,.string b] 31)).alloc (Obj.cells #[.int .i16 n,.int .u8 d] 55):=⟨_,rfl⟩
 have HWA:=Lib.hid hwA
 obtain ⟨hbA,hx1,hx2⟩:=box_pair hwA
 have HX:=Lib.hid hx1
 have HY:=Lib.hid hx2
 replace HD:=Lib.hid (HD.out.below hbA)
 clear hwA hx1 hx2 hv
 rw [decide_eq_true h8] at HFT
 clear h8
 go_enter Tryz.func6,Tryz.ntmps6
 go_upto_region 1 with fail
 rw [←HWA.out]
 go_wp2_with fail
 refine (HKN.out _ (hw.below hbA)).mono ?_
 rintro e v1 ⟨rfl,h1⟩
 have hb1:=hbA.trans (h1.mono hbA.size)
 replace HD:=Lib.hid (HD.out.below h1)
 replace HX:=Lib.hid ((h1.block _ (lt_of_blk HX.out)).trans HX.out)
 replace HY:=Lib.hid ((h1.block _ (lt_of_blk HY.out)).trans HY.out)
 go_wp2_with fail
 refine (HFT.out _ HD.out).mono ?_
 rintro e v0 ⟨rfl,rfl⟩
 obtain ⟨g0,g1,_,_⟩:=two_cells HX.out
 go_wp2_with fail
 refine (HKN.out _ (hw.below hb1)).mono ?_
 rintro e v2 ⟨rfl,h2⟩
 have hb2:=hb1.trans (h2.mono hb1.size)
 replace HD:=Lib.hid (HD.out.below h2)
 replace HX:=Lib.hid ((h2.block _ (lt_of_blk HX.out)).trans HX.out)
 replace HY:=Lib.hid ((h2.block _ (lt_of_blk HY.out)).trans HY.out)
 go_wp2
 go_ret
 exact ⟨rfl,hb2⟩
set_option maxRecDepth 100000 in
set_option maxHeartbeats 4000000 in
theorem where_out3 (v:Value) (D:List Plc) (a b:ByteArray) (n d:Int) (w:World) (hw:Good w) (hv:Dft w v D) (h8:D.length≤8) (ha:a.size≤40) (hb:¬ b.size≤40):Calls Tryz.prog 6 #[v,.agg #[.string a,.string b],SmV n d] w (RV (.bool true) w):=by
 have HKN:=Lib.hid law_known
 have HFT:=Lib.hid (fun w' (h:Dft w' v D)=>law_fits v D w' h)
 unfold RV at HKN
 have HDD:=Lib.hid hv
 have HD:=HDD
 unfold SmV
 obtain ⟨wA,hwA⟩ : ∃ wA,wA=(w.alloc (Obj.cells #[.string a,.string b] 31)).alloc (Obj.cells #[.int .i16 n,.int .u8 d] 55):=⟨_,rfl⟩
 have HWA:=Lib.hid hwA
 obtain ⟨hbA,hx1,hx2⟩:=box_pair hwA
 have HX:=Lib.hid hx1
 have HY:=Lib.hid hx2
 replace HD:=Lib.hid (HD.out.below hbA)
 clear hwA hx1 hx2 hv
 rw [decide_eq_true h8] at HFT
 clear h8
 go_enter Tryz.func6,Tryz.ntmps6
 go_upto_region 1 with fail
 rw [←HWA.out]
 go_wp2_with fail
 refine (HKN.out _ (hw.below hbA)).mono ?_
 rintro e v1 ⟨rfl,h1⟩
 have hb1:=hbA.trans (h1.mono hbA.size)
 replace HD:=Lib.hid (HD.out.below h1)
 replace HX:=Lib.hid ((h1.block _ (lt_of_blk HX.out)).trans HX.out)
 replace HY:=Lib.hid ((h1.block _ (lt_of_blk HY.out)).trans HY.out)
 go_wp2_with fail
 refine (HFT.out _ HD.out).mono ?_
 rintro e v0 ⟨rfl,rfl⟩
 obtain ⟨g0,g1,_,_⟩:=two_cells HX.out
 go_wp2_with fail
 refine (HKN.out _ (hw.below hb1)).mono ?_
 rintro e v2 ⟨rfl,h2⟩
 have hb2:=hb1.trans (h2.mono hb1.size)
 replace HD:=Lib.hid (HD.out.below h2)
 replace HX:=Lib.hid ((h2.block _ (lt_of_blk HX.out)).trans HX.out)
 replace HY:=Lib.hid ((h2.block _ (lt_of_blk HY.out)).trans HY.out)
 go_wp2
 go_ret
 exact ⟨rfl,hb2⟩
set_option maxRecDepth 100000 in
set_option maxHeartbeats 4000000 in
theorem where_wrong (v:Value) (D:List Plc) (a b:ByteArray) (n d:Int) (w:World) (hw:Good w) (hv:Dft w v D) (h8:D.length≤8) (ha:a.size≤40) (hb:b.size≤40) (hno:okPr (a,b)=false):Calls Tryz.prog 6 #[v,.agg #[.string a,.string b],SmV n d] w (RV (.bool true) w):=by
 have HKN:=Lib.hid law_known
 have HFT:=Lib.hid (fun w' (h:Dft w' v D)=>law_fits v D w' h)
 unfold RV at HKN
 have HDD:=Lib.hid hv
 have HD:=HDD
 unfold SmV
 obtain ⟨wA,hwA⟩ : ∃ wA,wA=(w.alloc (Obj.cells #[.string a,.string b] 31)).alloc (Obj.cells #[.int .i16 n,.int .u8 d] 55):=⟨_,rfl⟩
 have HWA:=Lib.hid hwA
 obtain ⟨hbA,hx1,hx2⟩:=box_pair hwA
 have HX:=Lib.hid hx1
 have HY:=Lib.hid hx2
 replace HD:=Lib.hid (HD.out.below hbA)
 clear hwA hx1 hx2 hv
 have HMK:=Lib.hid (fun w' (hg:Good w') (h:Dft w' v D)=>law_make v D w' hg h)
 unfold MadeD at HMK
 rw [decide_eq_true h8] at HFT
 clear h8
 go_enter Tryz.func6,Tryz.ntmps6
 go_upto_region 1 with fail
 rw [←HWA.out]
 go_wp2_with fail
 refine (HKN.out _ (hw.below hbA)).mono ?_
 rintro e v1 ⟨rfl,h1⟩
 have hb1:=hbA.trans (h1.mono hbA.size)
 replace HD:=Lib.hid (HD.out.below h1)
 replace HX:=Lib.hid ((h1.block _ (lt_of_blk HX.out)).trans HX.out)
 replace HY:=Lib.hid ((h1.block _ (lt_of_blk HY.out)).trans HY.out)
 go_wp2_with fail
 refine (HFT.out _ HD.out).mono ?_
 rintro e v0 ⟨rfl,rfl⟩
 obtain ⟨g0,g1,_,_⟩:=two_cells HX.out
 go_wp2_with fail
 refine (HMK.out _ (hw.below hb1) HD.out).mono ?_
 rintro e v2 ⟨r,P,rfl,hDr,hPt,h2⟩
 have hb2:=hb1.trans (h2.mono hb1.size)
 replace HD:=Lib.hid (HD.out.below h2)
 replace HX:=Lib.hid ((h2.block _ (lt_of_blk HX.out)).trans HX.out)
 replace HY:=Lib.hid ((h2.block _ (lt_of_blk HY.out)).trans HY.out)
 obtain ⟨pp,cc,rfl,hcc1,hcc2⟩:=hPt.slice
 have HP:=Lib.hid hPt
 have HDR:=Lib.hid hDr
 have hP8:=hDr.le8
 have hP3:=hDr.poly.1.1
 clear hPt hDr g0 g1
 have HWR:=Lib.hid (fun w' (hg:Good w') hp=>pg_where_wrong (.slice pp P.length cc) P a b HDR.out.poly (by omega) HDR.out.ok (Nat.le_trans ha (by decide)) (Nat.le_trans hb (by decide)) hno w' hg hp)
 have HRP:=Lib.hid (fun w' (hg:Good w')=>right_point a b (Nat.le_trans ha (by decide)) (Nat.le_trans hb (by decide)) w' hg)
 rw [hno] at HRP
 unfold RV at HWR HRP
 obtain ⟨g0,g1,_,_⟩:=two_cells HX.out
 go_wp2_with fail
 refine (HWR.out _ (hw.below hb2) HP.out).mono ?_
 rintro e v3 ⟨rfl,h3⟩
 have hb3:=hb2.trans (h3.mono hb2.size)
 replace HD:=Lib.hid (HD.out.below h3)
 replace HX:=Lib.hid ((h3.block _ (lt_of_blk HX.out)).trans HX.out)
 replace HY:=Lib.hid ((h3.block _ (lt_of_blk HY.out)).trans HY.out)
 replace HP:=Lib.hid (HP.out.below h3)
 clear g0 g1
 obtain ⟨g0,g1,_,_⟩:=two_cells HX.out
 go_wp2_with fail
 refine (HRP.out _ (hw.below hb3)).mono ?_
 rintro e v4 ⟨rfl,h4⟩
 have hb4:=hb3.trans (h4.mono hb3.size)
 replace HD:=Lib.hid (HD.out.below h4)
 replace HX:=Lib.hid ((h4.block _ (lt_of_blk HX.out)).trans HX.out)
 replace HY:=Lib.hid ((h4.block _ (lt_of_blk HY.out)).trans HY.out)
 replace HP:=Lib.hid (HP.out.below h4)
 go_wp2
 go_ret
 exact ⟨rfl,hb4⟩
set_option maxRecDepth 100000 in
set_option maxHeartbeats 4000000 in
theorem where_right_in (v:Value) (D:List Plc) (a b:ByteArray) (n d:Int) (w:World) (hw:Good w) (hv:Dft w v D) (h8:D.length≤8) (ha:a.size≤40) (hb:b.size≤40) (hok:okPr (a,b)=true) (hs:okSm n d) (hins:insB 0 1 (sm n d)=true):Calls Tryz.prog 6 #[v,.agg #[.string a,.string b],SmV n d] w (RV (.bool true) w):=by
 have HKN:=Lib.hid law_known
 have HFT:=Lib.hid (fun w' (h:Dft w' v D)=>law_fits v D w' h)
 unfold RV at HKN
 have HDD:=Lib.hid hv
 have HD:=HDD
 unfold SmV
 obtain ⟨wA,hwA⟩ : ∃ wA,wA=(w.alloc (Obj.cells #[.string a,.string b] 31)).alloc (Obj.cells #[.int .i16 n,.int .u8 d] 55):=⟨_,rfl⟩
 have HWA:=Lib.hid hwA
 obtain ⟨hbA,hx1,hx2⟩:=box_pair hwA
 have HX:=Lib.hid hx1
 have HY:=Lib.hid hx2
 replace HD:=Lib.hid (HD.out.below hbA)
 clear hwA hx1 hx2 hv
 have HMK:=Lib.hid (fun w' (hg:Good w') (h:Dft w' v D)=>law_make v D w' hg h)
 unfold MadeD at HMK
 rw [decide_eq_true h8] at HFT
 clear h8
 go_enter Tryz.func6,Tryz.ntmps6
 go_upto_region 1 with fail
 rw [←HWA.out]
 go_wp2_with fail
 refine (HKN.out _ (hw.below hbA)).mono ?_
 rintro e v1 ⟨rfl,h1⟩
 have hb1:=hbA.trans (h1.mono hbA.size)
 replace HD:=Lib.hid (HD.out.below h1)
 replace HX:=Lib.hid ((h1.block _ (lt_of_blk HX.out)).trans HX.out)
 replace HY:=Lib.hid ((h1.block _ (lt_of_blk HY.out)).trans HY.out)
 go_wp2_with fail
 refine (HFT.out _ HD.out).mono ?_
 rintro e v0 ⟨rfl,rfl⟩
 obtain ⟨g0,g1,_,_⟩:=two_cells HX.out
 go_wp2_with fail
 refine (HMK.out _ (hw.below hb1) HD.out).mono ?_
 rintro e v2 ⟨r,P,rfl,hDr,hPt,h2⟩
 have hb2:=hb1.trans (h2.mono hb1.size)
 replace HD:=Lib.hid (HD.out.below h2)
 replace HX:=Lib.hid ((h2.block _ (lt_of_blk HX.out)).trans HX.out)
 replace HY:=Lib.hid ((h2.block _ (lt_of_blk HY.out)).trans HY.out)
 obtain ⟨pp,cc,rfl,hcc1,hcc2⟩:=hPt.slice
 have HP:=Lib.hid hPt
 have HDR:=Lib.hid hDr
 have hP8:=hDr.le8
 have hP3:=hDr.poly.1.1
 clear hPt hDr g0 g1
 obtain ⟨q,rfl,rfl,hq1,hq2⟩:=okPr_pt hok
 have HWH:=Lib.hid (fun w' (hg:Good w') hp=>pg_where (.slice pp P.length cc) P q HDR.out.poly (by omega) HDR.out.ok ⟨hq1,hq2⟩ w' hg hp)
 have HRP:=Lib.hid (fun w' (hg:Good w')=>right_point (tx q.1) (tx q.2) (Nat.le_trans ha (by decide)) (Nat.le_trans hb (by decide)) w' hg)
 rw [hok] at HRP
 have hsm:=sm_small hs
 have HSM:=Lib.hid (fun w' (hg:Good w')=>law02_make n d hs w' hg)
 have hSs:Sz 402 (sm n d):=(ok_nat hsm (by decide) (by decide)).sz
 have hc0:Sz2 402 (pt P 0):=okP_sz (HDR.out.ok _ (pt_mem (by omega)))
 have hc1:Sz2 402 (pt P 1):=okP_sz (HDR.out.ok _ (pt_mem (by omega)))
 have HTW:=Lib.hid (fun w' (hg:Good w')=>r5_toward (pt P 0) (pt P 1) (sm n d) (hc0.mono (by decide)) (hc1.mono (by decide)) (hSs.mono (by decide)) w' hg)
 have HWT:=Lib.hid (fun w' (hg:Good w') hp=>pg_where (.slice pp P.length cc) P (towP (pt P 0) (pt P 1) (sm n d)) HDR.out.poly (by omega) HDR.out.ok (tow_ok HDR.out hsm) w' hg hp)
 have HIN:=Lib.hid (fun w' (hg:Good w')=>r5_inside 0 1 (sm n d) (Nat.le_trans (show (tx 0).size≤1 by decide +kernel) (by decide)) (Nat.le_trans (show (tx 1).size≤1 by decide +kernel) (by decide)) (hSs.mono (by decide)) w' hg)
 have HRW:=Lib.hid (fun w' (hg:Good w') hp=>r9_where (.slice pp P.length cc) P q hP3 (by omega) (fun p hp=>(okP_sz (HDR.out.ok p hp)).mono (by decide)) (⟨hq1.sz.mono (by decide),hq2.sz.mono (by decide)⟩) w' hg hp)
 rw [tx0,tx1] at HIN
 unfold RV ptV at HWH HTW HWT HRW
 unfold RV at HRP HSM HIN
 unfold SmV at HSM
 rw [hins] at HIN
 have h01:=insB_iff.1 hins
 have hw0:=where_side HDR.out.poly (s:=sm n d) (side01 h01).1 (side01 h01).2
 rw [hw0] at HWT
 clear h01 hw0 hins
 clear hq1 hq2 hs hsm hSs hc0 hc1 hok ha hb
 obtain ⟨B,off,hBo,_,_⟩:=Pts.cells HP.out (by omega)
 subst hBo
 have hbl:=(Pts.cells HP.out (by omega)).choose_spec
 clear hbl
 generalize tx q.1=s1 at *
 generalize tx q.2=s2 at *
 generalize whereP P q=wh at *
 generalize tx (sm n d)=sh at *
 generalize tx (towP (pt P 0) (pt P 1) (sm n d)).1=t1 at *
 generalize tx (towP (pt P 0) (pt P 1) (sm n d)).2=t2 at *
 obtain ⟨g0,g1,_,_⟩:=two_cells HX.out
 go_wp2_with fail
 refine (HWH.out _ (hw.below hb2) HP.out).mono ?_
 rintro e v3 ⟨rfl,h3⟩
 have hb3:=hb2.trans (h3.mono hb2.size)
 replace HD:=Lib.hid (HD.out.below h3)
 replace HX:=Lib.hid ((h3.block _ (lt_of_blk HX.out)).trans HX.out)
 replace HY:=Lib.hid ((h3.block _ (lt_of_blk HY.out)).trans HY.out)
 replace HP:=Lib.hid (HP.out.below h3)
 clear g0 g1
 obtain ⟨g0,g1,_,_⟩:=two_cells HX.out
 go_wp2_with fail
 refine (HRP.out _ (hw.below hb3)).mono ?_
 rintro e v4 ⟨rfl,h4⟩
 have hb4:=hb3.trans (h4.mono hb3.size)
 replace HD:=Lib.hid (HD.out.below h4)
 replace HX:=Lib.hid ((h4.block _ (lt_of_blk HX.out)).trans HX.out)
 replace HY:=Lib.hid ((h4.block _ (lt_of_blk HY.out)).trans HY.out)
 replace HP:=Lib.hid (HP.out.below h4)
 clear g0 g1
 obtain ⟨y0,y1,_,_⟩:=two_cells HY.out
 go_wp2_with fail
 refine (HSM.out _ (hw.below hb4)).mono ?_
 rintro e v5 ⟨rfl,h5⟩
 have hb5:=hb4.trans (h5.mono hb4.size)
 replace HD:=Lib.hid (HD.out.below h5)
 replace HX:=Lib.hid ((h5.block _ (lt_of_blk HX.out)).trans HX.out)
 replace HY:=Lib.hid ((h5.block _ (lt_of_blk HY.out)).trans HY.out)
 replace HP:=Lib.hid (HP.out.below h5)
 clear y0 y1
 obtain ⟨B2,off2,hB2,hbl,hcell⟩:=Pts.cells HP.out (by omega)
 cases hB2
 obtain ⟨c0,c1⟩:=hcell 0 (by omega)
 obtain ⟨d0,d1⟩:=hcell 1 (by omega)
 simp only [Nat.zero_mul,Nat.add_zero,Nat.one_mul] at c0 c1 d0 d1
 have i0:(0:Int)<(P.length:Int):=by omega
 have i1:(1:Int)<(P.length:Int):=by omega
 have i0n:0<P.length:=by omega
 have i1n:1<P.length:=by omega
 clear hcell
 generalize tx (pt P 0).1=p1 at *
 generalize tx (pt P 0).2=p2 at *
 generalize tx (pt P 1).1=q1 at *
 generalize tx (pt P 1).2=q2 at *
 go_wp2_with fail
 refine wp_held_ph (fun W'=>Below v5.heap.size v5 W') [(true,0),(true,1),(true,2),(true,3),(true,4),(true,5),(true,6),(true,7),(false,8),(false,9),(true,10),(true,11),(true,12),(true,13)] 14 (by kernel_rfl) (by kernel_rfl) ⟨rfl,rfl,rfl,Nat.le_refl _,fun _ _=>rfl⟩ ?_
 have hK0:Below v5.heap.size v5 v5.drew:=⟨rfl,rfl,rfl,Nat.le_refl _,fun _ _=>rfl⟩
 iterate 8
  refine wpPh_take rfl ?_ rfl ?_ ?_
  rotate_left
  ·intro W' hS'
   have s0:=(hS'.cell (p:=⟨B,off,none⟩) hbl).trans c0
   have s1:=(hS'.cell (p:=⟨B,off+1,none⟩) hbl).trans c1
   have s2:=(hS'.cell (p:=⟨B,off+2,none⟩) hbl).trans d0
   have s3:=(hS'.cell (p:=⟨B,off+2+1,none⟩) hbl).trans d1
   go_simp
   try with_reducible rfl
  try simp only [zA,zB,zC,Act.put,zD,zE,zF]
 refine wpPh_keep rfl rfl (fun K hK=>?_)
 go_simp
 refine (HTW.out _ (hw.below (hb5.trans (hK0.mono hb5.size)))).mono ?_
 rintro e u1 ⟨rfl,hbu1⟩
 have hK1:=hK0.trans (hbu1.mono hK0.size)
 refine hK _ _ ⟨hK1,?_⟩
 clear hK K
 try simp only [zA,zB,zC,Act.put,zD,zE,zF]
 refine wpPh_keep rfl rfl (fun K hK=>?_)
 go_simp
 refine (HWT.out _ (hw.below (hb5.trans (hK1.mono hb5.size))) (HP.out.below hK1)).mono ?_
 rintro e u2 ⟨rfl,hbu2⟩
 have hK2:=hK1.trans (hbu2.mono hK1.size)
 refine hK _ _ ⟨hK2,?_⟩
 clear hK K
 try simp only [zA,zB,zC,Act.put,zD,zE,zF]
 iterate 4
  refine wpPh_take rfl ?_ rfl ?_ ?_
  rotate_left
  ·intro W' hS'
   have s0:=(hS'.cell (p:=⟨B,off,none⟩) hbl).trans c0
   have s1:=(hS'.cell (p:=⟨B,off+1,none⟩) hbl).trans c1
   have s2:=(hS'.cell (p:=⟨B,off+2,none⟩) hbl).trans d0
   have s3:=(hS'.cell (p:=⟨B,off+2+1,none⟩) hbl).trans d1
   go_simp
   try with_reducible rfl
  try simp only [zA,zB,zC,Act.put,zD,zE,zF]
 unfold wpPh
 simp only [List.drop_succ_cons,List.drop_zero]
 have hbU:=hb5.trans (hK2.mono hb5.size)
 replace HD:=Lib.hid (HD.out.below hK2)
 replace HX:=Lib.hid ((hK2.block _ (lt_of_blk HX.out)).trans HX.out)
 replace HY:=Lib.hid ((hK2.block _ (lt_of_blk HY.out)).trans HY.out)
 replace HP:=Lib.hid (HP.out.below hK2)
 clear c0 c1 d0 d1
 go_wp2
 refine NormalOnly.mk ?_
 go_wp2_with fail
 refine (HIN.out _ (hw.below hbU)).mono ?_
 rintro e v6 ⟨rfl,h6⟩
 have hb6:=hbU.trans (h6.mono hbU.size)
 replace HD:=Lib.hid (HD.out.below h6)
 replace HX:=Lib.hid ((h6.block _ (lt_of_blk HX.out)).trans HX.out)
 replace HY:=Lib.hid ((h6.block _ (lt_of_blk HY.out)).trans HY.out)
 replace HP:=Lib.hid (HP.out.below h6)
 obtain ⟨g0,g1,_,_⟩:=two_cells HX.out
 go_wp2_with fail
 refine (HRW.out _ (hw.below hb6) HP.out).mono ?_
 rintro e v7 ⟨rfl,h7⟩
 have hb7:=hb6.trans (h7.mono hb6.size)
 replace HD:=Lib.hid (HD.out.below h7)
 replace HX:=Lib.hid ((h7.block _ (lt_of_blk HX.out)).trans HX.out)
 replace HY:=Lib.hid ((h7.block _ (lt_of_blk HY.out)).trans HY.out)
 replace HP:=Lib.hid (HP.out.below h7)
 go_wp2
 go_ret
 exact ⟨rfl,hb7⟩
set_option maxRecDepth 100000 in
set_option maxHeartbeats 4000000 in
theorem where_right_off (v:Value) (D:List Plc) (a b:ByteArray) (n d:Int) (w:World) (hw:Good w) (hv:Dft w v D) (h8:D.length≤8) (ha:a.size≤40) (hb:b.size≤40) (hok:okPr (a,b)=true) (hs:okSm n d) (hins:insB 0 1 (sm n d)=false):Calls Tryz.prog 6 #[v,.agg #[.string a,.string b],SmV n d] w (RV (.bool true) w):=by
 have HKN:=Lib.hid law_known
 have HFT:=Lib.hid (fun w' (h:Dft w' v D)=>law_fits v D w' h)
 unfold RV at HKN
 have HDD:=Lib.hid hv
 have HD:=HDD
 unfold SmV
 obtain ⟨wA,hwA⟩ : ∃ wA,wA=(w.alloc (Obj.cells #[.string a,.string b] 31)).alloc (Obj.cells #[.int .i16 n,.int .u8 d] 55):=⟨_,rfl⟩
 have HWA:=Lib.hid hwA
 obtain ⟨hbA,hx1,hx2⟩:=box_pair hwA
 have HX:=Lib.hid hx1
 have HY:=Lib.hid hx2
 replace HD:=Lib.hid (HD.out.below hbA)
 clear hwA hx1 hx2 hv
 have HMK:=Lib.hid (fun w' (hg:Good w') (h:Dft w' v D)=>law_make v D w' hg h)
 unfold MadeD at HMK
 rw [decide_eq_true h8] at HFT
 clear h8
 go_enter Tryz.func6,Tryz.ntmps6
 go_upto_region 1 with fail
 rw [←HWA.out]
 go_wp2_with fail
 refine (HKN.out _ (hw.below hbA)).mono ?_
 rintro e v1 ⟨rfl,h1⟩
 have hb1:=hbA.trans (h1.mono hbA.size)
 replace HD:=Lib.hid (HD.out.below h1)
 replace HX:=Lib.hid ((h1.block _ (lt_of_blk HX.out)).trans HX.out)
 replace HY:=Lib.hid ((h1.block _ (lt_of_blk HY.out)).trans HY.out)
 go_wp2_with fail
 refine (HFT.out _ HD.out).mono ?_
 rintro e v0 ⟨rfl,rfl⟩
 obtain ⟨g0,g1,_,_⟩:=two_cells HX.out
 go_wp2_with fail
 refine (HMK.out _ (hw.below hb1) HD.out).mono ?_
 rintro e v2 ⟨r,P,rfl,hDr,hPt,h2⟩
 have hb2:=hb1.trans (h2.mono hb1.size)
 replace HD:=Lib.hid (HD.out.below h2)
 replace HX:=Lib.hid ((h2.block _ (lt_of_blk HX.out)).trans HX.out)
 replace HY:=Lib.hid ((h2.block _ (lt_of_blk HY.out)).trans HY.out)
 obtain ⟨pp,cc,rfl,hcc1,hcc2⟩:=hPt.slice
 have HP:=Lib.hid hPt
 have HDR:=Lib.hid hDr
 have hP8:=hDr.le8
 have hP3:=hDr.poly.1.1
 clear hPt hDr g0 g1
 obtain ⟨q,rfl,rfl,hq1,hq2⟩:=okPr_pt hok
 have HWH:=Lib.hid (fun w' (hg:Good w') hp=>pg_where (.slice pp P.length cc) P q HDR.out.poly (by omega) HDR.out.ok ⟨hq1,hq2⟩ w' hg hp)
 have HRP:=Lib.hid (fun w' (hg:Good w')=>right_point (tx q.1) (tx q.2) (Nat.le_trans ha (by decide)) (Nat.le_trans hb (by decide)) w' hg)
 rw [hok] at HRP
 have hsm:=sm_small hs
 have HSM:=Lib.hid (fun w' (hg:Good w')=>law02_make n d hs w' hg)
 have hSs:Sz 402 (sm n d):=(ok_nat hsm (by decide) (by decide)).sz
 have hc0:Sz2 402 (pt P 0):=okP_sz (HDR.out.ok _ (pt_mem (by omega)))
 have hc1:Sz2 402 (pt P 1):=okP_sz (HDR.out.ok _ (pt_mem (by omega)))
 have HTW:=Lib.hid (fun w' (hg:Good w')=>r5_toward (pt P 0) (pt P 1) (sm n d) (hc0.mono (by decide)) (hc1.mono (by decide)) (hSs.mono (by decide)) w' hg)
 have HWT:=Lib.hid (fun w' (hg:Good w') hp=>pg_where (.slice pp P.length cc) P (towP (pt P 0) (pt P 1) (sm n d)) HDR.out.poly (by omega) HDR.out.ok (tow_ok HDR.out hsm) w' hg hp)
 have HIN:=Lib.hid (fun w' (hg:Good w')=>r5_inside 0 1 (sm n d) (Nat.le_trans (show (tx 0).size≤1 by decide +kernel) (by decide)) (Nat.le_trans (show (tx 1).size≤1 by decide +kernel) (by decide)) (hSs.mono (by decide)) w' hg)
 have HRW:=Lib.hid (fun w' (hg:Good w') hp=>r9_where (.slice pp P.length cc) P q hP3 (by omega) (fun p hp=>(okP_sz (HDR.out.ok p hp)).mono (by decide)) (⟨hq1.sz.mono (by decide),hq2.sz.mono (by decide)⟩) w' hg hp)
 rw [tx0,tx1] at HIN
 unfold RV ptV at HWH HTW HWT HRW
 unfold RV at HRP HSM HIN
 unfold SmV at HSM
 rw [hins] at HIN
 clear hins
 clear hq1 hq2 hs hsm hSs hc0 hc1 hok ha hb
 obtain ⟨B,off,hBo,_,_⟩:=Pts.cells HP.out (by omega)
 subst hBo
 have hbl:=(Pts.cells HP.out (by omega)).choose_spec
 clear hbl
 generalize tx q.1=s1 at *
 generalize tx q.2=s2 at *
 generalize whereP P q=wh at *
 generalize tx (sm n d)=sh at *
 generalize tx (towP (pt P 0) (pt P 1) (sm n d)).1=t1 at *
 generalize tx (towP (pt P 0) (pt P 1) (sm n d)).2=t2 at *
 generalize whereP P (towP (pt P 0) (pt P 1) (sm n d))=wt at *
 obtain ⟨g0,g1,_,_⟩:=two_cells HX.out
 go_wp2_with fail
 refine (HWH.out _ (hw.below hb2) HP.out).mono ?_
 rintro e v3 ⟨rfl,h3⟩
 have hb3:=hb2.trans (h3.mono hb2.size)
 replace HD:=Lib.hid (HD.out.below h3)
 replace HX:=Lib.hid ((h3.block _ (lt_of_blk HX.out)).trans HX.out)
 replace HY:=Lib.hid ((h3.block _ (lt_of_blk HY.out)).trans HY.out)
 replace HP:=Lib.hid (HP.out.below h3)
 clear g0 g1
 obtain ⟨g0,g1,_,_⟩:=two_cells HX.out
 go_wp2_with fail
 refine (HRP.out _ (hw.below hb3)).mono ?_
 rintro e v4 ⟨rfl,h4⟩
 have hb4:=hb3.trans (h4.mono hb3.size)
 replace HD:=Lib.hid (HD.out.below h4)
 replace HX:=Lib.hid ((h4.block _ (lt_of_blk HX.out)).trans HX.out)
 replace HY:=Lib.hid ((h4.block _ (lt_of_blk HY.out)).trans HY.out)
 replace HP:=Lib.hid (HP.out.below h4)
 clear g0 g1
 obtain ⟨y0,y1,_,_⟩:=two_cells HY.out
 go_wp2_with fail
 refine (HSM.out _ (hw.below hb4)).mono ?_
 rintro e v5 ⟨rfl,h5⟩
 have hb5:=hb4.trans (h5.mono hb4.size)
 replace HD:=Lib.hid (HD.out.below h5)
 replace HX:=Lib.hid ((h5.block _ (lt_of_blk HX.out)).trans HX.out)
 replace HY:=Lib.hid ((h5.block _ (lt_of_blk HY.out)).trans HY.out)
 replace HP:=Lib.hid (HP.out.below h5)
 clear y0 y1
 obtain ⟨B2,off2,hB2,hbl,hcell⟩:=Pts.cells HP.out (by omega)
 cases hB2
 obtain ⟨c0,c1⟩:=hcell 0 (by omega)
 obtain ⟨d0,d1⟩:=hcell 1 (by omega)
 simp only [Nat.zero_mul,Nat.add_zero,Nat.one_mul] at c0 c1 d0 d1
 have i0:(0:Int)<(P.length:Int):=by omega
 have i1:(1:Int)<(P.length:Int):=by omega
 have i0n:0<P.length:=by omega
 have i1n:1<P.length:=by omega
 clear hcell
 generalize tx (pt P 0).1=p1 at *
 generalize tx (pt P 0).2=p2 at *
 generalize tx (pt P 1).1=q1 at *
 generalize tx (pt P 1).2=q2 at *
 go_wp2_with fail
 refine wp_held_ph (fun W'=>Below v5.heap.size v5 W') [(true,0),(true,1),(true,2),(true,3),(true,4),(true,5),(true,6),(true,7),(false,8),(false,9),(true,10),(true,11),(true,12),(true,13)] 14 (by kernel_rfl) (by kernel_rfl) ⟨rfl,rfl,rfl,Nat.le_refl _,fun _ _=>rfl⟩ ?_
 have hK0:Below v5.heap.size v5 v5.drew:=⟨rfl,rfl,rfl,Nat.le_refl _,fun _ _=>rfl⟩
 iterate 8
  refine wpPh_take rfl ?_ rfl ?_ ?_
  rotate_left
  ·intro W' hS'
   have s0:=(hS'.cell (p:=⟨B,off,none⟩) hbl).trans c0
   have s1:=(hS'.cell (p:=⟨B,off+1,none⟩) hbl).trans c1
   have s2:=(hS'.cell (p:=⟨B,off+2,none⟩) hbl).trans d0
   have s3:=(hS'.cell (p:=⟨B,off+2+1,none⟩) hbl).trans d1
   go_simp
   try with_reducible rfl
  try simp only [zA,zB,zC,Act.put,zD,zE,zF]
 refine wpPh_keep rfl rfl (fun K hK=>?_)
 go_simp
 refine (HTW.out _ (hw.below (hb5.trans (hK0.mono hb5.size)))).mono ?_
 rintro e u1 ⟨rfl,hbu1⟩
 have hK1:=hK0.trans (hbu1.mono hK0.size)
 refine hK _ _ ⟨hK1,?_⟩
 clear hK K
 try simp only [zA,zB,zC,Act.put,zD,zE,zF]
 refine wpPh_keep rfl rfl (fun K hK=>?_)
 go_simp
 refine (HWT.out _ (hw.below (hb5.trans (hK1.mono hb5.size))) (HP.out.below hK1)).mono ?_
 rintro e u2 ⟨rfl,hbu2⟩
 have hK2:=hK1.trans (hbu2.mono hK1.size)
 refine hK _ _ ⟨hK2,?_⟩
 clear hK K
 try simp only [zA,zB,zC,Act.put,zD,zE,zF]
 iterate 4
  refine wpPh_take rfl ?_ rfl ?_ ?_
  rotate_left
  ·intro W' hS'
   have s0:=(hS'.cell (p:=⟨B,off,none⟩) hbl).trans c0
   have s1:=(hS'.cell (p:=⟨B,off+1,none⟩) hbl).trans c1
   have s2:=(hS'.cell (p:=⟨B,off+2,none⟩) hbl).trans d0
   have s3:=(hS'.cell (p:=⟨B,off+2+1,none⟩) hbl).trans d1
   go_simp
   try with_reducible rfl
  try simp only [zA,zB,zC,Act.put,zD,zE,zF]
 unfold wpPh
 simp only [List.drop_succ_cons,List.drop_zero]
 have hbU:=hb5.trans (hK2.mono hb5.size)
 replace HD:=Lib.hid (HD.out.below hK2)
 replace HX:=Lib.hid ((hK2.block _ (lt_of_blk HX.out)).trans HX.out)
 replace HY:=Lib.hid ((hK2.block _ (lt_of_blk HY.out)).trans HY.out)
 replace HP:=Lib.hid (HP.out.below hK2)
 clear c0 c1 d0 d1
 go_wp2
 refine NormalOnly.mk ?_
 go_wp2_with fail
 refine (HIN.out _ (hw.below hbU)).mono ?_
 rintro e v6 ⟨rfl,h6⟩
 have hb6:=hbU.trans (h6.mono hbU.size)
 replace HD:=Lib.hid (HD.out.below h6)
 replace HX:=Lib.hid ((h6.block _ (lt_of_blk HX.out)).trans HX.out)
 replace HY:=Lib.hid ((h6.block _ (lt_of_blk HY.out)).trans HY.out)
 replace HP:=Lib.hid (HP.out.below h6)
 obtain ⟨g0,g1,_,_⟩:=two_cells HX.out
 go_wp2_with fail
 refine (HRW.out _ (hw.below hb6) HP.out).mono ?_
 rintro e v7 ⟨rfl,h7⟩
 have hb7:=hb6.trans (h7.mono hb6.size)
 replace HD:=Lib.hid (HD.out.below h7)
 replace HX:=Lib.hid ((h7.block _ (lt_of_blk HX.out)).trans HX.out)
 replace HY:=Lib.hid ((h7.block _ (lt_of_blk HY.out)).trans HY.out)
 replace HP:=Lib.hid (HP.out.below h7)
 go_wp2
 go_ret
 exact ⟨rfl,hb7⟩
theorem law_PolygonWhere (v:Value) (D:List Plc) (a b:ByteArray) (n d:Int) (hs:okSm n d) (w:World) (hw:Good w) (hv:Dft w v D):Calls Tryz.prog 6 #[v,.agg #[.string a,.string b],SmV n d] w (RV (.bool true) w):=by
 by_cases h8:D.length≤8
 ·by_cases ha:a.size≤40
  ·by_cases hb:b.size≤40
   ·rcases Bool.eq_false_or_eq_true (okPr (a,b)) with h | h
    ·rcases Bool.eq_false_or_eq_true (insB 0 1 (sm n d)) with k | k
     ·exact where_right_in v D a b n d w hw hv h8 ha hb h hs k
     ·exact where_right_off v D a b n d w hw hv h8 ha hb h hs k
    ·exact where_wrong v D a b n d w hw hv h8 ha hb h
   ·exact where_out3 v D a b n d w hw hv h8 ha hb
  ·exact where_out2 v D a b n d w hw hv h8 ha
 ·exact where_out1 v D a b n d w hw hv h8
end Go.Proofs.YtgohnjdgoglcfaaGreatDoor
