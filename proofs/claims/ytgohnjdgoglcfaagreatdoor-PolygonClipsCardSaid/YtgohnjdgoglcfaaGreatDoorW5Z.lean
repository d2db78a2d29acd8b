import Derived.Test.YtgohnjdgoglcfaaGreatDoorV12Z
import Derived.Test.YtgohnjdgoglcfaaGreatDoorV1Z
set_option maxRecDepth 100000
set_option maxHeartbeats 4000000
namespace Go.Proofs.YtgohnjdgoglcfaaGreatDoor
open Go.RowKit Go.Shelf
open Go.Lib (decDigits itoa nDigits)
open Go.Lib (hid)
theorem clips_out0 (v:Value) (D:List Plc) (a b c:ByteArray) (w:World) (hw:Good w) (hv:Dft w v D) (h8:¬ D.length≤8):Calls Tryz.prog 7 #[v,lnV a b c] w (RV (.bool true) w):=by
 have HKN:=hid law_known
 have HFT:=hid (fun w' (h:Dft w' v D)=>law_fits v D w' h)
 unfold RV at HKN
 have HDD:=hid hv
 have HD:=HDD
 obtain ⟨wA,hwA⟩ : ∃ wA,wA=w.alloc (Obj.cells #[.string a,.string b,.string c] 64):=⟨_,rfl⟩
 have HWA:=hid hwA
 obtain ⟨hbA,hx⟩:=box_any hwA
 have HX:=hid hx
 replace HD:=hid (HD.out.below hbA)
 unfold lnV
 clear hwA hx hv
 rw [decide_eq_false h8] at HFT
 clear h8
 go_enter Tryz.func7,Tryz.ntmps7
 go_upto_region 1 with fail
 rw [←HWA.out]
 go_wp2_with fail
 refine (HKN.out _ (hw.below hbA)).mono ?_
 rintro e v1 ⟨rfl,h1⟩
 have hb1:=hbA.trans (h1.mono hbA.size)
 replace HD:=hid (HD.out.below h1)
 replace HX:=hid ((h1.block _ (lt_of_blk HX.out)).trans HX.out)
 go_wp2_with fail
 refine (HFT.out _ HD.out).mono ?_
 rintro e v0 ⟨rfl,rfl⟩
 go_wp2_with fail
 refine (HKN.out _ (hw.below hb1)).mono ?_
 rintro e v2 ⟨rfl,h2⟩
 have hb2:=hb1.trans (h2.mono hb1.size)
 replace HD:=hid (HD.out.below h2)
 replace HX:=hid ((h2.block _ (lt_of_blk HX.out)).trans HX.out)
 go_wp2
 go_ret
 exact ⟨rfl,hb2⟩
theorem clips_out1 (v:Value) (D:List Plc) (a b c:ByteArray) (w:World) (hw:Good w) (hv:Dft w v D) (h8:D.length≤8) (k1:¬ a.size≤40):Calls Tryz.prog 7 #[v,lnV a b c] w (RV (.bool true) w):=by
 have HKN:=hid law_known
 have HFT:=hid (fun w' (h:Dft w' v D)=>law_fits v D w' h)
 unfold RV at HKN
 have HDD:=hid hv
 have HD:=HDD
 obtain ⟨wA,hwA⟩ : ∃ wA,wA=w.alloc (Obj.cells #[.string a,.string b,.string c] 64):=⟨_,rfl⟩
 have HWA:=hid hwA
 obtain ⟨hbA,hx⟩:=box_any hwA
 have HX:=hid hx
 replace HD:=hid (HD.out.below hbA)
 unfold lnV
 clear hwA hx hv
 rw [decide_eq_true h8] at HFT
 clear h8
 go_enter Tryz.func7,Tryz.ntmps7
 go_upto_region 1 with fail
 rw [←HWA.out]
 go_wp2_with fail
 refine (HKN.out _ (hw.below hbA)).mono ?_
 rintro e v1 ⟨rfl,h1⟩
 have hb1:=hbA.trans (h1.mono hbA.size)
 replace HD:=hid (HD.out.below h1)
 replace HX:=hid ((h1.block _ (lt_of_blk HX.out)).trans HX.out)
 go_wp2_with fail
 refine (HFT.out _ HD.out).mono ?_
 rintro e v0 ⟨rfl,rfl⟩
 have lx:=lt_of_blk HX.out
 obtain ⟨g0,g1,g2⟩:=three_cells HX.out
 go_wp2_with fail
 refine (HKN.out _ (hw.below hb1)).mono ?_
 rintro e v2 ⟨rfl,h2⟩
 have hb2:=hb1.trans (h2.mono hb1.size)
 replace HD:=hid (HD.out.below h2)
 replace HX:=hid ((h2.block _ (lt_of_blk HX.out)).trans HX.out)
 go_wp2
 go_ret
 exact ⟨rfl,hb2⟩
theorem clips_out2 (v:Value) (D:List Plc) (a b c:ByteArray) (w:World) (hw:Good w) (hv:Dft w v D) (h8:D.length≤8) (k1:a.size≤40) (k2:¬ b.size≤40):Calls Tryz.prog 7 #[v,lnV a b c] w (RV (.bool true) w):=by
 have HKN:=hid law_known
 have HFT:=hid (fun w' (h:Dft w' v D)=>law_fits v D w' h)
 unfold RV at HKN
 have HDD:=hid hv
 have HD:=HDD
 obtain ⟨wA,hwA⟩ : ∃ wA,wA=w.alloc (Obj.cells #[.string a,.string b,.string c] 64):=⟨_,rfl⟩
 have HWA:=hid hwA
 obtain ⟨hbA,hx⟩:=box_any hwA
 have HX:=hid hx
 replace HD:=hid (HD.out.below hbA)
 unfold lnV
 clear hwA hx hv
 rw [decide_eq_true h8] at HFT
 clear h8
 go_enter Tryz.func7,Tryz.ntmps7
 go_upto_region 1 with fail
 rw [←HWA.out]
 go_wp2_with fail
 refine (HKN.out _ (hw.below hbA)).mono ?_
 rintro e v1 ⟨rfl,h1⟩
 have hb1:=hbA.trans (h1.mono hbA.size)
 replace HD:=hid (HD.out.below h1)
 replace HX:=hid ((h1.block _ (lt_of_blk HX.out)).trans HX.out)
 go_wp2_with fail
 refine (HFT.out _ HD.out).mono ?_
 rintro e v0 ⟨rfl,rfl⟩
 have lx:=lt_of_blk HX.out
 obtain ⟨g0,g1,g2⟩:=three_cells HX.out
 go_wp2_with fail
 refine (HKN.out _ (hw.below hb1)).mono ?_
 rintro e v2 ⟨rfl,h2⟩
 have hb2:=hb1.trans (h2.mono hb1.size)
 replace HD:=hid (HD.out.below h2)
 replace HX:=hid ((h2.block _ (lt_of_blk HX.out)).trans HX.out)
 go_wp2
 go_ret
 exact ⟨rfl,hb2⟩
theorem clips_out3 (v:Value) (D:List Plc) (a b c:ByteArray) (w:World) (hw:Good w) (hv:Dft w v D) (h8:D.length≤8) (k1:a.size≤40) (k2:b.size≤40) (k3:¬ c.size≤40):Calls Tryz.prog 7 #[v,lnV a b c] w (RV (.bool true) w):=by
 have HKN:=hid law_known
 have HFT:=hid (fun w' (h:Dft w' v D)=>law_fits v D w' h)
 unfold RV at HKN
 have HDD:=hid hv
 have HD:=HDD
 obtain ⟨wA,hwA⟩ : ∃ wA,wA=w.alloc (Obj.cells #[.string a,.string b,.string c] 64):=⟨_,rfl⟩
 have HWA:=hid hwA
 obtain ⟨hbA,hx⟩:=box_any hwA
 have HX:=hid hx
 replace HD:=hid (HD.out.below hbA)
 unfold lnV
 clear hwA hx hv
 rw [decide_eq_true h8] at HFT
 clear h8
 go_enter Tryz.func7,Tryz.ntmps7
 go_upto_region 1 with fail
 rw [←HWA.out]
 go_wp2_with fail
 refine (HKN.out _ (hw.below hbA)).mono ?_
 rintro e v1 ⟨rfl,h1⟩
 have hb1:=hbA.trans (h1.mono hbA.size)
 replace HD:=hid (HD.out.below h1)
 replace HX:=hid ((h1.block _ (lt_of_blk HX.out)).trans HX.out)
 go_wp2_with fail
 refine (HFT.out _ HD.out).mono ?_
 rintro e v0 ⟨rfl,rfl⟩
 have lx:=lt_of_blk HX.out
 obtain ⟨g0,g1,g2⟩:=three_cells HX.out
 go_wp2_with fail
 refine (HKN.out _ (hw.below hb1)).mono ?_
 rintro e v2 ⟨rfl,h2⟩
 have hb2:=hb1.trans (h2.mono hb1.size)
 replace HD:=hid (HD.out.below h2)
 replace HX:=hid ((h2.block _ (lt_of_blk HX.out)).trans HX.out)
 go_wp2
 go_ret
 exact ⟨rfl,hb2⟩
theorem clips_wrong (v:Value) (D:List Plc) (a b c:ByteArray) (w:World) (hw:Good w) (hv:Dft w v D) (h8:D.length≤8) (k1:a.size≤40) (k2:b.size≤40) (k3:c.size≤40) (hno:lineErr a b c≠0):Calls Tryz.prog 7 #[v,lnV a b c] w (RV (.bool true) w):=by
 have HKN:=hid law_known
 have HFT:=hid (fun w' (h:Dft w' v D)=>law_fits v D w' h)
 unfold RV at HKN
 have HDD:=hid hv
 have HD:=HDD
 obtain ⟨wA,hwA⟩ : ∃ wA,wA=w.alloc (Obj.cells #[.string a,.string b,.string c] 64):=⟨_,rfl⟩
 have HWA:=hid hwA
 obtain ⟨hbA,hx⟩:=box_any hwA
 have HX:=hid hx
 replace HD:=hid (HD.out.below hbA)
 unfold lnV
 clear hwA hx hv
 have HMK:=hid (fun w' (hg:Good w') (h:Dft w' v D)=>law_make v D w' hg h)
 unfold MadeD at HMK
 rw [decide_eq_true h8] at HFT
 have hsz:a.size≤4000000∧b.size≤4000000∧c.size≤4000000:=⟨Nat.le_trans k1 (by decide),Nat.le_trans k2 (by decide),Nat.le_trans k3 (by decide)⟩
 have HRT:=hid (fun w' (hg:Good w')=>law_right a b c hsz w' hg)
 unfold RV lnV at HRT
 clear h8
 go_enter Tryz.func7,Tryz.ntmps7
 go_upto_region 1 with fail
 rw [←HWA.out]
 go_wp2_with fail
 refine (HKN.out _ (hw.below hbA)).mono ?_
 rintro e v1 ⟨rfl,h1⟩
 have hb1:=hbA.trans (h1.mono hbA.size)
 replace HD:=hid (HD.out.below h1)
 replace HX:=hid ((h1.block _ (lt_of_blk HX.out)).trans HX.out)
 go_wp2_with fail
 refine (HFT.out _ HD.out).mono ?_
 rintro e v0 ⟨rfl,rfl⟩
 have lx:=lt_of_blk HX.out
 obtain ⟨g0,g1,g2⟩:=three_cells HX.out
 go_wp2_with fail
 refine (HMK.out _ (hw.below hb1) HD.out).mono ?_
 rintro e v2 ⟨r,P,rfl,hDr,hPt,h2⟩
 have hb2:=hb1.trans (h2.mono hb1.size)
 replace HD:=hid (HD.out.below h2)
 replace HX:=hid ((h2.block _ (lt_of_blk HX.out)).trans HX.out)
 obtain ⟨pp,cc,rfl,hcc1,hcc2⟩:=hPt.slice
 have HP:=hid hPt
 have HDR:=hid hDr
 have hP8:=hDr.le8
 have hP3:=hDr.poly.1.1
 clear hPt hDr g0 g1 g2 lx
 have HCL:=hid (fun w' (hg:Good w') hp=>pg_clip_bad (.slice pp P.length cc) P HDR.out.poly (by omega) HDR.out.ok a b c hsz hno w' hg hp)
 have HSP:=hid (fun w' (hg:Good w') hp=>pg_split_bad (.slice pp P.length cc) P HDR.out.poly (by omega) HDR.out.ok a b c hsz hno w' hg hp)
 unfold RV lnV at HCL HSP
 have hn1:(lineErr a b c != 0)=true:=by simpa using hno
 have hn2:(lineErr a b c == 0)=false:=beq_eq_false_iff_ne.2 hno
 have hn3:(lineErr a b c == lineErr a b c)=true:=beq_self_eq_true _
 clear hno k1 k2 k3 hsz HDR
 generalize lineErr a b c=er at *
 have lx:=lt_of_blk HX.out
 obtain ⟨g0,g1,g2⟩:=three_cells HX.out
 go_wp2_with fail
 refine (HCL.out _ (hw.below hb2) HP.out).mono ?_
 rintro e v3 ⟨rfl,h3⟩
 have hb3:=hb2.trans (h3.mono hb2.size)
 replace HD:=hid (HD.out.below h3)
 replace HX:=hid ((h3.block _ (lt_of_blk HX.out)).trans HX.out)
 replace HP:=hid (HP.out.below h3)
 clear g0 g1 g2 lx
 have lx:=lt_of_blk HX.out
 obtain ⟨g0,g1,g2⟩:=three_cells HX.out
 go_wp2_with fail
 refine (HSP.out _ (hw.below hb3) HP.out).mono ?_
 rintro e v4 ⟨rfl,h4⟩
 have hb4:=hb3.trans (h4.mono hb3.size)
 replace HD:=hid (HD.out.below h4)
 replace HX:=hid ((h4.block _ (lt_of_blk HX.out)).trans HX.out)
 replace HP:=hid (HP.out.below h4)
 clear g0 g1 g2 lx
 have lx:=lt_of_blk HX.out
 obtain ⟨g0,g1,g2⟩:=three_cells HX.out
 go_wp2_with fail
 refine (HRT.out _ (hw.below hb4)).mono ?_
 rintro e v5 ⟨rfl,h5⟩
 have hb5:=hb4.trans (h5.mono hb4.size)
 replace HD:=hid (HD.out.below h5)
 replace HX:=hid ((h5.block _ (lt_of_blk HX.out)).trans HX.out)
 replace HP:=hid (HP.out.below h5)
 go_wp2
 go_ret
 exact ⟨rfl,hb5⟩
theorem clips_right (v:Value) (D:List Plc) (a b c:ByteArray) (w:World) (hw:Good w) (hv:Dft w v D) (h8:D.length≤8) (k1:a.size≤40) (k2:b.size≤40) (k3:c.size≤40) (x y z:Rat) (ha:a=tx x) (hb:b=tx y) (hc:c=tx z) (hs1:Sh x) (hs2:Sh y) (hs3:Sh z) (hl:LineOk x y z):Calls Tryz.prog 7 #[v,lnV a b c] w (RV (.bool true) w):=by
 have HA:=hid (And.intro ha (And.intro hb hc))
 clear ha hb hc
 have HKN:=hid law_known
 have HFT:=hid (fun w' (h:Dft w' v D)=>law_fits v D w' h)
 unfold RV at HKN
 have HDD:=hid hv
 have HD:=HDD
 obtain ⟨wA,hwA⟩ : ∃ wA,wA=w.alloc (Obj.cells #[.string a,.string b,.string c] 64):=⟨_,rfl⟩
 have HWA:=hid hwA
 obtain ⟨hbA,hx⟩:=box_any hwA
 have HX:=hid hx
 replace HD:=hid (HD.out.below hbA)
 unfold lnV
 clear hwA hx hv
 have HMK:=hid (fun w' (hg:Good w') (h:Dft w' v D)=>law_make v D w' hg h)
 unfold MadeD at HMK
 rw [decide_eq_true h8] at HFT
 have hsz:a.size≤4000000∧b.size≤4000000∧c.size≤4000000:=⟨Nat.le_trans k1 (by decide),Nat.le_trans k2 (by decide),Nat.le_trans k3 (by decide)⟩
 have HRT:=hid (fun w' (hg:Good w')=>law_right a b c hsz w' hg)
 unfold RV lnV at HRT
 clear h8
 go_enter Tryz.func7,Tryz.ntmps7
 go_upto_region 1 with fail
 rw [←HWA.out]
 go_wp2_with fail
 refine (HKN.out _ (hw.below hbA)).mono ?_
 rintro e v1 ⟨rfl,h1⟩
 have hb1:=hbA.trans (h1.mono hbA.size)
 replace HD:=hid (HD.out.below h1)
 replace HX:=hid ((h1.block _ (lt_of_blk HX.out)).trans HX.out)
 go_wp2_with fail
 refine (HFT.out _ HD.out).mono ?_
 rintro e v0 ⟨rfl,rfl⟩
 have lx:=lt_of_blk HX.out
 obtain ⟨g0,g1,g2⟩:=three_cells HX.out
 go_wp2_with fail
 refine (HMK.out _ (hw.below hb1) HD.out).mono ?_
 rintro e v2 ⟨r,P,rfl,hDr,hPt,h2⟩
 have hb2:=hb1.trans (h2.mono hb1.size)
 replace HD:=hid (HD.out.below h2)
 replace HX:=hid ((h2.block _ (lt_of_blk HX.out)).trans HX.out)
 obtain ⟨pp,cc,rfl,hcc1,hcc2⟩:=hPt.slice
 have HP:=hid hPt
 have HDR:=hid hDr
 have hP8:=hDr.le8
 have hP3:=hDr.poly.1.1
 clear hPt hDr g0 g1 g2 lx
 obtain ⟨ea,eb,ec⟩:=HA.out
 have hl1:=HDR.out.line hl
 have hl2:=HDR.out.line2 hl
 have hco1:=HDR.out.clip hs1 hs2 hs3 (f:=valP x y z) (fun _=>rfl)
 have hco2:=HDR.out.clip hs1.neg hs2.neg hs3.neg (f:=valP (-x) (-y) (-z)) (fun _=>rfl)
 have hok1:=fun q hq=>okq_of (hco1 q hq)
 have hok2:=fun q hq=>okq_of (hco2 q hq)
 have HCO:=hid (And.intro hco1 hco2)
 have HCL:=fun w' (hg:Good w') hp=>(pg_Clip (.slice pp P.length cc) P HDR.out.poly (by omega) HDR.out.ok x y z hl hok1 w' hg hp).mono fun _ _=>ClipPost.x
 have HSP:=fun w' (hg:Good w') hp=>pg_split_fn (.slice pp P.length cc) P HDR.out.poly (by omega) HDR.out.ok x y z hl (valP (-x) (-y) (-z)) (val_neg x y z) hok1 hok2 (fun h=>by have:=hl2.three.2 h;omega) (by have:=hl2.le;omega) w' hg hp
 have z1:Sz 100 x:=by rw [Sz,←ea];exact Nat.le_trans k1 (by decide)
 have z2:Sz 100 y:=by rw [Sz,←eb];exact Nat.le_trans k2 (by decide)
 have z3:Sz 100 z:=by rw [Sz,←ec];exact Nat.le_trans k3 (by decide)
 have HR1:=fun w' (hg:Good w') hp=>r9_clip (.slice pp P.length cc) P x y z hP3 (by omega) (fun p hp=>okP_sz (HDR.out.ok p hp)) z1 z2 z3 w' hg hp (valP x y z) (fun _=>rfl)
 have HR2:=hid (fun w' (hg:Good w') hp=>r9_clip (.slice pp P.length cc) P (-x) (-y) (-z) hP3 (by omega) (fun p hp=>okP_sz (HDR.out.ok p hp)) (hs1.neg.sz) (hs2.neg.sz) (hs3.neg.sz) w' hg hp (valP (-x) (-y) (-z)) (fun _=>rfl))
 have HN1:=fun w'=>r_neg x (z1.mono (by decide)) w'
 have HN2:=fun w'=>r_neg y (z2.mono (by decide)) w'
 have HN3:=fun w'=>r_neg z (z3.mono (by decide)) w'
 have HL:=hid (And.intro hl1 hl2)
 have he:lineErr a b c=0:=by rw [ea,eb,ec];exact hl.err
 rw [he] at HRT
 rw [←ea,←eb,←ec] at HCL HSP HR1
 rw [←ea] at HN1
 rw [←eb] at HN2
 rw [←ec] at HN3
 unfold lnV at HCL HSP
 unfold RV at HN1 HN2 HN3
 replace HCL:=hid HCL
 replace HSP:=hid HSP
 replace HR1:=hid HR1
 replace HN1:=hid HN1
 replace HN2:=hid HN2
 replace HN3:=hid HN3
 clear ea eb ec he hl1 hl2 hok1 hok2 hco1 hco2 hl hs1 hs2 hs3 z1 z2 z3 k1 k2 k3 hsz
 have lx:=lt_of_blk HX.out
 obtain ⟨g0,g1,g2⟩:=three_cells HX.out
 go_wp2_with fail
 refine (HCL.out _ (hw.below hb2) HP.out).mono ?_
 rintro e v9 ⟨X,rX,rfl,hX,hpX,h9⟩
 have hb9:=hb2.trans (h9.mono hb2.size)
 obtain ⟨pX,cX,rfl,hcX1,hcX2⟩:=hpX.slice
 have HXX:=hid hX
 have HPX:=hid hpX
 clear hX hpX
 replace HD:=hid (HD.out.below h9)
 replace HX:=hid ((h9.block _ (lt_of_blk HX.out)).trans HX.out)
 replace HP:=hid (HP.out.below h9)
 clear g0 g1 g2 lx
 have lx:=lt_of_blk HX.out
 obtain ⟨g0,g1,g2⟩:=three_cells HX.out
 go_wp2_with fail
 refine (HSP.out _ (hw.below hb9) HP.out).mono ?_
 rintro e v8 hsp
 obtain ⟨Y,r2,r3,rfl,hY,hp2,hp3,h8⟩:=hsp.at HL.out.1 HXX.out
 have hb8:=hb9.trans (h8.mono hb9.size)
 obtain ⟨p2,c2,rfl,hc21,hc22⟩:=hp2.slice
 obtain ⟨p3,c3,rfl,hc31,hc32⟩:=hp3.slice
 have HYY:=hid hY
 have HP2:=hid hp2
 have HP3:=hid hp3
 clear hY hp2 hp3 hsp
 replace HD:=hid (HD.out.below h8)
 replace HX:=hid ((h8.block _ (lt_of_blk HX.out)).trans HX.out)
 replace HP:=hid (HP.out.below h8)
 replace HPX:=hid (HPX.out.below h8)
 clear g0 g1 g2 lx
 have lx:=lt_of_blk HX.out
 obtain ⟨g0,g1,g2⟩:=three_cells HX.out
 go_wp2_with fail
 refine (HRT.out _ (hw.below hb8)).mono ?_
 rintro e v3 ⟨rfl,h3⟩
 have hb3:=hb8.trans (h3.mono hb8.size)
 replace HD:=hid (HD.out.below h3)
 replace HX:=hid ((h3.block _ (lt_of_blk HX.out)).trans HX.out)
 replace HP:=hid (HP.out.below h3)
 replace HPX:=hid (HPX.out.below h3)
 replace HP2:=hid (HP2.out.below h3)
 replace HP3:=hid (HP3.out.below h3)
 clear g0 g1 g2 lx
 have lx:=lt_of_blk HX.out
 obtain ⟨g0,g1,g2⟩:=three_cells HX.out
 go_wp2_with fail
 refine wp_held_ph (fun W'=>Below v3.heap.size v3 W') [(true,0),(true,1),(true,2),(true,3),(true,4),(true,5),(true,6),(true,8),(true,9),(true,10),(true,12),(true,13),(true,15),(true,16),(false,7),(false,11),(false,14),(false,17),(false,18)] 19 (by kernel_rfl) (by kernel_rfl) ⟨rfl,rfl,rfl,Nat.le_refl _,fun _ _=>rfl⟩ ?_
 have hK0:Below v3.heap.size v3 v3.drew:=⟨rfl,rfl,rfl,Nat.le_refl _,fun _ _=>rfl⟩
 iterate 14
  refine wpPh_take rfl ?_ rfl ?_ ?_
  rotate_left
  ·intro W' hS'
   have s0:=(hS'.cell (p:=⟨w.heap.size,0,none⟩) lx).trans g0
   have s1:=(hS'.cell (p:=⟨w.heap.size,1,none⟩) lx).trans g1
   have s2:=(hS'.cell (p:=⟨w.heap.size,2,none⟩) lx).trans g2
   go_simp
   try with_reducible rfl
  try simp only [zA,zB,zC,Act.put,zD,zE,zF]
 refine wpPh_keep rfl rfl (fun K hK=>?_)
 go_simp
 refine ((HR1.out _ (hw.below (hb3.trans (hK0.mono hb3.size))) (HP.out.below hK0)).mono fun _ _ h=>h.at HL.out.1 HXX.out).mono ?_
 rintro e z1 ⟨q1,rfl,hq1,hbz1⟩
 have hK1:=hK0.trans (hbz1.mono hK0.size)
 refine hK _ _ ⟨hK1,?_⟩
 clear hK K
 try simp only [zA,zB,zC,Act.put,zD,zE,zF]
 refine wpPh_keep rfl rfl (fun K hK=>?_)
 go_simp
 refine (HN1.out _).mono ?_
 rintro e z2 ⟨rfl,hbz2⟩
 have hK2:=hK1.trans (hbz2.mono hK1.size)
 refine hK _ _ ⟨hK2,?_⟩
 clear hK K
 try simp only [zA,zB,zC,Act.put,zD,zE,zF]
 refine wpPh_keep rfl rfl (fun K hK=>?_)
 go_simp
 refine (HN2.out _).mono ?_
 rintro e z3 ⟨rfl,hbz3⟩
 have hK3:=hK2.trans (hbz3.mono hK2.size)
 refine hK _ _ ⟨hK3,?_⟩
 clear hK K
 try simp only [zA,zB,zC,Act.put,zD,zE,zF]
 refine wpPh_keep rfl rfl (fun K hK=>?_)
 go_simp
 refine (HN3.out _).mono ?_
 rintro e z4 ⟨rfl,hbz4⟩
 have hK4:=hK3.trans (hbz4.mono hK3.size)
 refine hK _ _ ⟨hK4,?_⟩
 clear hK K
 try simp only [zA,zB,zC,Act.put,zD,zE,zF]
 refine wpPh_keep rfl rfl (fun K hK=>?_)
 go_simp
 refine ((HR2.out _ (hw.below (hb3.trans (hK4.mono hb3.size))) (HP.out.below hK4)).mono fun _ _ h=>h.at HL.out.2 HYY.out).mono ?_
 rintro e z5 ⟨q2,rfl,hq2,hbz5⟩
 have hK5:=hK4.trans (hbz5.mono hK4.size)
 refine hK _ _ ⟨hK5,?_⟩
 clear hK K
 try simp only [zA,zB,zC,Act.put,zD,zE,zF]
 unfold wpPh
 simp only [List.drop_succ_cons,List.drop_zero]
 go_wp2
 refine NormalOnly.mk ?_
 obtain ⟨pq1,cq1,rfl,_,_⟩:=hq1.slice
 obtain ⟨pq2,cq2,rfl,_,_⟩:=hq2.slice
 have HQ2:=hid hq2
 have HQ1:=hid ((((hq1.below hbz2).below hbz3).below hbz4).below hbz5)
 have hbE:=hb3.trans (hK5.mono hb3.size)
 replace HD:=hid (HD.out.below hK5)
 replace HX:=hid ((hK5.block _ (lt_of_blk HX.out)).trans HX.out)
 replace HP:=hid (HP.out.below hK5)
 replace HPX:=hid (HPX.out.below hK5)
 replace HP2:=hid (HP2.out.below hK5)
 replace HP3:=hid (HP3.out.below hK5)
 clear hq1 hq2
 have hDL:(decide (0<X.length)=true∧decide ((X.length:Int)>0)=true∧decide (0<(X.length:Int))=true)∨(decide (0<X.length)=false∧decide ((X.length:Int)>0)=false∧decide (0<(X.length:Int))=false):=by
  by_cases h0:0<X.length
  ·exact .inl ⟨decide_eq_true h0,decide_eq_true (by omega),decide_eq_true (by omega)⟩
  ·exact .inr ⟨decide_eq_false h0,decide_eq_false (by omega),decide_eq_false (by omega)⟩
 rcases hDL with ⟨d1,d2,d3⟩ | ⟨d1,d2,d3⟩
 all_goals
  have HE0:=hid (r9_equal pointNeq _ _ _ _ z5 HPX.out HQ1.out)
  rw [decide_eq_true rfl] at HE0
  go_wp2_with fail
  refine (HE0.out).mono ?_
  rintro e v4 ⟨rfl,h4⟩
  have hb4:=hbE.trans (h4.mono hbE.size)
  replace HD:=hid (HD.out.below h4)
  replace HX:=hid ((h4.block _ (lt_of_blk HX.out)).trans HX.out)
  replace HP:=hid (HP.out.below h4)
  replace HPX:=hid (HPX.out.below h4)
  replace HP2:=hid (HP2.out.below h4)
  replace HP3:=hid (HP3.out.below h4)
  replace HQ1:=hid (HQ1.out.below h4)
  replace HQ2:=hid (HQ2.out.below h4)
  have HE1:=hid (r9_equal pointNeq _ _ _ _ v4 HP2.out HQ1.out)
  rw [decide_eq_true rfl] at HE1
  go_wp2_with fail
  refine (HE1.out).mono ?_
  rintro e v5 ⟨rfl,h5⟩
  have hb5:=hb4.trans (h5.mono hb4.size)
  replace HD:=hid (HD.out.below h5)
  replace HX:=hid ((h5.block _ (lt_of_blk HX.out)).trans HX.out)
  replace HP:=hid (HP.out.below h5)
  replace HPX:=hid (HPX.out.below h5)
  replace HP2:=hid (HP2.out.below h5)
  replace HP3:=hid (HP3.out.below h5)
  replace HQ1:=hid (HQ1.out.below h5)
  replace HQ2:=hid (HQ2.out.below h5)
  have HE2:=hid (r9_equal pointNeq _ _ _ _ v5 HP3.out HQ2.out)
  rw [decide_eq_true rfl] at HE2
  go_wp2_with fail
  refine (HE2.out).mono ?_
  rintro e v6 ⟨rfl,h6⟩
  have hb6:=hb5.trans (h6.mono hb5.size)
  replace HD:=hid (HD.out.below h6)
  replace HX:=hid ((h6.block _ (lt_of_blk HX.out)).trans HX.out)
  replace HP:=hid (HP.out.below h6)
  replace HPX:=hid (HPX.out.below h6)
  replace HP2:=hid (HP2.out.below h6)
  replace HP3:=hid (HP3.out.below h6)
  replace HQ1:=hid (HQ1.out.below h6)
  replace HQ2:=hid (HQ2.out.below h6)
  have hX3:=HXX.out.len HL.out.1
  have hY3:=HYY.out.len HL.out.2
  have HAX:=hid (fun w' (hg:Good w') hp=>r9_area_x (.slice p2 X.length c2) X hX3.1 (by omega) (fun q hq=>HCO.out.1 q (HXX.out.mem q hq)) w' hg hp)
  have HAY:=hid (fun w' (hg:Good w') hp=>r9_area_x (.slice p3 Y.length c3) Y hY3.1 (by omega) (fun q hq=>HCO.out.2 q (HYY.out.mem q hq)) w' hg hp)
  have HAP:=hid (fun w' (hg:Good w') hp=>r9_area_x (.slice pp P.length cc) P (.inr hP3) (by omega) HDR.out.ok w' hg hp)
  have had:=fun w' (hg:Good w')=>r_add (areaP X) (areaP Y) ((okb_whole hX3.1 (by omega) (fun q hq=>HCO.out.1 q (HXX.out.mem q hq))).mono (by decide)) ((okb_whole hY3.1 (by omega) (fun q hq=>HCO.out.2 q (HYY.out.mem q hq))).mono (by decide)) w' hg
  rw [areas_x HL.out.1 HL.out.2 HXX.out HYY.out] at had
  have HAD:=hid had
  unfold RV at HAX HAY HAP HAD
  clear had hX3 hY3
  generalize tx (areaP X)=tX at *
  generalize tx (areaP Y)=tY at *
  generalize tx (areaP P)=tP at *
  go_wp2_with fail
  refine (HAX.out _ (hw.below hb6) HP2.out).mono ?_
  rintro e v7 ⟨rfl,h7⟩
  have hb7:=hb6.trans (h7.mono hb6.size)
  replace HD:=hid (HD.out.below h7)
  replace HX:=hid ((h7.block _ (lt_of_blk HX.out)).trans HX.out)
  replace HP:=hid (HP.out.below h7)
  replace HPX:=hid (HPX.out.below h7)
  replace HP2:=hid (HP2.out.below h7)
  replace HP3:=hid (HP3.out.below h7)
  replace HQ1:=hid (HQ1.out.below h7)
  replace HQ2:=hid (HQ2.out.below h7)
  go_wp2_with fail
  refine (HAY.out _ (hw.below hb7) HP3.out).mono ?_
  rintro e v8 ⟨rfl,h8⟩
  have hb8:=hb7.trans (h8.mono hb7.size)
  replace HD:=hid (HD.out.below h8)
  replace HX:=hid ((h8.block _ (lt_of_blk HX.out)).trans HX.out)
  replace HP:=hid (HP.out.below h8)
  replace HPX:=hid (HPX.out.below h8)
  replace HP2:=hid (HP2.out.below h8)
  replace HP3:=hid (HP3.out.below h8)
  replace HQ1:=hid (HQ1.out.below h8)
  replace HQ2:=hid (HQ2.out.below h8)
  go_wp2_with fail
  refine (HAD.out _ (hw.below hb8)).mono ?_
  rintro e v9 ⟨rfl,h9⟩
  have hb9:=hb8.trans (h9.mono hb8.size)
  replace HD:=hid (HD.out.below h9)
  replace HX:=hid ((h9.block _ (lt_of_blk HX.out)).trans HX.out)
  replace HP:=hid (HP.out.below h9)
  replace HPX:=hid (HPX.out.below h9)
  replace HP2:=hid (HP2.out.below h9)
  replace HP3:=hid (HP3.out.below h9)
  replace HQ1:=hid (HQ1.out.below h9)
  replace HQ2:=hid (HQ2.out.below h9)
  go_wp2_with fail
  refine (HAP.out _ (hw.below hb9) HP.out).mono ?_
  rintro e v10 ⟨rfl,h10⟩
  have hb10:=hb9.trans (h10.mono hb9.size)
  replace HD:=hid (HD.out.below h10)
  replace HX:=hid ((h10.block _ (lt_of_blk HX.out)).trans HX.out)
  replace HP:=hid (HP.out.below h10)
  replace HPX:=hid (HPX.out.below h10)
  replace HP2:=hid (HP2.out.below h10)
  replace HP3:=hid (HP3.out.below h10)
  replace HQ1:=hid (HQ1.out.below h10)
  replace HQ2:=hid (HQ2.out.below h10)
  go_wp2
  go_ret
  exact ⟨rfl,hb10⟩
theorem law_PolygonClips (v:Value) (D:List Plc) (a b c:ByteArray) (w:World) (hw:Good w) (hv:Dft w v D):Calls Tryz.prog 7 #[v,lnV a b c] w (RV (.bool true) w):=by
 by_cases h8:D.length≤8
 ·by_cases k1:a.size≤40
  ·by_cases k2:b.size≤40
   ·by_cases k3:c.size≤40
    ·by_cases h0:lineErr a b c=0
     ·obtain ⟨x,y,z,rfl,rfl,rfl,hl⟩:=line_of_err h0
      exact clips_right v D _ _ _ w hw hv h8 k1 k2 k3 x y z rfl rfl rfl (Sh.of_size k1) (Sh.of_size k2) (Sh.of_size k3) hl
     ·exact clips_wrong v D a b c w hw hv h8 k1 k2 k3 h0
    ·exact clips_out3 v D a b c w hw hv h8 k1 k2 k3
   ·exact clips_out2 v D a b c w hw hv h8 k1 k2
  ·exact clips_out1 v D a b c w hw hv h8 k1
 ·exact clips_out0 v D a b c w hw hv h8
end Go.Proofs.YtgohnjdgoglcfaaGreatDoor
