import Derived.Test.YtgohnjdgoglcfaaGreatDoorV1Z
import Derived.Test.YtgohnjdgoglcfaaGreatDoorV18Z
import Derived.Test.YtgohnjdgoglcfaaGreatDoorV19Z
import Derived.Test.YtgohnjdgoglcfaaGreatDoorT3EZ
import Derived.Test.YtgohnjdgoglcfaaGreatDoorM3Z
set_option maxRecDepth 100000
set_option maxHeartbeats 8000000
namespace Go.Proofs.YtgohnjdgoglcfaaGreatDoor
open Go.RowKit Go.Shelf
open Go.Lib (decDigits itoa nDigits)
open Go.Lib (hid)
theorem err_zero {a b c:Rat} (ha:OkB a) (hb:OkB b) (hc:OkB c) (h:a=0∧b=0):lineErr (tx a) (tx b) (tx c)=17:=by
 unfold lineErr
 have e1:((tx a).toList == [48])=decide (a=0):=(isR_mk a).zero
 have e2:((tx b).toList == [48])=decide (b=0):=(isR_mk b).zero
 rw [if_pos ⟨ha,hb,hc⟩,e1,e2,if_pos ⟨decide_eq_true h.1,decide_eq_true h.2⟩]
theorem small_ok {q:Rat} (h:q.num.natAbs≤32768∧q.den≤256):OkB q∧Sh q:=⟨ok_nat h (by decide) (by decide),Nat.le_trans h.1 (by decide),Nat.le_trans h.2 (by decide)⟩
theorem laws_out (v:Value) (D:List Plc) (x:Plc) (hx:okPlc x) (w:World) (hw:Good w) (hv:Dft w v D) (h8:¬ D.length≤8):Calls Tryz.prog 10 #[v,.agg (plcC x)] w (RV (.bool true) w):=by
 have HKN:=hid law_known
 have HFT:=hid (fun w' (h:Dft w' v D)=>law_fits v D w' h)
 unfold RV at HKN
 have HD:=hid hv
 have HMV:=hid (fun w' (hg:Good w')=>law05_make x hx w' hg)
 unfold RV at HMV
 have HXO:=hid (And.intro (small_ok (sm_small hx.1)) (And.intro (small_ok (sm_small hx.2.1)) (small_ok (sm_small hx.2.2))))
 clear hv hx
 generalize sm x.a x.b=la at *
 generalize sm x.c x.d=lb at *
 generalize sm x.e x.f=lc at *
 obtain ⟨xa,xb,xc,xd,xe,xf⟩:=x
 unfold plcC at *
 dsimp only at *
 obtain ⟨wA,hwA⟩ : ∃ wA,wA=w.alloc (Obj.cells #[.int .i16 xa,.int .u8 xb,.int .i16 xc,.int .u8 xd,.int .i16 xe,.int .u8 xf] 84):=⟨_,rfl⟩
 have HWA:=hid hwA
 obtain ⟨hbA,hy⟩:=box_any hwA
 have HY:=hid hy
 replace HD:=hid (HD.out.below hbA)
 clear hwA hy
 rw [decide_eq_false h8] at HFT
 clear h8
 go_enter Tryz.func10,Tryz.ntmps10
 go_upto_region 1 with fail
 rw [←HWA.out]
 go_wp2_with fail
 refine (HKN.out _ (hw.below hbA)).mono ?_
 rintro e v1 ⟨rfl,h1⟩
 have hb1:=hbA.trans (h1.mono hbA.size)
 replace HD:=hid (HD.out.below h1)
 replace HY:=hid ((h1.block _ (lt_of_blk HY.out)).trans HY.out)
 go_wp2_with fail
 refine (HFT.out _ HD.out).mono ?_
 rintro e v0 ⟨rfl,rfl⟩
 go_wp2_with fail
 refine (HKN.out _ (hw.below hb1)).mono ?_
 rintro e v2 ⟨rfl,h2⟩
 have hb2:=hb1.trans (h2.mono hb1.size)
 replace HD:=hid (HD.out.below h2)
 replace HY:=hid ((h2.block _ (lt_of_blk HY.out)).trans HY.out)
 go_wp2
 go_ret
 exact ⟨rfl,hb2⟩
theorem box_pair {w wA:World} {cs cs':Array Value} {t t':TypeId} (hwA:wA=(w.alloc (Obj.cells cs t)).alloc (Obj.cells cs' t')):Below w.heap.size w wA∧wA.heap[w.heap.size]?=some (.cells cs t (0,0))∧wA.heap[w.heap.size+1]?=some (.cells cs' t' (0,0)):=by
 obtain ⟨w1,hw1⟩ : ∃ w1,w1=w.alloc (Obj.cells cs t):=⟨_,rfl⟩
 obtain ⟨b1,x1⟩:=box_any hw1
 rw [←hw1] at hwA
 obtain ⟨b2,x2⟩:=box_any hwA
 have s1:w1.heap.size=w.heap.size+1:=by rw [hw1];simp
 rw [s1] at x2
 exact ⟨b1.trans (b2.mono (by omega)),(b2.block _ (lt_of_blk x1)).trans x1,x2⟩
theorem laws_in (v:Value) (D:List Plc) (x:Plc) (hx:okPlc x) (w:World) (hw:Good w) (hv:Dft w v D) (h8:D.length≤8):Calls Tryz.prog 10 #[v,.agg (plcC x)] w (RV (.bool true) w):=by
 have HKN:=hid law_known
 have HFT:=hid (fun w' (h:Dft w' v D)=>law_fits v D w' h)
 unfold RV at HKN
 have HD:=hid hv
 have HMV:=hid (fun w' (hg:Good w')=>law05_make x hx w' hg)
 unfold RV at HMV
 have HXO:=hid (And.intro (small_ok (sm_small hx.1)) (And.intro (small_ok (sm_small hx.2.1)) (small_ok (sm_small hx.2.2))))
 clear hv hx
 generalize sm x.a x.b=la at *
 generalize sm x.c x.d=lb at *
 generalize sm x.e x.f=lc at *
 obtain ⟨xa,xb,xc,xd,xe,xf⟩:=x
 unfold plcC at *
 dsimp only at *
 obtain ⟨wA,hwA⟩ : ∃ wA,wA=w.alloc (Obj.cells #[.int .i16 xa,.int .u8 xb,.int .i16 xc,.int .u8 xd,.int .i16 xe,.int .u8 xf] 84):=⟨_,rfl⟩
 have HWA:=hid hwA
 obtain ⟨hbA,hy⟩:=box_any hwA
 have HY:=hid hy
 replace HD:=hid (HD.out.below hbA)
 clear hwA hy
 have HMK:=hid (fun w' (hg:Good w') (h:Dft w' v D)=>law_make v D w' hg h)
 unfold MadeD at HMK
 rw [decide_eq_true h8] at HFT
 clear h8
 go_enter Tryz.func10,Tryz.ntmps10
 go_upto_region 1 with fail
 rw [←HWA.out]
 go_wp2_with fail
 refine (HKN.out _ (hw.below hbA)).mono ?_
 rintro e v1 ⟨rfl,h1⟩
 have hb1:=hbA.trans (h1.mono hbA.size)
 replace HD:=hid (HD.out.below h1)
 replace HY:=hid ((h1.block _ (lt_of_blk HY.out)).trans HY.out)
 go_wp2_with fail
 refine (HFT.out _ HD.out).mono ?_
 rintro e v0 ⟨rfl,rfl⟩
 go_wp2_with fail
 refine (HMK.out _ (hw.below hb1) HD.out).mono ?_
 rintro e v2 ⟨r0,P,rfl,hDr,hPt,h2⟩
 have hb2:=hb1.trans (h2.mono hb1.size)
 replace HD:=hid (HD.out.below h2)
 replace HY:=hid ((h2.block _ (lt_of_blk HY.out)).trans HY.out)
 obtain ⟨pp,cc,rfl,_,_⟩:=hPt.slice
 have HP:=hid hPt
 have HDR:=hid hDr
 have hP8:=hDr.le8
 have hP3:=hDr.poly.1.1
 have HHU:=hid (fun w' (hg:Good w') hp=>pg_hull (.slice pp P.length cc) P (by omega) (by omega) hDr.ok w' hg hp)
 have HCE:=hid (fun w' (hg:Good w') hp=>pg_Centroid (.slice pp P.length cc) P hDr.poly (by omega) hDr.ok (fun k hk=>(hDr.areas k hk).sz.mono (by decide)) (fun k hk=>(hDr.cenX k hk).sz.mono (by decide)) (fun k hk=>(hDr.cenY k hk).sz.mono (by decide)) hDr.cens w' hg hp)
 have hwh:=fun w' (hg:Good w') hp=>pg_where (.slice pp P.length cc) P (cenP P) hDr.poly (by omega) hDr.ok hDr.cens w' hg hp
 rw [where_cen hDr.poly.1] at hwh
 have HWH:=hid hwh
 have HWQ:=hid (fun q (hq:OkB q.1∧OkB q.2) w' (hg:Good w') hp=>pg_where (.slice pp P.length cc) P q hDr.poly (by omega) hDr.ok hq w' hg hp)
 unfold PHullPost at HHU
 unfold RV at HCE HWH HWQ
 unfold ptV at HCE HWH HWQ
 clear hPt hDr hwh
 go_wp2_with fail
 refine (HHU.out _ (hw.below hb2) HP.out).mono ?_
 rintro e v9 ⟨hor,h9⟩
 have hb9:=hb2.trans (h9.mono hb2.size)
 rcases hor with ⟨_,hno⟩ | ⟨r1,X,rfl,hW,_,hpX⟩
 ·exact absurd (hno P HDR.out.poly.wrap) (by omega)
 obtain rfl:=(HDR.out.poly.hull hW).symm
 obtain ⟨ph,ch,rfl,_,_⟩:=hpX.slice
 have HX:=hid hpX
 clear hpX hW
 replace HD:=hid (HD.out.below h9)
 replace HY:=hid ((h9.block _ (lt_of_blk HY.out)).trans HY.out)
 replace HP:=hid (HP.out.below h9)
 go_wp2_with fail
 refine (HCE.out _ (hw.below hb9) HP.out).mono ?_
 rintro e v3 ⟨rfl,h3⟩
 have hb3:=hb9.trans (h3.mono hb9.size)
 replace HD:=hid (HD.out.below h3)
 replace HY:=hid ((h3.block _ (lt_of_blk HY.out)).trans HY.out)
 replace HP:=hid (HP.out.below h3)
 replace HX:=hid (HX.out.below h3)
 go_wp2_with fail
 obtain ⟨v4,hwv4⟩ : ∃ v4,v4=v3.alloc (Obj.cells #[.string (tx (cenP P).1),.string (tx (cenP P).2)] 31):=⟨_,rfl⟩
 obtain ⟨h4,hxv4⟩:=box_any hwv4
 have hb4:=hb3.trans (h4.mono hb3.size)
 replace HD:=hid (HD.out.below h4)
 replace HY:=hid ((h4.block _ (lt_of_blk HY.out)).trans HY.out)
 replace HP:=hid (HP.out.below h4)
 replace HX:=hid (HX.out.below h4)
 rw [←hwv4]
 have HC:=hid hxv4
 clear hxv4 hwv4
 generalize tx (cenP P).1=gx at *
 generalize tx (cenP P).2=gy at *
 obtain ⟨y0,y1,_,_⟩:=two_cells HC.out
 go_wp2_with fail
 refine (HWH.out _ (hw.below hb4) HP.out).mono ?_
 rintro e v5 ⟨rfl,h5⟩
 have hb5:=hb4.trans (h5.mono hb4.size)
 replace HD:=hid (HD.out.below h5)
 replace HY:=hid ((h5.block _ (lt_of_blk HY.out)).trans HY.out)
 replace HP:=hid (HP.out.below h5)
 replace HX:=hid (HX.out.below h5)
 replace HC:=hid ((h5.block _ (lt_of_blk HC.out)).trans HC.out)
 have HE:=hid (pg_equal pointNeq _ _ _ _ v5 HX.out HP.out)
 rw [decide_eq_true rfl] at HE
 clear y0 y1
 go_wp2_with fail
 refine (HE.out).mono ?_
 rintro e v6 ⟨rfl,h6⟩
 have hb6:=hb5.trans (h6.mono hb5.size)
 replace HD:=hid (HD.out.below h6)
 replace HY:=hid ((h6.block _ (lt_of_blk HY.out)).trans HY.out)
 replace HP:=hid (HP.out.below h6)
 replace HX:=hid (HX.out.below h6)
 replace HC:=hid ((h6.block _ (lt_of_blk HC.out)).trans HC.out)
 have c0:=blk_cell (i:=0) HY.out rfl
 have c1:=blk_cell (i:=1) HY.out rfl
 have c2:=blk_cell (i:=2) HY.out rfl
 have c3:=blk_cell (i:=3) HY.out rfl
 have c4:=blk_cell (i:=4) HY.out rfl
 have c5:=blk_cell (i:=5) HY.out rfl
 go_wp2_with fail
 refine (HMV.out _ (hw.below hb6)).mono ?_
 rintro e v7 ⟨rfl,h7⟩
 have hb7:=hb6.trans (h7.mono hb6.size)
 replace HD:=hid (HD.out.below h7)
 replace HY:=hid ((h7.block _ (lt_of_blk HY.out)).trans HY.out)
 replace HP:=hid (HP.out.below h7)
 replace HX:=hid (HX.out.below h7)
 replace HC:=hid ((h7.block _ (lt_of_blk HC.out)).trans HC.out)
 clear c0 c1 c2 c3 c4 c5
 generalize hga:tx la=ga at *
 generalize hgb:tx lb=gb at *
 generalize hgc:tx lc=gc at *
 have HG:=hid (And.intro hga (And.intro hgb hgc))
 clear hga hgb hgc
 go_upto_region 11 with fail
 obtain ⟨wV,hwV⟩ : ∃ wV,wV=v7.alloc (Obj.cells #[.string ga,.string gb,.string gc] 86):=⟨_,rfl⟩
 obtain ⟨wL,hwL⟩ : ∃ wL,wL=wV.alloc (Obj.cells #[.string ga,.string gb,.string gc] 64):=⟨_,rfl⟩
 rw [hwV] at hwL
 obtain ⟨hN,_,hxL⟩:=box_pair hwL
 have hsV:(v7.alloc (Obj.cells #[.string ga,.string gb,.string gc] 86)).heap.size=v7.heap.size+1:=by simp
 have hbL:=hb7.trans (hN.mono hb7.size)
 have HL:=hid hxL
 replace HD:=hid (HD.out.below hN)
 replace HY:=hid ((hN.block _ (lt_of_blk HY.out)).trans HY.out)
 replace HP:=hid (HP.out.below hN)
 replace HX:=hid (HX.out.below hN)
 replace HC:=hid ((hN.block _ (lt_of_blk HC.out)).trans HC.out)
 rw [←hwL]
 clear hwL hwV hxL hsV
 obtain ⟨t0,t1,t2⟩:=three_cells HL.out
 by_cases h0:la=0∧lb=0
 ·have hcb:=fun w' (hg:Good w') hp=>pg_clip_bad (.slice pp P.length cc) P HDR.out.poly (by omega) HDR.out.ok (tx la) (tx lb) (tx lc) ⟨Nat.le_trans HXO.out.1.1.sz (by decide),Nat.le_trans HXO.out.2.1.1.sz (by decide),Nat.le_trans HXO.out.2.2.1.sz (by decide)⟩ (by rw [err_zero HXO.out.1.1 HXO.out.2.1.1 HXO.out.2.2.1 h0];decide) w' hg hp
  rw [err_zero HXO.out.1.1 HXO.out.2.1.1 HXO.out.2.2.1 h0,HG.out.1,HG.out.2.1,HG.out.2.2] at hcb
  have HCB:=hid hcb
  unfold RV lnV at HCB
  clear hcb h0
  go_wp2_with fail
  refine (HCB.out _ (hw.below hbL) HP.out).mono ?_
  rintro e v8 ⟨rfl,h8⟩
  have hb8:=hbL.trans (h8.mono hbL.size)
  replace HD:=hid (HD.out.below h8)
  replace HY:=hid ((h8.block _ (lt_of_blk HY.out)).trans HY.out)
  replace HP:=hid (HP.out.below h8)
  replace HX:=hid (HX.out.below h8)
  replace HC:=hid ((h8.block _ (lt_of_blk HC.out)).trans HC.out)
  go_wp2
  go_ret
  exact ⟨rfl,hb8⟩
 ·have hl:LineOk la lb lc:=⟨HXO.out.1.1,HXO.out.2.1.1,HXO.out.2.2.1,by rcases Decidable.not_and_iff_or_not.1 h0 with h | h;exact .inl h;exact .inr h⟩
  have hco:=HDR.out.clip HXO.out.1.2 HXO.out.2.1.2 HXO.out.2.2.2 (f:=valP la lb lc) (fun _=>rfl)
  have hcp:=fun w' (hg:Good w') hp=>(pg_Clip (.slice pp P.length cc) P HDR.out.poly (by omega) HDR.out.ok la lb lc hl (fun q hq=>okq_of (hco q hq)) w' hg hp).mono fun _ _=>ClipPost.x
  rw [HG.out.1,HG.out.2.1,HG.out.2.2] at hcp
  have HCP:=hid hcp
  have HCO:=hid hco
  have HLI:=hid (HDR.out.line hl)
  unfold ClipPostX lnV at HCP
  clear hcp hco hl h0
  go_wp2_with fail
  refine (HCP.out _ (hw.below hbL) HP.out).mono ?_
  rintro e v8 ⟨Y,r2,rfl,hY,hpY,h8⟩
  have hb8:=hbL.trans (h8.mono hbL.size)
  replace HD:=hid (HD.out.below h8)
  replace HY:=hid ((h8.block _ (lt_of_blk HY.out)).trans HY.out)
  replace HP:=hid (HP.out.below h8)
  replace HX:=hid (HX.out.below h8)
  replace HC:=hid ((h8.block _ (lt_of_blk HC.out)).trans HC.out)
  have HIN:=hid (hY.inside HLI.out)
  have HYO:=hid (fun q hq=>HCO.out q (hY.mem q hq))
  have hyl:=(hY.len HLI.out).2
  obtain ⟨py,cy,rfl,_,_⟩:=hpY.slice
  have HPY:=hid hpY
  obtain ⟨wz,hwz⟩ : ∃ q,q=v8:=⟨_,rfl⟩
  subst hwz
  clear hY hpY t0 t1 t2
  go_wp2_with fail
  go_loopw [4,17] (fun rv iv wr=>∃ k:Nat,rv=.bool false∧iv=.int .i64 (k:Int)∧k≤Y.length∧Below wz.heap.size wz wr) (fun _ iv _=>Y.length-(intOf iv).toNat)
  case atStart=>exact ⟨0,rfl,rfl,Nat.zero_le _,Below.refl _ _⟩
  case round =>
   obtain ⟨k,rfl,rfl,hkl,hbrz⟩:=hrel
   have hbR:=hb8.trans (hbrz.mono hb8.size)
   by_cases hk:k<Y.length
   ·have hkn:decide ((k:Int)<(Y.length:Int))=true:=decide_eq_true (by omega)
    have i1:(0:Int)≤(k:Int):=by omega
    have i2:(k:Int)<(Y.length:Int):=by omega
    have HPr:=hid (HPY.out.below hbrz)
    have HQr:=hid (HP.out.below hbrz)
    obtain ⟨B,off,rfl,hbl,hcell⟩:=Pts.cells HPr.out (by omega)
    obtain ⟨c0,c1'⟩:=hcell k hk
    have hin:=HIN.out _ (pt_mem hk)
    have H1:=hid (HWQ.out _ (HYO.out _ (pt_mem hk)))
    have m1:decide (whereP P (pt Y k)<0)=false:=decide_eq_false (by omega)
    clear hcell hin
    generalize tx (pt Y k).1=p1 at *
    generalize tx (pt Y k).2=p2 at *
    generalize whereP P (pt Y k)=m at *
    go_wp2_with fail
    refine (H1.out _ (hw.below hbR) HQr.out).mono ?_
    rintro e w5 ⟨rfl,h5⟩
    go_wp2
    refine ⟨⟨k+1,rfl,int_succ k,hk,hbrz.trans (h5.mono hbrz.size)⟩,?_⟩
    show Y.length-((k:Int)+1).toNat<Y.length-((k:Int)).toNat
    omega
   ·have hkn:decide ((k:Int)<(Y.length:Int))=false:=decide_eq_false (by omega)
    go_wp2
    go_ret
    exact ⟨rfl,hbR⟩
theorem law_PolygonLaws (v:Value) (D:List Plc) (x:Plc) (hx:okPlc x) (w:World) (hw:Good w) (hv:Dft w v D):Calls Tryz.prog 10 #[v,.agg (plcC x)] w (RV (.bool true) w):=by
 by_cases h8:D.length≤8
 ·exact laws_in v D x hx w hw hv h8
 ·exact laws_out v D x hx w hw hv h8
end Go.Proofs.YtgohnjdgoglcfaaGreatDoor
