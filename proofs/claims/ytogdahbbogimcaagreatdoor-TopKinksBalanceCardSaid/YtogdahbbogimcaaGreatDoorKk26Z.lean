import Derived.Test.YtogdahbbogimcaaGreatDoorKk24Z
import Derived.Test.YtogdahbbogimcaaGreatDoorKk19Z
import Derived.Test.YtogdahbbogimcaaGreatDoorStillZ
set_option maxRecDepth 100000
set_option maxHeartbeats 8000000
namespace Go.Proofs.YtogdahbbogimcaaGreatDoor
open Go.Lib (decDigits itoa nDigits)
def kS:QP:=(0,0)
def kD:List (Rat × Rat):=[(1/2,5),(-1/2,5)]
theorem k_plan:Plan kS kD where
 s1:=Fq.int (a:=0) (by decide)
 s2:=Fq.int (a:=0) (by decide)
 d:=fun x hx=>by
  unfold kD at hx
  simp only [List.mem_cons,List.not_mem_nil,or_false] at hx
  rcases hx with rfl | rfl
  ·exact ⟨⟨3,by decide,by decide,by decide +kernel⟩,5,by decide,by decide,by decide +kernel⟩
  ·exact ⟨⟨-3,by decide,by decide,by decide +kernel⟩,5,by decide,by decide,by decide +kernel⟩
 n:=by decide
 ne:=by decide
theorem tx_mhalf:tx (-1/2)=⟨#[45,49,47,50]⟩:=by
 have h:rtext (-1/2)=45 :: rtext (1/2):=by
  rw [show (-1/2:Rat) = -(1/2) by decide +kernel]
  exact rtext_neg (by decide +kernel) (by decide +kernel)
 rw [text1_2] at h
 exact tx_of h
theorem tx_3_5:tx (3/5)=⟨#[51,47,53]⟩:=tx_of (by
 rw [rtext_of (n:=((3:Nat):Int)) (d:=5) (by decide +kernel) (by decide +kernel),rjoin_small (by decide) (by decide)];decide)
theorem tx_4_5:tx (4/5)=⟨#[52,47,53]⟩:=tx_of (by
 rw [rtext_of (n:=((4:Nat):Int)) (d:=5) (by decide +kernel) (by decide +kernel),rjoin_small (by decide) (by decide)];decide)
theorem tx_5_3:tx (5/3)=⟨#[53,47,51]⟩:=tx_of (by
 rw [rtext_of (n:=((5:Nat):Int)) (d:=3) (by decide +kernel) (by decide +kernel),rjoin_small (by decide) (by decide)];decide)
theorem rjoin_21 {n d:Nat} (h1:10≤n) (h2:n<100) (h3:d<10) (h4:d≠1):rjoin (n:Int) d=[UInt8.ofNat (48+n/10),UInt8.ofNat (48+n % 10),47,UInt8.ofNat (48+d)]:=by
 unfold rjoin
 rw [if_neg h4,itoa_nat,decDigits_big h1,decDigits_small (show n/10<10 by omega),decDigits_small h3]
 rfl
theorem text15_4:rtext (15/4)=[49,53,47,52]:=by
 rw [rtext_of (n:=((15:Nat):Int)) (d:=4) (by decide +kernel) (by decide +kernel),rjoin_21 (by decide) (by decide) (by decide) (by decide)];decide
theorem tx_15_4:tx (-15/4)=⟨#[45,49,53,47,52]⟩:=by
 have h:rtext (-15/4)=45 :: rtext (15/4):=by
  rw [show (-15/4:Rat) = -(15/4) by decide +kernel]
  exact rtext_neg (by decide +kernel) (by decide +kernel)
 rw [text15_4] at h
 exact tx_of h
theorem tx_42:tx 42=⟨#[52,50]⟩:=tx_of (by
 rw [rtext_of (n:=((42:Nat):Int)) (d:=1) (by decide +kernel) (by decide +kernel),rjoin_two (by decide) (by decide)];decide)
theorem tx_17_3:tx (17/3)=⟨#[49,55,47,51]⟩:=tx_of (by
 rw [rtext_of (n:=((17:Nat):Int)) (d:=3) (by decide +kernel) (by decide +kernel),rjoin_21 (by decide) (by decide) (by decide) (by decide)];decide)
theorem tx_19_3:tx (19/3)=⟨#[49,57,47,51]⟩:=tx_of (by
 rw [rtext_of (n:=((19:Nat):Int)) (d:=3) (by decide +kernel) (by decide +kernel),rjoin_21 (by decide) (by decide) (by decide) (by decide)];decide)
theorem k_dir:dirQ (1/2)=(3/5,4/5):=by decide +kernel
theorem k_at1:atK kS kD 1=(3,4):=by decide +kernel
theorem k_ax1:axK kD 1=(0,5/3):=by decide +kernel
theorem k_g0:gK kD 0=4/3:=by decide +kernel
theorem k_g1:gK kD 1=4/3:=by decide +kernel
theorem k_area:areaQ kD 0 3=42:=by decide +kernel
theorem k_w0:withinB kD 0=true:=by decide +kernel
theorem k_w3:withinB kD 3=true:=by decide +kernel
theorem k_hu:hU kS kD (3,17/3) 0=1:=by decide +kernel
theorem k_xu:xU kS kD (3,17/3) 0=19/3:=by decide +kernel
theorem k_hit:hitU kS kD (3,17/3) 0:=by
 unfold hitU
 rw [k_hu,k_xu]
 exact ⟨by decide +kernel,by decide +kernel,by decide +kernel⟩
theorem k_out:outU kS kD (3,17/3) 0=(19/3,1):=by
 unfold outU
 rw [k_hu,k_xu,List.take_zero]
 decide +kernel
open Go.RowKit Go.Shelf
open Go.Lib (hid)
theorem law40_example (w:World) (hw:Good w):Calls Tryz.prog 39 #[] w (MakePost kS kD w):=by
 have HAT:=hid (fun (W:World) (hg:Good W)=>show Calls Tryz.prog 15 #[.int .i64 0,.int .i64 0] W (RV (.agg #[.string (tx 0),.string (tx 0)]) W) from vec_At 0 0 (by decide) (by decide) (by decide) (by decide) W hg)
 unfold RV at HAT
 rw [tx0] at HAT
 obtain ⟨wA,hwA⟩ : ∃ wA,wA=w.alloc (Obj.cells #[.string ⟨#[]⟩,.string ⟨#[]⟩,.slice none 0 0,.slice none 0 0] 33):=⟨_,rfl⟩
 have hbA:Below w.heap.size w wA:=by rw [hwA];exact alloc_below _ _
 have hxA:wA.heap[w.heap.size]?=some (.cells #[.string ⟨#[]⟩,.string ⟨#[]⟩,.slice none 0 0,.slice none 0 0] 33 (0,0)):=by rw [hwA];exact World.alloc_heap_new _ _
 have XA:=hid hxA
 have HWA:=hid hwA
 clear hwA hxA
 go_enter Tryz.func39,Tryz.ntmps39
 go_wp2_with fail
 rw [←HWA.out]
 refine (HAT.out _ (hw.below hbA)).mono ?_
 rintro e w1 ⟨rfl,hb1⟩
 have hx1:=(hb1.block _ (lt_of_some XA.out)).trans XA.out
 have hbw:=hbA.trans (hb1.mono hbA.size)
 obtain ⟨wG,hwG⟩ : ∃ wG,wG=(((w1.setCell ⟨w.heap.size,0,none⟩ (.string ⟨#[48]⟩)).setCell ⟨w.heap.size,1,none⟩ (.string ⟨#[48]⟩)).setCell ⟨w.heap.size,2,none⟩ (.slice (some ⟨w1.heap.size,0,none⟩) 2 2)).setCell ⟨w.heap.size,3,none⟩ (.slice (some ⟨w1.heap.size+1,0,none⟩) 2 2):=⟨_,rfl⟩
 obtain ⟨hG,hGo,hGb⟩:=four_set hx1 hwG
 have hsG:wG.heap.size=w1.heap.size:=by rw [hwG];simp
 obtain ⟨wF,hwF⟩ : ∃ wF,wF=(wG.alloc (Obj.cells #[.string ⟨#[49,47,50]⟩,.string ⟨#[45,49,47,50]⟩] 28)).alloc (Obj.cells #[.string ⟨#[53]⟩,.string ⟨#[53]⟩] 28):=⟨_,rfl⟩
 have hbF:Below wG.heap.size wG wF:=by rw [hwF];exact (alloc_below _ _).trans ((alloc_below _ _).mono (by simp))
 have hlt:=lt_of_some hx1
 have HF:=hid ((hbF.block _ (by omega)).trans hG)
 have hU0:Txs (wG.alloc (Obj.cells #[.string ⟨#[49,47,50]⟩,.string ⟨#[45,49,47,50]⟩] 28)) (.slice (some ⟨w1.heap.size,0,none⟩) 2 2) [1/2,-1/2]:=by
  rw [←tx_half,←tx_mhalf,←hsG]
  exact txs_two _ _ wG
 have hU1:Txs wF (.slice (some ⟨w1.heap.size+1,0,none⟩) 2 2) [5,5]:=by
  rw [hwF,←tx_5]
  have:=txs_two 5 5 (wG.alloc (Obj.cells #[.string ⟨#[49,47,50]⟩,.string ⟨#[45,49,47,50]⟩] 28))
  rwa [World.size_alloc,hsG] at this
 have HT0:=hid (show Txs wF (.slice (some ⟨w1.heap.size,0,none⟩) 2 2) (kD.map (·.1)) from hU0.below (by rw [hwF];exact alloc_below _ _))
 have HT1:=hid (show Txs wF (.slice (some ⟨w1.heap.size+1,0,none⟩) 2 2) (kD.map (·.2)) from hU1)
 have hbG:=hbw.trans (hGb _ (Nat.le_refl _))
 have HFB:=hid (hbG.trans (hbF.mono hbG.size))
 rw [hwG] at hwF
 have HFW:=hid hwF
 obtain ⟨r0,r1,r2,r3⟩:=four_cells hx1
 obtain ⟨f0,f1,f2,f3⟩:=four_free hx1
 clear hwF hwG hG hGo hGb hsG hbF hU0 hU1 hbG hx1
 go_wp2_with fail
 rw [←HFW.out]
 have q:=HF.out
 obtain ⟨q0,q1,q2,q3⟩:=four_cells q
 refine bodyPost_ret (v:=.agg #[.string ⟨#[48]⟩,.string ⟨#[48]⟩,.slice (some ⟨w1.heap.size,0,none⟩) 2 2,.slice (some ⟨w1.heap.size+1,0,none⟩) 2 2]) (by simp [results,Tryz.results39,go_sem,q0,q1,q2,q3]) rfl ⟨_,_,?_,HT0.out,HT1.out,HFB.out⟩
 unfold profV kS
 rw [tx0]
theorem k_reach_num:-(5:Rat)*(4/3:Rat)⁻¹ = -15/4:=by decide +kernel
theorem law40_known (w:World) (hw:Good w):Calls Tryz.prog 14 #[] w (RV (.bool true) w):=by
 have hP:=k_plan.ok
 have hI:=k_plan.in
 have HEX:=hid (fun (W:World) (hg:Good W)=>law40_example W hg)
 have HDI:=hid (fun (W:World) (hg:Good W)=>show Calls Tryz.prog 40 #[.string ⟨#[49,47,50]⟩] W (RV (.tuple #[.agg #[.string ⟨#[51,47,53]⟩,.string ⟨#[52,47,53]⟩],.int .i64 0]) W) by
  have:=kink_Direction (1/2) (okB_of (N:=1) (D:=2) (by decide +kernel) (by decide) (by decide)) (by rw [k_dir];exact okB_of (N:=3) (D:=5) (by decide +kernel) (by decide) (by decide)) (by rw [k_dir];exact okB_of (N:=4) (D:=5) (by decide +kernel) (by decide) (by decide)) W hg
  rw [k_dir] at this
  unfold ptV at this
  rw [tx_half,tx_3_5,tx_4_5] at this
  exact this)
 have HAX:=hid (fun (vd vl:Value) (W:World) (hg:Good W) (h1:Txs W vd (kD.map (·.1))) (h2:Txs W vl (kD.map (·.2)))=>kink_Axes kS kD hP hI rfl (by
  rw [k_at1,k_ax1]
  exact ⟨okB_of (N:=3) (D:=1) (by decide +kernel) (by decide) (by decide),okB_of (N:=4) (D:=1) (by decide +kernel) (by decide) (by decide),okB_of (N:=0) (D:=1) (by decide +kernel) (by decide) (by decide),okB_of (N:=5) (D:=3) (by decide +kernel) (by decide) (by decide)⟩) vd vl W hg h1 h2)
 have HRE:=hid (fun (vd vl:Value) (W:World) (hg:Good W) (h1:Txs W vd (kD.map (·.1))) (h2:Txs W vl (kD.map (·.2)))=>show Calls Tryz.prog 42 #[profV kS vd vl] W (RV (.tuple #[.string ⟨#[45,49,53,47,52]⟩,.string ⟨#[]⟩,.int .i64 0]) W) by
  have:=kink_Reach kS kD hP hI rfl (4/3) 5 k_g0 k_g1 rfl rfl (by decide +kernel) (by rw [k_reach_num];exact okB_of (N:=15) (D:=4) (by decide +kernel) (by decide) (by decide)) vd vl W hg h1 h2
  rw [k_reach_num,tx_15_4] at this
  exact this)
 have HAR:=hid (fun (vd vl:Value) (W:World) (hg:Good W) (h1:Txs W vd (kD.map (·.1))) (h2:Txs W vl (kD.map (·.2)))=>show Calls Tryz.prog 8 #[profV kS vd vl,.string ⟨#[48]⟩,.string ⟨#[51]⟩] W (RV (.tuple #[.string ⟨#[52,50]⟩,.int .i64 0]) W) by
  have:=kink_Area kS kD hP hI (by decide) vd vl 0 3 (okB_of (N:=0) (D:=1) (by decide +kernel) (by decide) (by decide)) (okB_of (N:=3) (D:=1) (by decide +kernel) (by decide) (by decide)) k_w0 k_w3 (by decide +kernel) (by rw [k_area];exact okB_of (N:=42) (D:=1) (by decide +kernel) (by decide) (by decide)) W hg h1 h2
  rw [k_area,tx_42,tx0,tx_3] at this
  exact this)
 have HUN:=hid (fun (vd vl:Value) (W:World) (hg:Good W) (h1:Txs W vd (kD.map (·.1))) (h2:Txs W vl (kD.map (·.2)))=>show Calls Tryz.prog 43 #[profV kS vd vl,.agg #[.string ⟨#[51]⟩,.string ⟨#[49,55,47,51]⟩]] W (RV (.tuple #[.agg #[.string ⟨#[49,57,47,51]⟩,.string ⟨#[49]⟩],.bool true,.int .i64 0]) W) by
  have:=callsIn_wide.1 (kink_Unfold kS kD hP hI hI.noDiv (3,17/3) (okB_of (N:=3) (D:=1) (by decide +kernel) (by decide) (by decide)) (okB_of (N:=17) (D:=3) (by decide +kernel) (by decide) (by decide)) 0 (by decide) k_hit (fun j hj=>absurd hj (Nat.not_lt_zero _)) (by rw [k_out];exact okB_of (N:=19) (D:=3) (by decide +kernel) (by decide) (by decide)) (by rw [k_out];exact okB_of (N:=1) (D:=1) (by decide +kernel) (by decide) (by decide)) vd vl W hg h1 h2)
  rw [k_out] at this
  unfold ptV at this
  rw [tx_3,tx_17_3,tx_19_3,tx1] at this
  exact this)
 have HAT:=hid (fun (W:World) (hg:Good W)=>show Calls Tryz.prog 15 #[.int .i64 3,.int .i64 4] W (RV (.agg #[.string ⟨#[51]⟩,.string ⟨#[52]⟩]) W) by
  have:=vec_At 3 4 (by decide) (by decide) (by decide) (by decide) W hg
  rw [show ptV (((3:Int):Rat),((4:Int):Rat))=.agg #[.string (tx 3),.string (tx 4)] from rfl,tx_3,tx_4] at this
  exact this)
 have HAC:=hid (show axC kS kD 1=[.string ⟨#[51]⟩,.string ⟨#[52]⟩,.string ⟨#[48]⟩,.string ⟨#[53,47,51]⟩] by
  unfold axC
  rw [k_at1,k_ax1]
  show [Value.string (tx 3),.string (tx 4),.string (tx 0),.string (tx (5/3))]=_
  rw [tx_3,tx_4,tx0,tx_5_3])
 unfold RV at HDI HRE HAR HUN HAT
 unfold MakePost at HEX
 unfold profV at HEX HAX HRE HAR HUN
 clear hP hI
 go_enter Tryz.func14,Tryz.ntmps14
 go_wp2_with fail
 refine (HEX.out w hw).mono ?_
 rintro e w1 ⟨vd,vl,rfl,hvd,hvl,hb1⟩
 have HVD:=hid hvd
 have HVL:=hid hvl
 obtain ⟨bd,cd,hvd',-,-,-,-⟩:=hvd
 obtain ⟨bl,cl,hvl',-,-,-,-⟩:=hvl
 rw [show (kD.map (·.1)).length=2 from rfl] at hvd'
 rw [show (kD.map (·.2)).length=2 from rfl] at hvl'
 subst hvd'
 subst hvl'
 go_wp2_with fail
 obtain ⟨wA,hwA⟩ : ∃ wA,wA=w1.alloc (Obj.cells #[.string (tx kS.1),.string (tx kS.2),.slice (some ⟨bd,0,none⟩) 2 cd,.slice (some ⟨bl,0,none⟩) 2 cl] 33):=⟨_,rfl⟩
 have hbA:Below w1.heap.size w1 wA:=by rw [hwA];exact alloc_below _ _
 have hpA:wA.heap[w1.heap.size]?=some (.cells #[.string (tx kS.1),.string (tx kS.2),.slice (some ⟨bd,0,none⟩) 2 cd,.slice (some ⟨bl,0,none⟩) 2 cl] 33 (0,0)):=by rw [hwA];exact World.alloc_heap_new _ _
 rw [←hwA]
 have HPA:=hid hpA
 have hbwA:=hb1.trans (hbA.mono hb1.size)
 have HVDA:=hid (HVD.out.below hbA)
 have HVLA:=hid (HVL.out.below hbA)
 clear hwA hpA
 refine (HDI.out wA (hw.below hbwA)).mono ?_
 rintro e w2 ⟨rfl,hb2⟩
 have hp2:=(hb2.block _ (lt_of_some HPA.out)).trans HPA.out
 have lA:=lt_of_some hp2
 obtain ⟨e0,e1,e2,e3⟩:=four_cells hp2
 have HP2:=hid hp2
 clear hp2
 go_wp2_with fail
 obtain ⟨w3,hw3⟩ : ∃ w3,w3=w2.alloc (Obj.cells #[.string ⟨#[51,47,53]⟩,.string ⟨#[52,47,53]⟩] 30):=⟨_,rfl⟩
 have hb3:Below w2.heap.size w2 w3:=by rw [hw3];exact alloc_below _ _
 have hq3:w3.heap[w2.heap.size]?=some (.cells #[.string ⟨#[51,47,53]⟩,.string ⟨#[52,47,53]⟩] 30 (0,0)):=by rw [hw3];exact World.alloc_heap_new _ _
 rw [←hw3]
 have HQ3:=hid hq3
 clear hw3 hq3 e0 e1 e2 e3
 have hbA3:=hb2.trans (hb3.mono hb2.size)
 refine (HAX.out _ _ w3 (hw.below (hbwA.trans (hbA3.mono hbwA.size))) (HVDA.out.below hbA3) (HVLA.out.below hbA3)).mono ?_
 rintro e w4 ⟨ba,ca,rfl,hba,hax,hb4⟩
 have hbA4:=hbA3.trans (hb4.mono hbA3.size)
 have hp4:=(hbA4.block _ (lt_of_some HPA.out)).trans HPA.out
 obtain ⟨e0,e1,e2,e3⟩:=four_cells hp4
 have HAXC:=hid hax
 clear hp4 hax
 go_wp2_with fail
 refine (HRE.out _ _ w4 (hw.below (hbwA.trans (hbA4.mono hbwA.size))) (HVDA.out.below hbA4) (HVLA.out.below hbA4)).mono ?_
 rintro e w5 ⟨rfl,hb5⟩
 have hbA5:=hbA4.trans (hb5.mono hbA4.size)
 have hp5:=(hbA5.block _ (lt_of_some HPA.out)).trans HPA.out
 clear e0 e1 e2 e3
 obtain ⟨e0,e1,e2,e3⟩:=four_cells hp5
 clear hp5
 go_wp2_with fail
 refine (HAR.out _ _ w5 (hw.below (hbwA.trans (hbA5.mono hbwA.size))) (HVDA.out.below hbA5) (HVLA.out.below hbA5)).mono ?_
 rintro e w6 ⟨rfl,hb6⟩
 have hbA6:=hbA5.trans (hb6.mono hbA5.size)
 have hp6:=(hbA6.block _ (lt_of_some HPA.out)).trans HPA.out
 clear e0 e1 e2 e3
 obtain ⟨e0,e1,e2,e3⟩:=four_cells hp6
 clear hp6
 go_wp2_with fail
 refine (HUN.out _ _ w6 (hw.below (hbwA.trans (hbA6.mono hbwA.size))) (HVDA.out.below hbA6) (HVLA.out.below hbA6)).mono ?_
 rintro e w7 ⟨rfl,hb7⟩
 have hbA7:=hbA6.trans (hb7.mono hbA6.size)
 clear e0 e1 e2 e3
 have hs2:=hb2.size
 have hs3:=hb3.size
 have hs4:=hb4.size
 have hs5:=hb5.size
 have hs6:=hb6.size
 have hs7:=hb7.size
 have hl3:=lt_of_some HQ3.out
 have hb37:Below w3.heap.size w3 w7:=hb4.trans ((hb5.mono hs4).trans ((hb6.mono (by omega)).trans (hb7.mono (by omega))))
 have hb47:Below w4.heap.size w4 w7:=hb5.trans ((hb6.mono hs5).trans (hb7.mono (by omega)))
 go_wp2_with fail
 obtain ⟨w8,hw8⟩ : ∃ w8,w8=w7.alloc (Obj.cells #[.string ⟨#[49,57,47,51]⟩,.string ⟨#[49]⟩] 30):=⟨_,rfl⟩
 have hb8:Below w7.heap.size w7 w8:=by rw [hw8];exact alloc_below _ _
 have hq8:w8.heap[w7.heap.size]?=some (.cells #[.string ⟨#[49,57,47,51]⟩,.string ⟨#[49]⟩] 30 (0,0)):=by rw [hw8];exact World.alloc_heap_new _ _
 rw [←hw8]
 clear hw8
 have hs8:=hb8.size
 have hl8:=lt_of_some hq8
 obtain ⟨p0,p1,_,_⟩:=two_cells ((hb8.block _ (by omega)).trans ((hb37.block _ hl3).trans HQ3.out))
 obtain ⟨r0,r1,_,_⟩:=two_cells hq8
 have hb48:=hb47.trans (hb8.mono (by omega))
 have hax:∀ j (u:Value),(axC kS kD 1)[j]?=some u→w8.cell? ⟨ba,4+j,none⟩=some u:=fun j u hu=>(hb48.cell (p:=⟨ba,_,none⟩) hba).trans (HAXC.out j u hu)
 rw [HAC.out] at hax
 have x0:=hax 0 _ rfl
 have x1:=hax 1 _ rfl
 have x2:=hax 2 _ rfl
 have x3:=hax 3 _ rfl
 simp only [Nat.add_zero,Nat.reduceAdd] at x0 x1 x2 x3
 have l2:w2.heap.size<w8.heap.size:=by omega
 have l7:w7.heap.size<w8.heap.size:=by omega
 have lb:ba<w8.heap.size:=by omega
 have hb18:Below w1.heap.size w1 w8:=hbA.trans ((hbA7.trans (hb8.mono (by omega))).mono hbA.size)
 have hbw8:=hb1.trans (hb18.mono hb1.size)
 have HBW8:=hid hbw8
 clear hax hq8 hb48 hb47 hb37
 refine wp_held_two (fun W'=>Below w8.heap.size w8 W') [0,1,2,3,4,5,6,7,8,9,10,11,12,13,14,15,16,17,18,19,21] [20] [22,23,24,25,26,27,28,29,30,31,32,33,34,35,36,37,38,39,40,41,42,43,44,45,46,47,48,49,50,51,52,53,54,55,56] [] 57 (by kernel_rfl) (by kernel_rfl) ⟨rfl,rfl,rfl,Nat.le_refl _,fun _ _=>rfl⟩ ?_
 iterate 21
  refine wpTakeL_step rfl ?_ rfl ?_ ?_
  rotate_left
  ·intro W' hS'
   have q0:=(hS'.cell (p:=⟨w2.heap.size,0,none⟩) l2).trans p0
   have q1:=(hS'.cell (p:=⟨w2.heap.size,1,none⟩) l2).trans p1
   have q2:=(hS'.cell (p:=⟨w7.heap.size,0,none⟩) l7).trans r0
   have q3:=(hS'.cell (p:=⟨w7.heap.size,1,none⟩) l7).trans r1
   have q4:=(hS'.cell (p:=⟨ba,4,none⟩) lb).trans x0
   have q5:=(hS'.cell (p:=⟨ba,5,none⟩) lb).trans x1
   have q6:=(hS'.cell (p:=⟨ba,6,none⟩) lb).trans x2
   have q7:=(hS'.cell (p:=⟨ba,7,none⟩) lb).trans x3
   go_simp
   try with_reducible rfl
  try simp only [zA,zB,zC,Act.put,zD,zE,zF]
 have hH0:Below w8.heap.size w8 w8.drew:=⟨rfl,rfl,rfl,Nat.le_refl _,fun _ _=>rfl⟩
 refine wpKeepL_step rfl rfl (fun K hK=>?_)
 go_simp
 refine (HAT.out _ ((hw.below HBW8.out).below hH0)).mono ?_
 rintro e v1 ⟨rfl,hv1⟩
 have hH1:=hH0.trans (hv1.mono hH0.size)
 refine hK _ _ ⟨hH1,?_⟩
 clear hK K
 try simp only [zA,zB,zC,Act.put,zD,zE,zF]
 unfold wpKeepL
 iterate 35
  refine wpTakeL_step rfl ?_ rfl ?_ ?_
  rotate_left
  ·intro W' hS'
   have q0:=(hS'.cell (p:=⟨w2.heap.size,0,none⟩) l2).trans p0
   have q1:=(hS'.cell (p:=⟨w2.heap.size,1,none⟩) l2).trans p1
   have q2:=(hS'.cell (p:=⟨w7.heap.size,0,none⟩) l7).trans r0
   have q3:=(hS'.cell (p:=⟨w7.heap.size,1,none⟩) l7).trans r1
   have q4:=(hS'.cell (p:=⟨ba,4,none⟩) lb).trans x0
   have q5:=(hS'.cell (p:=⟨ba,5,none⟩) lb).trans x1
   have q6:=(hS'.cell (p:=⟨ba,6,none⟩) lb).trans x2
   have q7:=(hS'.cell (p:=⟨ba,7,none⟩) lb).trans x3
   go_simp
   try with_reducible rfl
  try simp only [zA,zB,zC,Act.put,zD,zE,zF]
 unfold wpTakeL wpKeepL
 simp only [List.drop_succ_cons,List.drop_zero]
 refine wpKeep_step rfl (fun K hK=>?_)
 go_simp
 refine hK _ _ ⟨trivial,wpKeep_nil ?_⟩
 clear hK K
 try simp only [zA,zB,zC,Act.put,zD,zE,zF]
 refine NormalOnly.mk ?_
 go_wp2
 go_ret
 exact ⟨rfl,HBW8.out.trans (hH1.mono HBW8.out.size)⟩
theorem law40_Known (w:World) (hw:Good w):Calls Tryz.prog 4 #[] w (RV (.bool true) w):=by
 have HK:=hid (fun (W:World) (hg:Good W)=>law40_known W hg)
 unfold RV at HK
 go_enter Tryz.func4,Tryz.ntmps4
 go_wp2_with fail
 refine (HK.out w hw).mono ?_
 rintro e w1 ⟨rfl,hb1⟩
 go_wp2
 go_ret
 exact ⟨rfl,hb1⟩
end Go.Proofs.YtogdahbbogimcaaGreatDoor
