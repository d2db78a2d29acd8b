import Derived.Test.YtogdahbbogimcaaGreatDoorTxZ
import Derived.Test.YtogdahbbogimcaaGreatDoorKk17Z
set_option maxRecDepth 100000
set_option maxHeartbeats 8000000
namespace Go.Proofs.YtogdahbbogimcaaGreatDoor
open Go.RowKit Go.Shelf
open Go.Lib (decDigits itoa nDigits)
open Go.Lib (hid)
theorem k_mid (p q:Rat) (hp:Sz 200000000 p) (hq:Sz 200000000 q) (w:World) (hw:Good w):Calls Tryz.prog 23 #[.string (tx p),.string (tx q)] w (RV (.string (tx ((p+q)*(1/2)))) w):=
 (rational_Middle (tx p) (tx q) p q (isR_mk p) (isR_mk q) hp hq w hw).mono fun e w' ⟨r,he,hr,hb⟩=>⟨by rw [he,hr.unique (isR_mk _)],hb⟩
def areaQ (D:List (Rat × Rat)) (a b:Rat):Rat:=(sumR (lgL D a)+sumR (lgL D b))*(1/2)*(b-a)
theorem kink_Area (s:QP) (D:List (Rat × Rat)) (hP:PrOk s D) (hI:PrIn D) (hn3:D.length≤2) (vd vl:Value) (a b:Rat) (ha:OkB a) (hb:OkB b) (hwa:withinB D a=true) (hwb:withinB D b=true) (hab:a<b) (hA:OkB (areaQ D a b)) (w:World) (hw:Good w) (hvd:Txs w vd (D.map (·.1))) (hvl:Txs w vl (D.map (·.2))) :
  Calls Tryz.prog 8 #[profV s vd vl,.string (tx a),.string (tx b)] w (RV (.tuple #[.string (tx (areaQ D a b)),.int .i64 0]) w):=by
 have za:Sz 3000000 a:=ha.sz.mono (by decide)
 have zb:Sz 3000000 b:=hb.sz.mono (by decide)
 have sz2:∀ {x:Rat},Sz 3000000 x→Sz 120000000 (sumR (lgL D x)):=fun {x} hx=>by
  have h1:=sum_size hP hx D.length
  rw [List.take_of_length_le (by unfold lgL;simp)] at h1
  exact h1.mono (by have:2 ^ D.length≤2 ^ 2:=Nat.pow_le_pow_right (by decide) hn3;omega)
 have HCH:=hid (fun (W:World) (vh:Value) (hg:Good W) (h1:Txs W vd (D.map (·.1))) (h2:Txs W vl (D.map (·.2))) (h3:Txs W vh [a,b])=>kink_checkHeights s D hP hI vd vl vh [a,b] (fun h hh=>by
  rcases List.mem_cons.1 hh with e | e
  ·rw [e];exact ⟨ha,hwa⟩
  ·rw [List.mem_singleton.1 e];exact ⟨hb,hwb⟩) (by simp) W hg h1 h2 h3)
 have HLE:=hid (fun (h:Rat) (hh:Sz 3000000 h) (W:World) (hg:Good W) (h1:Txs W vd (D.map (·.1))) (h2:Txs W vl (D.map (·.2)))=>kink_lengths s D hP hI.noDiv h hh vd vl W hg h1 h2)
 have HSU:=hid (fun (h:Rat) (hh:Sz 3000000 h) (W:World) (v:Value) (hg:Good W) (hv:Txs W v (lgL D h))=>rat_Sum v (lgL D h) (fun c hc=>by
   obtain ⟨i,hi,rfl⟩:=List.mem_iff_getElem.1 hc
   rw [lgL_get hi]
   exact (hP.lgz hh i).mono (by decide)) (fun i hi=>by
   have hl:(lgL D h).length=D.length:=by unfold lgL;simp
   exact (sum_sz5 hP hh (by omega)).mono (by decide)) W hg hv)
 have HMI:=hid (fun (W:World) (hg:Good W)=>k_mid (sumR (lgL D a)) (sumR (lgL D b)) ((sz2 za).mono (by decide)) ((sz2 zb).mono (by decide)) W hg)
 have HCM:=hid (fun (W:World) (hg:Good W)=>k_cmp a b (za.mono (by decide)) (zb.mono (by decide)) W hg)
 have HSB:=hid (fun (W:World) (hg:Good W)=>k_sub b a (zb.mono (by decide)) (za.mono (by decide)) W hg)
 have zm:Sz 500000000 ((sumR (lgL D a)+sumR (lgL D b))*(1/2)):=((((sz2 za).add (sz2 zb))).mul (show Sz 3 (1/2) by unfold Sz;decide +kernel)).mono (by decide)
 have HMU:=hid (fun (W:World) (hg:Good W)=>show Calls Tryz.prog 10 #[.string (tx ((sumR (lgL D a)+sumR (lgL D b))*(1/2))),.string (tx (b-a))] W (RV (.string (tx (areaQ D a b))) W) from
  k_mul _ _ (zm.mono (by decide)) ((zb.sub za).mono (by decide)) W hg)
 have HRE:=hid (fun (W:World) (hg:Good W)=>kink_result (areaQ D a b) hA W hg)
 have HCN:=hid (show decide (0≤cmpR a b)=false from decide_eq_false (by have:=cmpR_neg.2 hab;omega))
 unfold RV at HCH HSU HMI HCM HSB HMU HRE
 have HVD:=hid hvd
 have HVL:=hid hvl
 have HZA:=hid za
 have HZB:=hid zb
 obtain ⟨bd,cd,rfl,-,-,-,-⟩:=hvd
 obtain ⟨bl,cl,rfl,-,-,-,-⟩:=hvl
 have HL1:=hid (show (D.map (·.1)).length=D.length from List.length_map _)
 have HL2:=hid (show (D.map (·.2)).length=D.length from List.length_map _)
 rw [HL1.out,HL2.out] at HCH HLE
 rw [HL1.out] at HVD
 rw [HL2.out] at HVL
 rw [HL1.out,HL2.out]
 obtain ⟨wA,hwA⟩ : ∃ wA,wA=w.alloc (profO s (.slice (some ⟨bd,0,none⟩) D.length cd) (.slice (some ⟨bl,0,none⟩) D.length cl)):=⟨_,rfl⟩
 obtain ⟨wB,hwB⟩ : ∃ wB,wB=wA.alloc (Obj.cells #[.string (tx a),.string (tx b)] 28):=⟨_,rfl⟩
 have hbA:Below w.heap.size w wA:=by rw [hwA];exact alloc_below _ _
 have hbB:Below wA.heap.size wA wB:=by rw [hwB];exact alloc_below _ _
 have hpA:wA.heap[w.heap.size]?=some (profO s (.slice (some ⟨bd,0,none⟩) D.length cd) (.slice (some ⟨bl,0,none⟩) D.length cl)):=by rw [hwA];exact World.alloc_heap_new _ _
 have HPB:=hid ((hbB.block _ (lt_of_some hpA)).trans hpA)
 have hsA:wA.heap.size=w.heap.size+1:=by rw [hwA];simp
 have HTW:=hid (show Txs wB (.slice (some ⟨w.heap.size+1,0,none⟩) 2 2) [a,b] by rw [hwB,←hsA];exact txs_two a b wA)
 have hbw:=hbA.trans (hbB.mono hbA.size)
 rw [hwA] at hwB
 have HWB:=hid hwB
 unfold profV profO at *
 generalize cmpR a b=cm at *
 have hcn:=HCN.out
 clear hwA hwB hP hI hpA hsA ha hb hwa hwb hab hA za zb zm sz2 hbA hbB
 go_enter Tryz.func8,Tryz.ntmps8
 go_wp2_with fail
 rw [←HWB.out]
 refine (HCH.out wB _ (hw.below hbw) (HVD.out.below hbw) (HVL.out.below hbw) HTW.out).mono ?_
 rintro e w1 ⟨rfl,hb1⟩
 have hb01:=hbw.trans (hb1.mono hbw.size)
 have HP1:=hid ((hb1.block _ (lt_of_some HPB.out)).trans HPB.out)
 clear HWB
 go_wp2_with fail
 refine (HCM.out w1 (hw.below hb01)).mono ?_
 rintro e w2 ⟨rfl,hb2⟩
 have hb02:=hb01.trans (hb2.mono hb01.size)
 have HP2:=hid ((hb2.block _ (lt_of_some HP1.out)).trans HP1.out)
 obtain ⟨e0,e1,e2,e3⟩:=prof_cells HP2.out
 have lp:=lt_of_some HP2.out
 go_wp2_with fail
 refine wp_held_list (fun W'=>Below w2.heap.size w2 W') [0,1,4,5] [2,3,6,7,8] 9 (by kernel_rfl) (by kernel_rfl) ⟨rfl,rfl,rfl,Nat.le_refl _,fun _ _=>rfl⟩ ?_
 iterate 4
  refine wpTakeL_step rfl ?_ rfl ?_ ?_
  rotate_left
  ·intro W' hS'
   have s4:=(hS'.cell (p:=⟨w.heap.size,0,none⟩) lp).trans e0
   have s5:=(hS'.cell (p:=⟨w.heap.size,1,none⟩) lp).trans e1
   have s6:=(hS'.cell (p:=⟨w.heap.size,2,none⟩) lp).trans e2
   have s7:=(hS'.cell (p:=⟨w.heap.size,3,none⟩) lp).trans e3
   go_simp
   try with_reducible rfl
  try simp only [zA,zB,zC,Act.put,zD,zE,zF]
 have hH0:Below w2.heap.size w2 w2.drew:=⟨rfl,rfl,rfl,Nat.le_refl _,fun _ _=>rfl⟩
 have G:∀ {W':World},Below w2.heap.size w2 W'→Below w.heap.size w W':=fun h=>hb02.trans (h.mono hb02.size)
 refine wpKeepL_step rfl rfl (fun K hK=>?_)
 go_simp
 refine (HLE.out a HZA.out _ (hw.below (G hH0)) (HVD.out.below (G hH0)) (HVL.out.below (G hH0))).mono ?_
 rintro e v1 ⟨u1,rfl,hu1,-,hv1⟩
 have hH1:=hH0.trans (hv1.mono hH0.size)
 refine hK _ _ ⟨hH1,?_⟩
 clear hK K
 try simp only [zA,zB,zC,Act.put,zD,zE,zF]
 refine wpKeepL_step rfl rfl (fun K hK=>?_)
 go_simp
 refine (HSU.out a HZA.out v1 u1 (hw.below (G hH1)) hu1).mono ?_
 rintro e v2 ⟨rfl,hv2⟩
 have hH2:=hH1.trans (hv2.mono hH1.size)
 refine hK _ _ ⟨hH2,?_⟩
 clear hK K
 try simp only [zA,zB,zC,Act.put,zD,zE,zF]
 refine wpKeepL_step rfl rfl (fun K hK=>?_)
 go_simp
 refine (HLE.out b HZB.out _ (hw.below (G hH2)) (HVD.out.below (G hH2)) (HVL.out.below (G hH2))).mono ?_
 rintro e v3 ⟨u3,rfl,hu3,-,hv3⟩
 have hH3:=hH2.trans (hv3.mono hH2.size)
 refine hK _ _ ⟨hH3,?_⟩
 clear hK K
 try simp only [zA,zB,zC,Act.put,zD,zE,zF]
 refine wpKeepL_step rfl rfl (fun K hK=>?_)
 go_simp
 refine (HSU.out b HZB.out v3 u3 (hw.below (G hH3)) hu3).mono ?_
 rintro e v4 ⟨rfl,hv4⟩
 have hH4:=hH3.trans (hv4.mono hH3.size)
 refine hK _ _ ⟨hH4,?_⟩
 clear hK K
 try simp only [zA,zB,zC,Act.put,zD,zE,zF]
 refine wpKeepL_step rfl rfl (fun K hK=>?_)
 go_simp
 refine (HMI.out v4 (hw.below (G hH4))).mono ?_
 rintro e v5 ⟨rfl,hv5⟩
 have hH5:=hH4.trans (hv5.mono hH4.size)
 refine hK _ _ ⟨hH5,?_⟩
 clear hK K
 try simp only [zA,zB,zC,Act.put,zD,zE,zF]
 unfold wpKeepL
 simp only [List.drop_succ_cons,List.drop_zero]
 refine wpKeep_step rfl (fun K hK=>?_)
 go_simp
 refine hK _ _ ⟨trivial,wpKeep_nil ?_⟩
 clear hK K
 try simp only [zA,zB,zC,Act.put,zD,zE,zF]
 refine NormalOnly.mk ?_
 clear e0 e1 e2 e3
 go_wp2_with fail
 refine (HSB.out v5 (hw.below (G hH5))).mono ?_
 rintro e v6 ⟨rfl,hv6⟩
 have hH6:=hH5.trans (hv6.mono hH5.size)
 go_wp2_with fail
 refine (HMU.out v6 (hw.below (G hH6))).mono ?_
 rintro e v7 ⟨rfl,hv7⟩
 have hH7:=hH6.trans (hv7.mono hH6.size)
 go_wp2_with fail
 refine (HRE.out v7 (hw.below (G hH7))).mono ?_
 rintro e v8 ⟨rfl,hv8⟩
 have hH8:=hH7.trans (hv8.mono hH7.size)
 go_wp2
 go_ret2
 exact ⟨rfl,G hH8⟩
theorem kink_Axes (s:QP) (D:List (Rat × Rat)) (hP:PrOk s D) (hI:PrIn D) (h2:D.length=2) (ho:OkB (atK s D 1).1∧OkB (atK s D 1).2∧OkB (axK D 1).1∧OkB (axK D 1).2) (vd vl:Value) (w:World) (hw:Good w) (hvd:Txs w vd (D.map (·.1))) (hvl:Txs w vl (D.map (·.2))) :
  Calls Tryz.prog 41 #[profV s vd vl] w fun e w'=>∃ b c,e=.returned (.tuple #[.slice (some ⟨b,4,none⟩) 1 c,.int .i64 0])∧b<w'.heap.size∧(∀ j (u:Value),(axC s D 1)[j]?=some u→w'.cell? ⟨b,4+j,none⟩=some u)∧Below w.heap.size w w':=by
 have HCK:=hid (fun (W:World) (hg:Good W) (h1:Txs W vd (D.map (·.1))) (h2:Txs W vl (D.map (·.2)))=>kink_Check s D hP hI vd vl W hg h1 h2)
 have HEN:=hid (fun (W:World) (hg:Good W) (h1:Txs W vd (D.map (·.1))) (h2:Txs W vl (D.map (·.2)))=>callsIn_wide.1 (kink_ends s D hP hI.noDiv vd vl W hg h1 h2))
 have HC1:=hid (fun (W:World) (hg:Good W)=>vec_CheckPoint (atK s D 1) ho.1 ho.2.1 W hg)
 have HC2:=hid (fun (W:World) (hg:Good W)=>vec_CheckPoint (axK D 1) ho.2.2.1 ho.2.2.2 W hg)
 unfold RV at HCK HC1 HC2
 unfold ptV at HC1 HC2
 have HVD:=hid hvd
 have HVL:=hid hvl
 obtain ⟨bd,cd,rfl,-,-,-,-⟩:=hvd
 obtain ⟨bl,cl,rfl,-,-,-,-⟩:=hvl
 have HL1:=hid (show (D.map (·.1)).length=D.length from List.length_map _)
 have HL2:=hid (show (D.map (·.2)).length=D.length from List.length_map _)
 rw [HL1.out,HL2.out] at HCK HEN
 rw [HL1.out] at HVD
 rw [HL2.out] at HVL
 rw [HL1.out,HL2.out]
 obtain ⟨wA,hwA⟩ : ∃ wA,wA=w.alloc (profO s (.slice (some ⟨bd,0,none⟩) D.length cd) (.slice (some ⟨bl,0,none⟩) D.length cl)):=⟨_,rfl⟩
 have HWA:=hid hwA
 have hbA:Below w.heap.size w wA:=by rw [hwA];exact alloc_below _ _
 have hpA:wA.heap[w.heap.size]?=some (profO s (.slice (some ⟨bd,0,none⟩) D.length cd) (.slice (some ⟨bl,0,none⟩) D.length cl)):=by rw [hwA];exact World.alloc_heap_new _ _
 have HPA:=hid hpA
 unfold profV profO at *
 have H2:=hid h2
 clear hwA hP hI hpA ho h2
 go_enter Tryz.func41,Tryz.ntmps41
 go_wp2_with fail
 rw [←HWA.out]
 refine (HCK.out wA (hw.below hbA) (HVD.out.below hbA) (HVL.out.below hbA)).mono ?_
 rintro e w1 ⟨rfl,hb1⟩
 have hbw1:=hbA.trans (hb1.mono hbA.size)
 obtain ⟨e0,e1,e2,e3⟩:=prof_cells ((hb1.block _ (lt_of_some HPA.out)).trans HPA.out)
 clear HWA
 go_wp2_with fail
 refine (HEN.out w1 (hw.below hbw1) (HVD.out.below hbw1) (HVL.out.below hbw1)).mono ?_
 rintro e w2 ⟨va,rfl,hax,hb2⟩
 have hbw2:=hbw1.trans (hb2.mono hbw1.size)
 obtain ⟨ba,ca,hva,hac,hacm,hba,hacell⟩:=hax
 have hax:=hacell 1 (by rw [H2.out];decide)
 rw [H2.out] at hva hac
 subst hva
 have i6:2≤ca:=by omega
 clear hacell e0 e1 e2 e3
 go_wp2_with fail
 go_loopw [7,25] (fun _ iv wr=>∃ k:Nat,k≤1∧iv=.int .i64 (k:Int)∧Below w2.heap.size w2 wr) (fun _ iv _=>1-(intOf iv).toNat)
 case atStart=>exact ⟨0,Nat.zero_le _,rfl,Below.refl _ _⟩
 case round =>
  obtain ⟨k,hk,rfl,hbr⟩:=hrel
  have hwr:=hbr.size
  have hbwr:=hbw2.trans (hbr.mono hbw2.size)
  by_cases hkl:k<1
  ·obtain rfl:k=0:=by omega
   have A:∀ j (u:Value),(axC s D 1)[j]?=some u→wr.cell? ⟨ba,1*4+j,none⟩=some u:=fun j u hu=>(hbr.cell (p:=⟨ba,_,none⟩) hba).trans (hax j u hu)
   have A0:=A 0 _ rfl
   have A1:=A 1 _ rfl
   have A2:=A 2 _ rfl
   have A3:=A 3 _ rfl
   simp only [Nat.one_mul,Nat.add_zero,Nat.reduceAdd] at A0 A1 A2 A3
   simp only [Int.natCast_zero]
   clear A
   go_wp2_with fail
   obtain ⟨wx,hwx⟩ : ∃ wx,wx=wr.alloc (Obj.cells #[.string (tx (atK s D 1).1),.string (tx (atK s D 1).2),.string (tx (axK D 1).1),.string (tx (axK D 1).2)] 90):=⟨_,rfl⟩
   have hbx:Below wr.heap.size wr wx:=by rw [hwx];exact alloc_below _ _
   have hx:wx.heap[wr.heap.size]?=some (.cells #[.string (tx (atK s D 1).1),.string (tx (atK s D 1).2),.string (tx (axK D 1).1),.string (tx (axK D 1).2)] 90 (0,0)):=by rw [hwx];exact World.alloc_heap_new _ _
   rw [←hwx]
   have hb0x:=hbwr.trans (hbx.mono hbwr.size)
   clear hwx A0 A1 A2 A3
   refine (HC1.out wx (hw.below hb0x)).mono ?_
   rintro e w3 ⟨rfl,hb3⟩
   have h3:=(hb3.block _ (lt_of_some hx)).trans hx
   have c2:w3.cell? ⟨wr.heap.size,2,none⟩=some (.string (tx (axK D 1).1)):=by simp [World.cell?,h3]
   have c3:w3.cell? ⟨wr.heap.size,3,none⟩=some (.string (tx (axK D 1).2)):=by simp [World.cell?,h3]
   have hb03:=hb0x.trans (hb3.mono hb0x.size)
   go_wp2_with fail
   refine (HC2.out w3 (hw.below hb03)).mono ?_
   rintro e w4 ⟨rfl,hb4⟩
   have hbr4:=(hbr.trans (hbx.mono hwr)).trans ((hb3.mono (Nat.le_trans hwr hbx.size)).trans (hb4.mono (Nat.le_trans (Nat.le_trans hwr hbx.size) hb3.size)))
   go_wp2_with fail
   exact ⟨⟨1,Nat.le_refl _,rfl,hbr4⟩,by decide⟩
  ·obtain rfl:k=1:=by omega
   simp only [Int.natCast_one]
   go_wp2_with fail
   go_ret2
   refine ⟨ba,_,rfl,Nat.lt_of_lt_of_le hba hwr,fun j u hu=>?_,hbwr⟩
   exact (hbr.cell (p:=⟨ba,_,none⟩) hba).trans (by have:=hax j u hu;rwa [Nat.one_mul] at this)
theorem kink_Reach (s:QP) (D:List (Rat × Rat)) (hP:PrOk s D) (hI:PrIn D) (h2:D.length=2) (g l:Rat) (hg0:gK D 0=g) (hg1:gK D 1=g) (hl0:lK D 0=l) (hl1:lK D 1=l) (hgp:0<g) (hr:OkB (-l*g⁻¹))
  (vd vl:Value) (w:World) (hw:Good w) (hvd:Txs w vd (D.map (·.1))) (hvl:Txs w vl (D.map (·.2))) :
  Calls Tryz.prog 42 #[profV s vd vl] w (RV (.tuple #[.string (tx (-l*g⁻¹)),.string ⟨#[]⟩,.int .i64 0]) w):=by
 have HCK:=hid (fun (W:World) (hg:Good W) (h1:Txs W vd (D.map (·.1))) (h2:Txs W vl (D.map (·.2)))=>kink_Check s D hP hI vd vl W hg h1 h2)
 have HGR:=hid (fun (W:World) (hg:Good W) (h1:Txs W vd (D.map (·.1))) (h2:Txs W vl (D.map (·.2)))=>callsIn_wide.1 (kink_growths s D hP hI.noDiv vd vl W hg h1 h2))
 have hgz:Sz 6309316 g:=by rw [←hg0];exact hP.gz 0
 have hlz:Sz 402 l:=by rw [←hl0];exact hP.l 0
 have HNE:=hid (fun (W:World)=>k_neg l (hlz.mono (by decide)) W)
 have HQU:=hid (fun (W:World) (hg:Good W)=>kink_quotient (-l) g (Rat.ne_of_gt hgp) (hlz.neg.mono (by decide)) (hgz.mono (by decide)) W hg)
 have HSG:=hid (fun (W:World)=>rational_Sign (tx g) g (isR_mk _) (Nat.le_trans hgz (by decide)) W)
 have HCM:=hid (fun (W:World) (hg:Good W)=>k_cmp (-l*g⁻¹) (-l*g⁻¹) (hr.sz.mono (by decide)) (hr.sz.mono (by decide)) W hg)
 have HRC:=hid (fun (W:World) (hg:Good W)=>k_check (-l*g⁻¹) hr W hg)
 have s1:decide (0<sgnR g)=true:=decide_eq_true (by
  have:=sgnR_le g
  rw [decide_eq_true hgp] at this
  have:=of_decide_eq_false this
  omega)
 have s2:decide (sgnR g<0)=false:=by
  have:=sgnR_lt g
  rw [this]
  exact decide_eq_false (Rat.not_lt.2 (Rat.le_of_lt hgp))
 have hb0:((tx g).toList == [48])=false:=by rw [(isR_mk g).zero];exact decide_eq_false (Rat.ne_of_gt hgp)
 have hr1:¬ (tx (-l*g⁻¹)).toList=[]:=fun h=>by
  have h1:0<(tx (-l*g⁻¹)).size:=(isR_mk (-l*g⁻¹)).pos
  have h2:(tx (-l*g⁻¹)).size=(tx (-l*g⁻¹)).toList.length:=by rw [Lib.toList_data];exact Lib.size_eq _
  rw [h,List.length_nil] at h2
  rw [h2] at h1
  exact absurd h1 (by decide)
 have hr0:((tx (-l*g⁻¹)).toList == [])=false:=beq_false_of_ne hr1
 have s3:cmpR (-l*g⁻¹) (-l*g⁻¹)=0:=cmpR_zero.2 rfl
 unfold RV at HCK HNE HQU HCM HRC
 rw [s3] at HCM
 have HVD:=hid hvd
 have HVL:=hid hvl
 obtain ⟨bd,cd,rfl,-,-,-,-⟩:=hvd
 obtain ⟨bl,cl,rfl,-,-,hbl,hlc⟩:=hvl
 have HL1:=hid (show (D.map (·.1)).length=D.length from List.length_map _)
 have HL2:=hid (show (D.map (·.2)).length=D.length from List.length_map _)
 have HLC:=hid (fun k (hk:k<2)=>show w.cell? ⟨bl,k,none⟩=some (.string (tx l)) from (hlc k (by rw [HL2.out,h2];exact hk)).trans (by
  rw [List.getElem_map,lK_eq (by rw [h2];exact hk)]
  match k,hk with
  | 0,_=>rw [hl0]
  | 1,_=>rw [hl1]))
 rw [HL1.out,HL2.out] at HCK HGR
 rw [HL1.out] at HVD
 rw [HL2.out] at HVL
 rw [HL1.out,HL2.out]
 have HG:=hid (fun k (hk:k<2)=>show gK D k=g by
  match k,hk with
  | 0,_=>exact hg0
  | 1,_=>exact hg1)
 have H2:=hid h2
 obtain ⟨wA,hwA⟩ : ∃ wA,wA=w.alloc (profO s (.slice (some ⟨bd,0,none⟩) D.length cd) (.slice (some ⟨bl,0,none⟩) D.length cl)):=⟨_,rfl⟩
 have HWA:=hid hwA
 have hbA:Below w.heap.size w wA:=by rw [hwA];exact alloc_below _ _
 have hpA:wA.heap[w.heap.size]?=some (profO s (.slice (some ⟨bd,0,none⟩) D.length cd) (.slice (some ⟨bl,0,none⟩) D.length cl)):=by rw [hwA];exact World.alloc_heap_new _ _
 have HPA:=hid hpA
 unfold profV profO at *
 generalize sgnR g=sg at *
 generalize tx (-l*g⁻¹)=tr at *
 generalize tx (-l)=tnl at *
 generalize tx l=tl at *
 obtain ⟨tg,htg⟩ : ∃ tg,tg=tx g:=⟨_,rfl⟩
 rw [←htg] at HQU HSG hb0
 have HTG:=hid htg
 clear hwA hP hI hpA hlc hg0 hg1 hl0 hl1 hgp hr hgz hlz htg s3 h2
 go_enter Tryz.func42,Tryz.ntmps42
 go_wp2_with fail
 rw [←HWA.out]
 refine (HCK.out wA (hw.below hbA) (HVD.out.below hbA) (HVL.out.below hbA)).mono ?_
 rintro e w1 ⟨rfl,hb1⟩
 have hbw1:=hbA.trans (hb1.mono hbA.size)
 have HP1:=hid ((hb1.block _ (lt_of_some HPA.out)).trans HPA.out)
 obtain ⟨e0,e1,e2,e3⟩:=prof_cells HP1.out
 clear HWA
 go_wp2_with fail
 refine (HGR.out w1 (hw.below hbw1) (HVD.out.below hbw1) (HVL.out.below hbw1)).mono ?_
 rintro e w2 ⟨vg,rfl,hvg,hb2⟩
 have hbw2:=hbw1.trans (hb2.mono hbw1.size)
 have HP2:=hid ((hb2.block _ (lt_of_some HP1.out)).trans HP1.out)
 obtain ⟨bg,cg,hvg',hgc,hgm,hbg,hgcell⟩:=hvg
 have HL3:=hid (show (gL D).length=2 by unfold gL;simp [H2.out])
 rw [HL3.out] at hvg' hgc
 subst hvg'
 have HGC:=hid (fun k (hk:k<2)=>show w2.cell? ⟨bg,k,none⟩=some (.string tg) from (hgcell k (by rw [HL3.out];exact hk)).trans (by rw [HTG.out,←HG.out k hk];simp [gL]))
 clear hgcell e0 e1 e2 e3
 go_wp2_with fail
 go_loopw [2,3,6,7,8,19] (fun lo hi _ _ _ iv wr=>∃ k:Nat,k≤2∧iv=.int .i64 (k:Int)∧hi=.string ⟨#[]⟩∧((k=0∧lo=.string ⟨#[]⟩)∨(0<k∧lo=.string tr))∧Below w2.heap.size w2 wr) (fun _ _ _ _ _ iv _=>2-(intOf iv).toNat)
 case atStart=>exact ⟨0,Nat.zero_le _,rfl,rfl,.inl ⟨rfl,rfl⟩,Below.refl _ _⟩
 case round =>
  obtain ⟨k,hk,rfl,rfl,hlo,hbr⟩:=hrel
  have hwr:=hbr.size
  have hbwr:=hbw2.trans (hbr.mono hbw2.size)
  by_cases hkl:k<2
  ·have A0:=(hbr.cell (p:=⟨bg,k,none⟩) hbg).trans (HGC.out k hkl)
   have A1:=(hbwr.cell (p:=⟨bl,k,none⟩) hbl).trans (HLC.out k hkl)
   obtain ⟨e0,e1,e2,e3⟩:=prof_cells ((hbr.block _ (lt_of_some HP2.out)).trans HP2.out)
   have i1:(0:Int)≤(k:Int):=by omega
   have i2:(k:Int)<2:=by omega
   have i4:(k:Int)<(D.length:Int):=by rw [H2.out];omega
   have i3:decide ((k:Int)<2)=true:=decide_eq_true i2
   rcases hlo with ⟨h0,rfl⟩ | ⟨h0,rfl⟩
   ·have HK:=hid h0
    clear h0
    go_wp2_with fail
    refine (HNE.out wr).mono ?_
    rintro e v1 ⟨rfl,hv1⟩
    go_wp2_with fail
    refine (HQU.out v1 ((hw.below hbwr).below hv1)).mono ?_
    rintro e v2 ⟨rfl,hv2⟩
    have hv02:=hv1.trans (hv2.mono hv1.size)
    clear e0 e1 e2 e3 A0 A1
    go_wp2_with fail
    refine (HSG.out v2).mono ?_
    rintro e v3 ⟨rfl,rfl⟩
    go_wp2_with fail
    exact ⟨⟨k+1,by omega,int_succ k,rfl,.inr ⟨by omega,rfl⟩,hbr.trans (hv02.mono hwr)⟩,by show 2-((k:Int)+1).toNat<2-((k:Int)).toNat;omega⟩
   ·have HK:=hid h0
    clear h0
    go_wp2_with fail
    refine (HNE.out wr).mono ?_
    rintro e v1 ⟨rfl,hv1⟩
    go_wp2_with fail
    refine (HQU.out v1 ((hw.below hbwr).below hv1)).mono ?_
    rintro e v2 ⟨rfl,hv2⟩
    have hv02:=hv1.trans (hv2.mono hv1.size)
    clear e0 e1 e2 e3 A0 A1
    go_wp2_with fail
    refine (HSG.out v2).mono ?_
    rintro e v3 ⟨rfl,rfl⟩
    go_wp2_with fail
    refine (HCM.out v2 ((hw.below hbwr).below hv02)).mono ?_
    rintro e v4 ⟨rfl,hv4⟩
    have hv04:=hv02.trans (hv4.mono hv02.size)
    go_wp2_with fail
    refine (HSG.out v4).mono ?_
    rintro e v5 ⟨rfl,rfl⟩
    go_wp2_with fail
    exact ⟨⟨k+1,by omega,int_succ k,rfl,.inr ⟨by omega,rfl⟩,hbr.trans (hv04.mono hwr)⟩,by show 2-((k:Int)+1).toNat<2-((k:Int)).toNat;omega⟩
  ·obtain rfl:k=2:=by omega
   obtain ⟨_,rfl⟩ : 0<2∧_:=hlo.resolve_left (by rintro ⟨h,_⟩;omega)
   have i3:decide (((2:Nat):Int)<2)=false:=by decide
   go_wp2_with fail
   obtain ⟨wS,hwS⟩ : ∃ wS,wS=wr.alloc (Obj.cells #[.string tr,.string ⟨#[]⟩] 28):=⟨_,rfl⟩
   have hbS:Below wr.heap.size wr wS:=by rw [hwS];exact alloc_below _ _
   have hcS:wS.heap[wr.heap.size]?=some (.cells #[.string tr,.string ⟨#[]⟩] 28 (0,0)):=by rw [hwS];exact World.alloc_heap_new _ _
   rw [←hwS]
   have HCS:=hid hcS
   have hb0S:=hbwr.trans (hbS.mono hbwr.size)
   clear hwS hcS
   go_loopw [2,3,4,10,69] (fun lo hi _ _ iv wz=>∃ k:Nat,k≤2∧iv=.int .i64 (k:Int)∧lo=.string tr∧hi=.string ⟨#[]⟩∧Below wS.heap.size wS wz) (fun _ _ _ _ iv _=>2-(intOf iv).toNat)
   case atStart=>exact ⟨0,Nat.zero_le _,rfl,rfl,rfl,Below.refl _ _⟩
   case round =>
    obtain ⟨k,hk,rfl,rfl,rfl,hbz⟩:=hrel
    have hz:=(hbz.block _ (lt_of_some HCS.out)).trans HCS.out
    obtain ⟨z0,z1,_,_⟩:=two_cells hz
    have hbwz:=hb0S.trans (hbz.mono hb0S.size)
    match k,hk with
    | 0,_ =>
     simp only [Int.natCast_zero]
     go_wp2_with fail
     refine (HRC.out _ (hw.below hbwz)).mono ?_
     rintro e v1 ⟨rfl,hv1⟩
     go_wp2_with fail
     exact ⟨⟨1,by decide,rfl,rfl,rfl,hbz.trans (hv1.mono hbz.size)⟩,by decide⟩
    | 1,_ =>
     simp only [Int.natCast_one]
     go_wp2_with fail
     exact ⟨⟨2,by decide,rfl,rfl,rfl,hbz⟩,by decide⟩
    | 2,_ =>
     go_wp2_with fail
     exact bodyPost_ret (v:=.tuple #[.string tr,.string ⟨#[]⟩,.int .i64 0]) (by simp [results,Tryz.results42,go_sem]) rfl ⟨rfl,hbwz⟩
end Go.Proofs.YtogdahbbogimcaaGreatDoor
