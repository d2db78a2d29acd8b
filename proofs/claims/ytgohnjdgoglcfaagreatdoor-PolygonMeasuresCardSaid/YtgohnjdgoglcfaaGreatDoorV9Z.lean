import Derived.Test.YtgohnjdgoglcfaaGreatDoorV4Z
import Derived.Test.YtgohnjdgoglcfaaGreatDoorU8Z
import Derived.Test.YtgohnjdgoglcfaaGreatDoorBxZ
namespace Go.Proofs.YtgohnjdgoglcfaaGreatDoor
open Go.RowKit Go.Shelf
open Go.Lib (decDigits itoa nDigits)
set_option maxRecDepth 100000 in
set_option maxHeartbeats 8000000 in
theorem r9_centroid (v:Value) (P:List QP) (hP:Cvx P) (hn:P.length≤1000) (hz:∀ p∈P,Sz2 402 p) (hA:∀ k,k+2≤P.length→Sz 402 (areaTo P k)) (hX:∀ k,k+2≤P.length→Sz 402 (cenXTo P k)) (hY:∀ k,k+2≤P.length→Sz 402 (cenYTo P k)) (w:World) (hw:Good w) (hv:Pts w v P) :
  Calls Tryz.prog 28 #[v] w (RV (ptV (cenP P)) w):=by
 have h3:=hP.1
 have hap:=hP.area_pos
 have hne:(3:Rat)*areaP P≠0:=by have:=Rat.mul_pos (show (0:Rat)<3 by decide) hap;grind
 have hAA:Sz 402 (areaP P):=hA (P.length-2) (by omega)
 have z3:Sz 1 (3:Rat):=by show (tx 3).size≤1;rw [tx_3];decide
 have HAR:=Lib.hid (fun i (hi:i<P.length) j (hj:j<P.length) k (hk:k<P.length) w' (hg:Good w')=>r5_area (pt P i) (pt P j) (pt P k) ((hz _ (pt_mem hi)).mono (by decide)) ((hz _ (pt_mem hj)).mono (by decide)) ((hz _ (pt_mem hk)).mono (by decide)) w' hg)
 have cz:∀ k (hk:k+1+1<P.length),Sz 20000 (crs (pt P 0) (pt P (k+1)) (pt P (k+1+1))):=fun k hk=>(sz_crs (hz _ (pt_mem (show 0<P.length by omega))) (hz _ (pt_mem (show k+1<P.length by omega))) (hz _ (pt_mem hk))).mono (by decide)
 have s1:∀ k (hk:k+1+1<P.length),Sz 2000 ((pt P (k+1)).1+(pt P (k+1+1)).1):=fun k hk=>((hz _ (pt_mem (show k+1<P.length by omega))).1.add (hz _ (pt_mem hk)).1).mono (by decide)
 have s2:∀ k (hk:k+1+1<P.length),Sz 2000 ((pt P (k+1)).2+(pt P (k+1+1)).2):=fun k hk=>((hz _ (pt_mem (show k+1<P.length by omega))).2.add (hz _ (pt_mem hk)).2).mono (by decide)
 have t1:∀ k (hk:k+1+1<P.length),Sz 6000 ((pt P 0).1+((pt P (k+1)).1+(pt P (k+1+1)).1)):=fun k hk=>((hz _ (pt_mem (show 0<P.length by omega))).1.add (s1 k hk)).mono (by decide)
 have t2:∀ k (hk:k+1+1<P.length),Sz 6000 ((pt P 0).2+((pt P (k+1)).2+(pt P (k+1+1)).2)):=fun k hk=>((hz _ (pt_mem (show 0<P.length by omega))).2.add (s2 k hk)).mono (by decide)
 have KX1:=Lib.hid (fun k (hk:k+1+1<P.length) w' (hg:Good w')=>r_add (pt P (k+1)).1 (pt P (k+1+1)).1 ((hz _ (pt_mem (show k+1<P.length by omega))).1.mono (by decide)) ((hz _ (pt_mem hk)).1.mono (by decide)) w' hg)
 have KY1:=Lib.hid (fun k (hk:k+1+1<P.length) w' (hg:Good w')=>r_add (pt P (k+1)).2 (pt P (k+1+1)).2 ((hz _ (pt_mem (show k+1<P.length by omega))).2.mono (by decide)) ((hz _ (pt_mem hk)).2.mono (by decide)) w' hg)
 have KX2:=Lib.hid (fun k (hk:k+1+1<P.length) w' (hg:Good w')=>r_add (pt P 0).1 ((pt P (k+1)).1+(pt P (k+1+1)).1) ((hz _ (pt_mem (show 0<P.length by omega))).1.mono (by decide)) ((s1 k hk).mono (by decide)) w' hg)
 have KY2:=Lib.hid (fun k (hk:k+1+1<P.length) w' (hg:Good w')=>r_add (pt P 0).2 ((pt P (k+1)).2+(pt P (k+1+1)).2) ((hz _ (pt_mem (show 0<P.length by omega))).2.mono (by decide)) ((s2 k hk).mono (by decide)) w' hg)
 have KX3:=Lib.hid (fun k (hk:k+1+1<P.length) w' (hg:Good w')=>r_mul (crs (pt P 0) (pt P (k+1)) (pt P (k+1+1))) ((pt P 0).1+((pt P (k+1)).1+(pt P (k+1+1)).1)) ((cz k hk).mono (by decide)) ((t1 k hk).mono (by decide)) w' hg)
 have KY3:=Lib.hid (fun k (hk:k+1+1<P.length) w' (hg:Good w')=>r_mul (crs (pt P 0) (pt P (k+1)) (pt P (k+1+1))) ((pt P 0).2+((pt P (k+1)).2+(pt P (k+1+1)).2)) ((cz k hk).mono (by decide)) ((t2 k hk).mono (by decide)) w' hg)
 have KX4:=Lib.hid (fun k (hk:k+1+1<P.length) w' (hg:Good w')=>r_add (cenXTo P k) (crs (pt P 0) (pt P (k+1)) (pt P (k+1+1))*((pt P 0).1+((pt P (k+1)).1+(pt P (k+1+1)).1))) ((hX k (by omega)).mono (by decide)) (((cz k hk).mul (t1 k hk)).mono (by decide)) w' hg)
 have KY4:=Lib.hid (fun k (hk:k+1+1<P.length) w' (hg:Good w')=>r_add (cenYTo P k) (crs (pt P 0) (pt P (k+1)) (pt P (k+1+1))*((pt P 0).2+((pt P (k+1)).2+(pt P (k+1+1)).2))) ((hY k (by omega)).mono (by decide)) (((cz k hk).mul (t2 k hk)).mono (by decide)) w' hg)
 have EX:=Lib.hid (fun k=>show cenXTo P k+crs (pt P 0) (pt P (k+1)) (pt P (k+1+1))*((pt P 0).1+((pt P (k+1)).1+(pt P (k+1+1)).1))=cenXTo P (k+1) by rw [←Rat.add_assoc (pt P 0).1];rfl)
 have EY:=Lib.hid (fun k=>show cenYTo P k+crs (pt P 0) (pt P (k+1)) (pt P (k+1+1))*((pt P 0).2+((pt P (k+1)).2+(pt P (k+1+1)).2))=cenYTo P (k+1) by rw [←Rat.add_assoc (pt P 0).2];rfl)
 have HRA:=Lib.hid (fun w' (hg:Good w') (hp:Pts w' v P)=>r9_area v P (by omega) hn (fun p hp=>(hz p hp).mono (by decide)) (fun k hk=>(hA k hk).mono (by decide)) w' hg hp)
 have HM3:=Lib.hid (fun w' (hg:Good w')=>r_mul 3 (areaP P) (z3.mono (by decide)) (hAA.mono (by decide)) w' hg)
 rw [tx_3] at HM3
 have HDX:=Lib.hid (fun w' (hg:Good w')=>r_div (cenXTo P (P.length-2)) (3*areaP P) hne ((hX _ (by omega)).mono (by decide)) ((z3.mul hAA).mono (by decide)) w' hg)
 have HDY:=Lib.hid (fun w' (hg:Good w')=>r_div (cenYTo P (P.length-2)) (3*areaP P) hne ((hY _ (by omega)).mono (by decide)) ((z3.mul hAA).mono (by decide)) w' hg)
 rw [show tx (cenXTo P (P.length-2)*(3*areaP P)⁻¹)=tx (cenP P).1 from rfl] at HDX
 rw [show tx (cenYTo P (P.length-2)*(3*areaP P)⁻¹)=tx (cenP P).2 from rfl] at HDY
 unfold RV at HAR KX1 KY1 KX2 KY2 KX3 KY3 KX4 KY4 HRA HM3 HDX HDY
 unfold ptV at HAR ⊢
 have HT0X:=Lib.hid (show (⟨#[48]⟩ : ByteArray)=tx (cenXTo P 0) from tx0.symm)
 have HT0Y:=Lib.hid (show (⟨#[48]⟩ : ByteArray)=tx (cenYTo P 0) from tx0.symm)
 have HV:=Lib.hid hv
 obtain ⟨p,c,rfl,hcl,hcm⟩:=hv.slice
 unfold maxLen at hcm
 obtain ⟨B,off,rfl,hbl,hcell⟩:=Pts.cells hv (by omega)
 have HCL:=Lib.hid (fun i (hi:i<P.length) wx (h:Below w.heap.size w wx)=>And.intro ((h.cell (p:=⟨B,off+i*2,none⟩) hbl).trans (hcell i hi).1) ((h.cell (p:=⟨B,off+i*2+1,none⟩) hbl).trans (hcell i hi).2))
 clear hv hcell hz hA hX hY hP hap hne hAA z3 cz s1 s2 t1 t2
 generalize tx (cenP P).1=gx at *
 generalize tx (cenP P).2=gy at *
 generalize tx (3*areaP P)=t3 at *
 generalize tx (areaP P)=ta at *
 go_enter Tryz.func28,Tryz.ntmps28
 go_upto_region 1 with fail
 obtain ⟨wA,hwA⟩ : ∃ wA,wA=w.alloc (Obj.cells #[.string ⟨#[]⟩,.string ⟨#[]⟩] 31):=⟨_,rfl⟩
 obtain ⟨hbA,hxA⟩:=box_any hwA
 have HXA:=Lib.hid hxA
 rw [←hwA]
 clear hwA hxA
 go_wp2_with fail
 go_loopw [3,4,5,6] (fun xv yv iv _ wr=>∃ (k:Nat) (sx sy:ByteArray),k+2≤P.length∧sx=tx (cenXTo P k)∧sy=tx (cenYTo P k)∧xv=.string sx∧yv=.string sy∧iv=.int .i64 ((k+1:Nat):Int)∧Below wA.heap.size wA wr) (fun _ _ iv _ _=>P.length-(intOf iv).toNat)
 case atStart=>exact ⟨0,_,_,by omega,HT0X.out,HT0Y.out,rfl,rfl,rfl,Below.refl _ _⟩
 case round =>
  obtain ⟨k,sx,sy,hk2,hsx,hsy,rfl,rfl,rfl,hbrA⟩:=hrel
  have HSX:=Lib.hid hsx
  have HSY:=Lib.hid hsy
  clear hsx hsy
  have hbr:=hbA.trans (hbrA.mono hbA.size)
  have m1:IntKind.i64.wrap ((k:Int)+1+1)=(k:Int)+1+1:=IntWalk.i64_in _ (by omega)
  by_cases hk:k+1+1<P.length
  ·have hkn:decide ((k:Int)+1+1<(P.length:Int))=true:=decide_eq_true (by omega)
   obtain ⟨a0,a1⟩:=HCL.out 0 (by omega) wr hbr
   obtain ⟨b0,b1⟩:=HCL.out (k+1) (by omega) wr hbr
   obtain ⟨c0,c1⟩:=HCL.out (k+1+1) (by omega) wr hbr
   rw [Nat.zero_mul,Nat.add_zero] at a0 a1
   have hblr:B<wr.heap.size:=Nat.lt_of_lt_of_le hbl hbr.size
   have m2:(0:Int)≤(k:Int)+1:=by omega
   have m3:(k:Int)+1<(P.length:Int):=by omega
   have m4:(0:Int)≤(k:Int)+1+1:=by omega
   have m5:(k:Int)+1+1<(P.length:Int):=by omega
   have m6:((k:Int)+1).toNat=k+1:=by omega
   have m7:((k:Int)+1+1).toNat=k+1+1:=by omega
   have m8:k+1<P.length:=by omega
   have m9:k+1+1<P.length:=by omega
   have m10:0<P.length:=by omega
   have H1:=Lib.hid (HAR.out 0 m10 (k+1) m8 (k+1+1) m9)
   have HX1:=Lib.hid (KX1.out k hk)
   have HX2:=Lib.hid (KX2.out k hk)
   have HX3:=Lib.hid (KX3.out k hk)
   have HX4:=Lib.hid (KX4.out k hk)
   have HY1:=Lib.hid (KY1.out k hk)
   have HY2:=Lib.hid (KY2.out k hk)
   have HY3:=Lib.hid (KY3.out k hk)
   have HY4:=Lib.hid (KY4.out k hk)
   rw [←HSX.out,EX.out k] at HX4
   rw [←HSY.out,EY.out k] at HY4
   clear KX1 KX2 KX3 KX4 KY1 KY2 KY3 KY4
   obtain ⟨nx,hnx⟩ : ∃ s,s=tx (cenXTo P (k+1)):=⟨_,rfl⟩
   obtain ⟨ny,hny⟩ : ∃ s,s=tx (cenYTo P (k+1)):=⟨_,rfl⟩
   rw [←hnx] at HX4
   rw [←hny] at HY4
   have HNX:=Lib.hid hnx
   have HNY:=Lib.hid hny
   clear hnx hny HSX HSY
   generalize tx (crs (pt P 0) (pt P (k+1)) (pt P (k+1+1))*((pt P 0).1+((pt P (k+1)).1+(pt P (k+1+1)).1)))=wx at *
   generalize tx (crs (pt P 0) (pt P (k+1)) (pt P (k+1+1))*((pt P 0).2+((pt P (k+1)).2+(pt P (k+1+1)).2)))=wy at *
   generalize tx ((pt P 0).1+((pt P (k+1)).1+(pt P (k+1+1)).1))=ux at *
   generalize tx ((pt P 0).2+((pt P (k+1)).2+(pt P (k+1+1)).2))=uy at *
   generalize tx ((pt P (k+1)).1+(pt P (k+1+1)).1)=ox at *
   generalize tx ((pt P (k+1)).2+(pt P (k+1+1)).2)=oy at *
   generalize tx (crs (pt P 0) (pt P (k+1)) (pt P (k+1+1)))=t at *
   generalize tx (pt P 0).1=x1 at *
   generalize tx (pt P 0).2=x2 at *
   generalize tx (pt P (k+1)).1=y1 at *
   generalize tx (pt P (k+1)).2=y2 at *
   generalize tx (pt P (k+1+1)).1=z1 at *
   generalize tx (pt P (k+1+1)).2=z2 at *
   go_wp2_with fail
   refine wp_held_list (fun W'=>Below wr.heap.size wr W') [0,1,2,3,4,5,6,7,8,9,10,11] [12] 13 (by kernel_rfl) (by kernel_rfl) ⟨rfl,rfl,rfl,Nat.le_refl _,fun _ _=>rfl⟩ ?_
   iterate 12
    refine wpTakeL_step rfl ?_ rfl ?_ ?_
    rotate_left
    ·intro W' hS'
     have s0:=(hS'.cell (p:=⟨B,off,none⟩) hblr).trans a0
     have s1:=(hS'.cell (p:=⟨B,off+1,none⟩) hblr).trans a1
     have s2:=(hS'.cell (p:=⟨B,off+(k+1)*2,none⟩) hblr).trans b0
     have s3:=(hS'.cell (p:=⟨B,off+(k+1)*2+1,none⟩) hblr).trans b1
     have s4:=(hS'.cell (p:=⟨B,off+(k+1+1)*2,none⟩) hblr).trans c0
     have s5:=(hS'.cell (p:=⟨B,off+(k+1+1)*2+1,none⟩) hblr).trans c1
     go_simp
     try with_reducible rfl
    try simp only [zA,zB,zC,Act.put,zD,zE,zF]
   have hR0:Below wr.heap.size wr wr.drew:=⟨rfl,rfl,rfl,Nat.le_refl _,fun _ _=>rfl⟩
   refine wpKeepL_step rfl rfl (fun K hK=>?_)
   go_simp
   refine (H1.out _ (hw.below (hbr.trans (hR0.mono hbr.size)))).mono ?_
   rintro e u1 ⟨rfl,hbu1⟩
   have hR1:=hR0.trans (hbu1.mono hR0.size)
   refine hK _ _ ⟨hR1,?_⟩
   clear hK K
   try simp only [zA,zB,zC,Act.put,zD,zE,zF]
   unfold wpKeepL
   simp only [List.drop_succ_cons,List.drop_zero]
   try simp only [zA,zB,zC,Act.put,zD,zE,zF]
   refine wpKeep_step rfl (fun K hK=>?_)
   go_simp
   refine hK _ _ ⟨trivial,wpKeep_nil ?_⟩
   clear hK K
   try simp only [zA,zB,zC,Act.put,zD,zE,zF]
   refine NormalOnly.mk ?_
   have hbu:=hbr.trans (hR1.mono hbr.size)
   have hbuA:=hbrA.trans (hR1.mono hbrA.size)
   have hblr_u1:=Nat.lt_of_lt_of_le hblr hR1.size
   have a0_u1:=(hR1.cell (p:=⟨B,off,none⟩) hblr).trans a0
   have a1_u1:=(hR1.cell (p:=⟨B,off+1,none⟩) hblr).trans a1
   have b0_u1:=(hR1.cell (p:=⟨B,off+(k+1)*2,none⟩) hblr).trans b0
   have b1_u1:=(hR1.cell (p:=⟨B,off+(k+1)*2+1,none⟩) hblr).trans b1
   have c0_u1:=(hR1.cell (p:=⟨B,off+(k+1+1)*2,none⟩) hblr).trans c0
   have c1_u1:=(hR1.cell (p:=⟨B,off+(k+1+1)*2+1,none⟩) hblr).trans c1
   clear a0 a1 b0 b1 c0 c1 hblr
   go_wp2_with fail
   refine wp_held_list (fun W'=>Below u1.heap.size u1 W') [0,1,2,3,4,5,6,7,8,9,10,11,12,13,14,15,16] [17,18,19,20] 21 (by kernel_rfl) (by kernel_rfl) ⟨rfl,rfl,rfl,Nat.le_refl _,fun _ _=>rfl⟩ ?_
   iterate 17
    refine wpTakeL_step rfl ?_ rfl ?_ ?_
    rotate_left
    ·intro W' hS'
     have s0:=(hS'.cell (p:=⟨B,off,none⟩) hblr_u1).trans a0_u1
     have s1:=(hS'.cell (p:=⟨B,off+1,none⟩) hblr_u1).trans a1_u1
     have s2:=(hS'.cell (p:=⟨B,off+(k+1)*2,none⟩) hblr_u1).trans b0_u1
     have s3:=(hS'.cell (p:=⟨B,off+(k+1)*2+1,none⟩) hblr_u1).trans b1_u1
     have s4:=(hS'.cell (p:=⟨B,off+(k+1+1)*2,none⟩) hblr_u1).trans c0_u1
     have s5:=(hS'.cell (p:=⟨B,off+(k+1+1)*2+1,none⟩) hblr_u1).trans c1_u1
     go_simp
     try with_reducible rfl
    try simp only [zA,zB,zC,Act.put,zD,zE,zF]
   have hS0:Below u1.heap.size u1 u1.drew:=⟨rfl,rfl,rfl,Nat.le_refl _,fun _ _=>rfl⟩
   refine wpKeepL_step rfl rfl (fun K hK=>?_)
   go_simp
   refine (HX1.out _ (hw.below (hbu.trans (hS0.mono hbu.size)))).mono ?_
   rintro e x1 ⟨rfl,hbx1⟩
   have hS1:=hS0.trans (hbx1.mono hS0.size)
   refine hK _ _ ⟨hS1,?_⟩
   clear hK K
   try simp only [zA,zB,zC,Act.put,zD,zE,zF]
   refine wpKeepL_step rfl rfl (fun K hK=>?_)
   go_simp
   refine (HX2.out _ (hw.below (hbu.trans (hS1.mono hbu.size)))).mono ?_
   rintro e x2 ⟨rfl,hbx2⟩
   have hS2:=hS1.trans (hbx2.mono hS1.size)
   refine hK _ _ ⟨hS2,?_⟩
   clear hK K
   try simp only [zA,zB,zC,Act.put,zD,zE,zF]
   refine wpKeepL_step rfl rfl (fun K hK=>?_)
   go_simp
   refine (HX3.out _ (hw.below (hbu.trans (hS2.mono hbu.size)))).mono ?_
   rintro e x3 ⟨rfl,hbx3⟩
   have hS3:=hS2.trans (hbx3.mono hS2.size)
   refine hK _ _ ⟨hS3,?_⟩
   clear hK K
   try simp only [zA,zB,zC,Act.put,zD,zE,zF]
   refine wpKeepL_step rfl rfl (fun K hK=>?_)
   go_simp
   refine (HX4.out _ (hw.below (hbu.trans (hS3.mono hbu.size)))).mono ?_
   rintro e x4 ⟨rfl,hbx4⟩
   have hS4:=hS3.trans (hbx4.mono hS3.size)
   refine hK _ _ ⟨hS4,?_⟩
   clear hK K
   try simp only [zA,zB,zC,Act.put,zD,zE,zF]
   unfold wpKeepL
   simp only [List.drop_succ_cons,List.drop_zero]
   try simp only [zA,zB,zC,Act.put,zD,zE,zF]
   refine wpKeep_step rfl (fun K hK=>?_)
   go_simp
   refine hK _ _ ⟨trivial,wpKeep_nil ?_⟩
   clear hK K
   try simp only [zA,zB,zC,Act.put,zD,zE,zF]
   refine NormalOnly.mk ?_
   have hbx:=hbu.trans (hS4.mono hbu.size)
   have hbxA:=hbuA.trans (hS4.mono hbuA.size)
   have hblr_x4:=Nat.lt_of_lt_of_le hblr_u1 hS4.size
   have a0_x4:=(hS4.cell (p:=⟨B,off,none⟩) hblr_u1).trans a0_u1
   have a1_x4:=(hS4.cell (p:=⟨B,off+1,none⟩) hblr_u1).trans a1_u1
   have b0_x4:=(hS4.cell (p:=⟨B,off+(k+1)*2,none⟩) hblr_u1).trans b0_u1
   have b1_x4:=(hS4.cell (p:=⟨B,off+(k+1)*2+1,none⟩) hblr_u1).trans b1_u1
   have c0_x4:=(hS4.cell (p:=⟨B,off+(k+1+1)*2,none⟩) hblr_u1).trans c0_u1
   have c1_x4:=(hS4.cell (p:=⟨B,off+(k+1+1)*2+1,none⟩) hblr_u1).trans c1_u1
   clear a0_u1 a1_u1 b0_u1 b1_u1 c0_u1 c1_u1 hblr_u1
   go_wp2_with fail
   refine wp_held_list (fun W'=>Below x4.heap.size x4 W') [0,1,2,3,4,5,6,7,8,9,10,11,12,13,14,15,16] [17,18,19,20] 21 (by kernel_rfl) (by kernel_rfl) ⟨rfl,rfl,rfl,Nat.le_refl _,fun _ _=>rfl⟩ ?_
   iterate 17
    refine wpTakeL_step rfl ?_ rfl ?_ ?_
    rotate_left
    ·intro W' hS'
     have s0:=(hS'.cell (p:=⟨B,off,none⟩) hblr_x4).trans a0_x4
     have s1:=(hS'.cell (p:=⟨B,off+1,none⟩) hblr_x4).trans a1_x4
     have s2:=(hS'.cell (p:=⟨B,off+(k+1)*2,none⟩) hblr_x4).trans b0_x4
     have s3:=(hS'.cell (p:=⟨B,off+(k+1)*2+1,none⟩) hblr_x4).trans b1_x4
     have s4:=(hS'.cell (p:=⟨B,off+(k+1+1)*2,none⟩) hblr_x4).trans c0_x4
     have s5:=(hS'.cell (p:=⟨B,off+(k+1+1)*2+1,none⟩) hblr_x4).trans c1_x4
     go_simp
     try with_reducible rfl
    try simp only [zA,zB,zC,Act.put,zD,zE,zF]
   have hT0:Below x4.heap.size x4 x4.drew:=⟨rfl,rfl,rfl,Nat.le_refl _,fun _ _=>rfl⟩
   refine wpKeepL_step rfl rfl (fun K hK=>?_)
   go_simp
   refine (HY1.out _ (hw.below (hbx.trans (hT0.mono hbx.size)))).mono ?_
   rintro e y1 ⟨rfl,hby1⟩
   have hT1:=hT0.trans (hby1.mono hT0.size)
   refine hK _ _ ⟨hT1,?_⟩
   clear hK K
   try simp only [zA,zB,zC,Act.put,zD,zE,zF]
   refine wpKeepL_step rfl rfl (fun K hK=>?_)
   go_simp
   refine (HY2.out _ (hw.below (hbx.trans (hT1.mono hbx.size)))).mono ?_
   rintro e y2 ⟨rfl,hby2⟩
   have hT2:=hT1.trans (hby2.mono hT1.size)
   refine hK _ _ ⟨hT2,?_⟩
   clear hK K
   try simp only [zA,zB,zC,Act.put,zD,zE,zF]
   refine wpKeepL_step rfl rfl (fun K hK=>?_)
   go_simp
   refine (HY3.out _ (hw.below (hbx.trans (hT2.mono hbx.size)))).mono ?_
   rintro e y3 ⟨rfl,hby3⟩
   have hT3:=hT2.trans (hby3.mono hT2.size)
   refine hK _ _ ⟨hT3,?_⟩
   clear hK K
   try simp only [zA,zB,zC,Act.put,zD,zE,zF]
   refine wpKeepL_step rfl rfl (fun K hK=>?_)
   go_simp
   refine (HY4.out _ (hw.below (hbx.trans (hT3.mono hbx.size)))).mono ?_
   rintro e y4 ⟨rfl,hby4⟩
   have hT4:=hT3.trans (hby4.mono hT3.size)
   refine hK _ _ ⟨hT4,?_⟩
   clear hK K
   try simp only [zA,zB,zC,Act.put,zD,zE,zF]
   unfold wpKeepL
   simp only [List.drop_succ_cons,List.drop_zero]
   try simp only [zA,zB,zC,Act.put,zD,zE,zF]
   refine wpKeep_step rfl (fun K hK=>?_)
   go_simp
   refine hK _ _ ⟨trivial,wpKeep_nil ?_⟩
   clear hK K
   try simp only [zA,zB,zC,Act.put,zD,zE,zF]
   refine NormalOnly.mk ?_
   have hbyA:=hbxA.trans (hT4.mono hbxA.size)
   go_wp2
   refine ⟨⟨k+1,nx,ny,by omega,HNX.out,HNY.out,rfl,rfl,int_succ (k+1),hbyA⟩,?_⟩
   show P.length-((k:Int)+1+1).toNat<P.length-((k:Int)+1).toNat
   omega
  ·have hkn:decide ((k:Int)+1+1<(P.length:Int))=false:=decide_eq_false (by omega)
   have ek:k=P.length-2:=by omega
   rw [ek] at HSX HSY
   rw [←HSX.out] at HDX
   rw [←HSY.out] at HDY
   clear ek HSX HSY
   go_wp2_with fail
   refine (HRA.out _ (hw.below hbr) (HV.out.below hbr)).mono ?_
   rintro e w2 ⟨rfl,k2⟩
   have hb2:=hbrA.trans (k2.mono hbrA.size)
   go_wp2_with fail
   refine (HM3.out _ (hw.below (hbA.trans (hb2.mono hbA.size)))).mono ?_
   rintro e w3 ⟨rfl,k3⟩
   have hb3:=hb2.trans (k3.mono hb2.size)
   go_wp2_with fail
   refine (HDX.out _ (hw.below (hbA.trans (hb3.mono hbA.size)))).mono ?_
   rintro e w4 ⟨rfl,k4⟩
   have hb4:=hb3.trans (k4.mono hb3.size)
   go_wp2_with fail
   refine (HDY.out _ (hw.below (hbA.trans (hb4.mono hbA.size)))).mono ?_
   rintro e w5 ⟨rfl,k5⟩
   have hb5:=hb4.trans (k5.mono hb4.size)
   have hx5:=(hb5.block _ (lt_of_blk HXA.out)).trans HXA.out
   obtain ⟨_,_,_,_⟩:=two_cells hx5
   have hpz:=two_set1 (.string gy) (two_set0 (.string gx) hx5)
   obtain ⟨q0,q1,_,_⟩:=two_cells hpz
   have Q0:=Lib.hid q0
   have Q1:=Lib.hid q1
   have hbw5:=hbA.trans (hb5.mono hbA.size)
   clear hpz hx5 q0 q1
   go_wp2
   have q0:=Q0.out
   have q1:=Q1.out
   refine bodyPost_ret (v:=.agg #[.string gx,.string gy]) (by simp [results,Tryz.results28,go_sem,q0,q1]) rfl ⟨rfl,?_⟩
   exact (hbw5.setCell (p:=⟨w.heap.size,0,none⟩) (by simp <;> omega) _).setCell (p:=⟨w.heap.size,1,none⟩) (by simp <;> omega) _
end Go.Proofs.YtgohnjdgoglcfaaGreatDoor
