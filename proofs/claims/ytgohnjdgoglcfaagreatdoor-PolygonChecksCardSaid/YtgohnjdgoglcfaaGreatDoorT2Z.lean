import Derived.Test.YtgohnjdgoglcfaaGreatDoorT1Z
set_option maxRecDepth 100000
set_option maxHeartbeats 4000000
namespace Go.Proofs.YtgohnjdgoglcfaaGreatDoor
open Go.RowKit Go.Shelf
open Go.Lib (decDigits itoa nDigits)
open Go.Lib (hid)
theorem k_sign (q:Rat) (hq:Sz 9000000000 q) (w:World):Calls Tryz.prog 67 #[.string (tx q)] w (RV (.int .i64 (sgnR q)) w):=
 (rational_Sign (tx q) q (isR_mk q) hq w).mono fun _ _ ⟨he,hb⟩=>⟨he,hb ▸ Below.refl _ _⟩
theorem pg_area (a b c:QP) (ha:Sz2 1000000 a) (hb:Sz2 1000000 b) (hc:Sz2 1000000 c) (w:World) (hw:Good w) :
  Calls Tryz.prog 66 #[ptV a,ptV b,ptV c] w (RV (.string (tx (crs a b c))) w):=by
 have S1:=hid (fun w' (hg:Good w')=>k_sub b.1 a.1 (hb.1.mono (by decide)) (ha.1.mono (by decide)) w' hg)
 have S2:=hid (fun w' (hg:Good w')=>k_sub b.2 a.2 (hb.2.mono (by decide)) (ha.2.mono (by decide)) w' hg)
 have S3:=hid (fun w' (hg:Good w')=>k_sub c.1 a.1 (hc.1.mono (by decide)) (ha.1.mono (by decide)) w' hg)
 have S4:=hid (fun w' (hg:Good w')=>k_sub c.2 a.2 (hc.2.mono (by decide)) (ha.2.mono (by decide)) w' hg)
 have M1:=hid (fun w' (hg:Good w')=>k_mul (b.1-a.1) (c.2-a.2) ((hb.1.sub ha.1).mono (by decide)) ((hc.2.sub ha.2).mono (by decide)) w' hg)
 have M2:=hid (fun w' (hg:Good w')=>k_mul (b.2-a.2) (c.1-a.1) ((hb.2.sub ha.2).mono (by decide)) ((hc.1.sub ha.1).mono (by decide)) w' hg)
 have S5:=hid (fun w' (hg:Good w')=>k_sub ((b.1-a.1)*(c.2-a.2)) ((b.2-a.2)*(c.1-a.1)) (((hb.1.sub ha.1).mul (hc.2.sub ha.2)).mono (by decide)) (((hb.2.sub ha.2).mul (hc.1.sub ha.1)).mono (by decide)) w' hg)
 unfold RV at S1 S2 S3 S4 M1 M2 S5
 clear ha hb hc
 unfold ptV crs
 generalize tx ((b.1-a.1)*(c.2-a.2)-(b.2-a.2)*(c.1-a.1))=r at *
 generalize tx ((b.1-a.1)*(c.2-a.2))=m1 at *
 generalize tx ((b.2-a.2)*(c.1-a.1))=m2 at *
 generalize tx (b.1-a.1)=s1 at *
 generalize tx (c.2-a.2)=s2 at *
 generalize tx (b.2-a.2)=s3 at *
 generalize tx (c.1-a.1)=s4 at *
 generalize tx a.1=a1 at *
 generalize tx a.2=a2 at *
 generalize tx b.1=b1 at *
 generalize tx b.2=b2 at *
 generalize tx c.1=c1 at *
 generalize tx c.2=c2 at *
 go_enter Tryz.func66,Tryz.ntmps66
 go_wp2_with fail
 obtain ⟨wA,hwA⟩ : ∃ wA,wA=(((w.alloc (Obj.cells #[.string a1,.string a2] 31)).alloc (Obj.cells #[.string b1,.string b2] 31)).alloc (Obj.cells #[.string c1,.string c2] 31)):=⟨_,rfl⟩
 obtain ⟨hbA,x1,x2,x3⟩:=boxes3 hwA
 rw [←hwA]
 clear hwA
 have l1:=lt_of_blk x1
 obtain ⟨c10,c11,_,_⟩:=two_cells x1
 have l2:=lt_of_blk x2
 obtain ⟨c20,c21,_,_⟩:=two_cells x2
 have l3:=lt_of_blk x3
 obtain ⟨c30,c31,_,_⟩:=two_cells x3
 clear x1 x2 x3
 refine wp_held_list (fun W'=>Below wA.heap.size wA W') [0,1,2,3,5,6,7,8] [4,9] 10 (by kernel_rfl) (by kernel_rfl) ⟨rfl,rfl,rfl,Nat.le_refl _,fun _ _=>rfl⟩ ?_
 iterate 8
  refine wpTakeL_step rfl ?_ rfl ?_ ?_
  rotate_left
  ·intro W' hS'
   have s0:=(hS'.cell (p:=⟨w.heap.size,0,none⟩) l1).trans c10
   have s1:=(hS'.cell (p:=⟨w.heap.size,1,none⟩) l1).trans c11
   have s2:=(hS'.cell (p:=⟨w.heap.size+1,0,none⟩) l2).trans c20
   have s3:=(hS'.cell (p:=⟨w.heap.size+1,1,none⟩) l2).trans c21
   have s4:=(hS'.cell (p:=⟨w.heap.size+1+1,0,none⟩) l3).trans c30
   have s5:=(hS'.cell (p:=⟨w.heap.size+1+1,1,none⟩) l3).trans c31
   go_simp
   try with_reducible rfl
  try simp only [zA,zB,zC,Act.put,zD,zE,zF]
 have hH0_0:Below wA.heap.size wA wA.drew:=⟨rfl,rfl,rfl,Nat.le_refl _,fun _ _=>rfl⟩
 refine wpKeepL_step rfl rfl (fun K hK=>?_)
 go_simp
 refine (S1.out _ (hw.below (hbA.trans (hH0_0.mono hbA.size)))).mono ?_
 rintro e v1 ⟨rfl,hbv1⟩
 have hH0_1:=hH0_0.trans (hbv1.mono hH0_0.size)
 refine hK _ _ ⟨hH0_1,?_⟩
 clear hK K
 try simp only [zA,zB,zC,Act.put,zD,zE,zF]
 refine wpKeepL_step rfl rfl (fun K hK=>?_)
 go_simp
 refine (S2.out _ (hw.below (hbA.trans (hH0_1.mono hbA.size)))).mono ?_
 rintro e v2 ⟨rfl,hbv2⟩
 have hH0_2:=hH0_1.trans (hbv2.mono hH0_1.size)
 refine hK _ _ ⟨hH0_2,?_⟩
 clear hK K
 try simp only [zA,zB,zC,Act.put,zD,zE,zF]
 unfold wpKeepL
 simp only [List.drop_succ_cons,List.drop_zero]
 try simp only [zA,zB,zC,Act.put,zD,zE,zF]
 refine wpKeep_step rfl (fun K hK=>?_)
 go_simp
 refine hK _ _ ⟨trivial,?_⟩
 clear hK K
 try simp only [zA,zB,zC,Act.put,zD,zE,zF]
 refine wpKeep_step rfl (fun K hK=>?_)
 go_simp
 refine hK _ _ ⟨trivial,wpKeep_nil ?_⟩
 clear hK K
 try simp only [zA,zB,zC,Act.put,zD,zE,zF]
 refine NormalOnly.mk ?_
 have hbv2:=hbA.trans (hH0_2.mono hbA.size)
 have l1_v2:=Nat.lt_of_lt_of_le l1 hH0_2.size
 have c10_v2:=(hH0_2.cell (p:=⟨w.heap.size,0,none⟩) l1).trans c10
 have c11_v2:=(hH0_2.cell (p:=⟨w.heap.size,1,none⟩) l1).trans c11
 have l2_v2:=Nat.lt_of_lt_of_le l2 hH0_2.size
 have c20_v2:=(hH0_2.cell (p:=⟨w.heap.size+1,0,none⟩) l2).trans c20
 have c21_v2:=(hH0_2.cell (p:=⟨w.heap.size+1,1,none⟩) l2).trans c21
 have l3_v2:=Nat.lt_of_lt_of_le l3 hH0_2.size
 have c30_v2:=(hH0_2.cell (p:=⟨w.heap.size+1+1,0,none⟩) l3).trans c30
 have c31_v2:=(hH0_2.cell (p:=⟨w.heap.size+1+1,1,none⟩) l3).trans c31
 clear c10 c11 c20 c21 c30 c31 l1 l2 l3
 go_wp2_with fail
 refine wp_held_list (fun W'=>Below v2.heap.size v2 W') [0,1,2,3,5,6,7,8] [4,9] 10 (by kernel_rfl) (by kernel_rfl) ⟨rfl,rfl,rfl,Nat.le_refl _,fun _ _=>rfl⟩ ?_
 iterate 8
  refine wpTakeL_step rfl ?_ rfl ?_ ?_
  rotate_left
  ·intro W' hS'
   have s0:=(hS'.cell (p:=⟨w.heap.size,0,none⟩) l1_v2).trans c10_v2
   have s1:=(hS'.cell (p:=⟨w.heap.size,1,none⟩) l1_v2).trans c11_v2
   have s2:=(hS'.cell (p:=⟨w.heap.size+1,0,none⟩) l2_v2).trans c20_v2
   have s3:=(hS'.cell (p:=⟨w.heap.size+1,1,none⟩) l2_v2).trans c21_v2
   have s4:=(hS'.cell (p:=⟨w.heap.size+1+1,0,none⟩) l3_v2).trans c30_v2
   have s5:=(hS'.cell (p:=⟨w.heap.size+1+1,1,none⟩) l3_v2).trans c31_v2
   go_simp
   try with_reducible rfl
  try simp only [zA,zB,zC,Act.put,zD,zE,zF]
 have hH2_0:Below v2.heap.size v2 v2.drew:=⟨rfl,rfl,rfl,Nat.le_refl _,fun _ _=>rfl⟩
 refine wpKeepL_step rfl rfl (fun K hK=>?_)
 go_simp
 refine (S3.out _ (hw.below (hbv2.trans (hH2_0.mono hbv2.size)))).mono ?_
 rintro e v3 ⟨rfl,hbv3⟩
 have hH2_1:=hH2_0.trans (hbv3.mono hH2_0.size)
 refine hK _ _ ⟨hH2_1,?_⟩
 clear hK K
 try simp only [zA,zB,zC,Act.put,zD,zE,zF]
 refine wpKeepL_step rfl rfl (fun K hK=>?_)
 go_simp
 refine (S4.out _ (hw.below (hbv2.trans (hH2_1.mono hbv2.size)))).mono ?_
 rintro e v4 ⟨rfl,hbv4⟩
 have hH2_2:=hH2_1.trans (hbv4.mono hH2_1.size)
 refine hK _ _ ⟨hH2_2,?_⟩
 clear hK K
 try simp only [zA,zB,zC,Act.put,zD,zE,zF]
 unfold wpKeepL
 simp only [List.drop_succ_cons,List.drop_zero]
 try simp only [zA,zB,zC,Act.put,zD,zE,zF]
 refine wpKeep_step rfl (fun K hK=>?_)
 go_simp
 refine hK _ _ ⟨trivial,?_⟩
 clear hK K
 try simp only [zA,zB,zC,Act.put,zD,zE,zF]
 refine wpKeep_step rfl (fun K hK=>?_)
 go_simp
 refine hK _ _ ⟨trivial,wpKeep_nil ?_⟩
 clear hK K
 try simp only [zA,zB,zC,Act.put,zD,zE,zF]
 refine NormalOnly.mk ?_
 have hbv4:=hbv2.trans (hH2_2.mono hbv2.size)
 have l1_v4:=Nat.lt_of_lt_of_le l1_v2 hH2_2.size
 have c10_v4:=(hH2_2.cell (p:=⟨w.heap.size,0,none⟩) l1_v2).trans c10_v2
 have c11_v4:=(hH2_2.cell (p:=⟨w.heap.size,1,none⟩) l1_v2).trans c11_v2
 have l2_v4:=Nat.lt_of_lt_of_le l2_v2 hH2_2.size
 have c20_v4:=(hH2_2.cell (p:=⟨w.heap.size+1,0,none⟩) l2_v2).trans c20_v2
 have c21_v4:=(hH2_2.cell (p:=⟨w.heap.size+1,1,none⟩) l2_v2).trans c21_v2
 have l3_v4:=Nat.lt_of_lt_of_le l3_v2 hH2_2.size
 have c30_v4:=(hH2_2.cell (p:=⟨w.heap.size+1+1,0,none⟩) l3_v2).trans c30_v2
 have c31_v4:=(hH2_2.cell (p:=⟨w.heap.size+1+1,1,none⟩) l3_v2).trans c31_v2
 clear c10_v2 c11_v2 c20_v2 c21_v2 c30_v2 c31_v2 l1_v2 l2_v2 l3_v2
 go_wp2_with fail
 refine (M1.out _ (hw.below hbv4)).mono ?_
 rintro e v5 ⟨rfl,hv5⟩
 have hbv5:=hbv4.trans (hv5.mono hbv4.size)
 have l1_v5:=Nat.lt_of_lt_of_le l1_v4 hv5.size
 have c10_v5:=(hv5.cell (p:=⟨w.heap.size,0,none⟩) l1_v4).trans c10_v4
 have c11_v5:=(hv5.cell (p:=⟨w.heap.size,1,none⟩) l1_v4).trans c11_v4
 have l2_v5:=Nat.lt_of_lt_of_le l2_v4 hv5.size
 have c20_v5:=(hv5.cell (p:=⟨w.heap.size+1,0,none⟩) l2_v4).trans c20_v4
 have c21_v5:=(hv5.cell (p:=⟨w.heap.size+1,1,none⟩) l2_v4).trans c21_v4
 have l3_v5:=Nat.lt_of_lt_of_le l3_v4 hv5.size
 have c30_v5:=(hv5.cell (p:=⟨w.heap.size+1+1,0,none⟩) l3_v4).trans c30_v4
 have c31_v5:=(hv5.cell (p:=⟨w.heap.size+1+1,1,none⟩) l3_v4).trans c31_v4
 clear c10_v4 c11_v4 c20_v4 c21_v4 c30_v4 c31_v4 l1_v4 l2_v4 l3_v4
 go_wp2_with fail
 refine (M2.out _ (hw.below hbv5)).mono ?_
 rintro e v6 ⟨rfl,hv6⟩
 have hbv6:=hbv5.trans (hv6.mono hbv5.size)
 have l1_v6:=Nat.lt_of_lt_of_le l1_v5 hv6.size
 have c10_v6:=(hv6.cell (p:=⟨w.heap.size,0,none⟩) l1_v5).trans c10_v5
 have c11_v6:=(hv6.cell (p:=⟨w.heap.size,1,none⟩) l1_v5).trans c11_v5
 have l2_v6:=Nat.lt_of_lt_of_le l2_v5 hv6.size
 have c20_v6:=(hv6.cell (p:=⟨w.heap.size+1,0,none⟩) l2_v5).trans c20_v5
 have c21_v6:=(hv6.cell (p:=⟨w.heap.size+1,1,none⟩) l2_v5).trans c21_v5
 have l3_v6:=Nat.lt_of_lt_of_le l3_v5 hv6.size
 have c30_v6:=(hv6.cell (p:=⟨w.heap.size+1+1,0,none⟩) l3_v5).trans c30_v5
 have c31_v6:=(hv6.cell (p:=⟨w.heap.size+1+1,1,none⟩) l3_v5).trans c31_v5
 clear c10_v5 c11_v5 c20_v5 c21_v5 c30_v5 c31_v5 l1_v5 l2_v5 l3_v5
 go_wp2_with fail
 refine (S5.out _ (hw.below hbv6)).mono ?_
 rintro e v7 ⟨rfl,hv7⟩
 have hbv7:=hbv6.trans (hv7.mono hbv6.size)
 have l1_v7:=Nat.lt_of_lt_of_le l1_v6 hv7.size
 have c10_v7:=(hv7.cell (p:=⟨w.heap.size,0,none⟩) l1_v6).trans c10_v6
 have c11_v7:=(hv7.cell (p:=⟨w.heap.size,1,none⟩) l1_v6).trans c11_v6
 have l2_v7:=Nat.lt_of_lt_of_le l2_v6 hv7.size
 have c20_v7:=(hv7.cell (p:=⟨w.heap.size+1,0,none⟩) l2_v6).trans c20_v6
 have c21_v7:=(hv7.cell (p:=⟨w.heap.size+1,1,none⟩) l2_v6).trans c21_v6
 have l3_v7:=Nat.lt_of_lt_of_le l3_v6 hv7.size
 have c30_v7:=(hv7.cell (p:=⟨w.heap.size+1+1,0,none⟩) l3_v6).trans c30_v6
 have c31_v7:=(hv7.cell (p:=⟨w.heap.size+1+1,1,none⟩) l3_v6).trans c31_v6
 clear c10_v6 c11_v6 c20_v6 c21_v6 c30_v6 c31_v6 l1_v6 l2_v6 l3_v6
 go_wp2
 go_ret
 exact ⟨rfl,hbv7⟩
theorem pg_turn (a b c:QP) (ha:Sz2 1000000 a) (hb:Sz2 1000000 b) (hc:Sz2 1000000 c) (w:World) (hw:Good w) :
  Calls Tryz.prog 63 #[ptV a,ptV b,ptV c] w (RV (.int .i64 (sgnR (crs a b c))) w):=by
 have A1:=hid (fun w' (hg:Good w')=>pg_area a b c ha hb hc w' hg)
 have G1:=hid (fun w'=>k_sign (crs a b c) ((sz_crs ha hb hc).mono (by decide)) w')
 unfold RV at A1 G1
 clear ha hb hc
 unfold ptV at *
 generalize tx (crs a b c)=r at *
 generalize sgnR (crs a b c)=g at *
 generalize tx a.1=a1 at *
 generalize tx a.2=a2 at *
 generalize tx b.1=b1 at *
 generalize tx b.2=b2 at *
 generalize tx c.1=c1 at *
 generalize tx c.2=c2 at *
 go_enter Tryz.func63,Tryz.ntmps63
 go_upto_region 1 with fail
 obtain ⟨wA,hwA⟩ : ∃ wA,wA=(((w.alloc (Obj.cells #[.string a1,.string a2] 31)).alloc (Obj.cells #[.string b1,.string b2] 31)).alloc (Obj.cells #[.string c1,.string c2] 31)):=⟨_,rfl⟩
 obtain ⟨hbA,x1,x2,x3⟩:=boxes3 hwA
 rw [←hwA]
 clear hwA
 have l1:=lt_of_blk x1
 obtain ⟨c10,c11,_,_⟩:=two_cells x1
 have l2:=lt_of_blk x2
 obtain ⟨c20,c21,_,_⟩:=two_cells x2
 have l3:=lt_of_blk x3
 obtain ⟨c30,c31,_,_⟩:=two_cells x3
 clear x1 x2 x3
 go_wp2_with fail
 refine (A1.out _ (hw.below hbA)).mono ?_
 rintro e v1 ⟨rfl,hv1⟩
 have hbv1:=hbA.trans (hv1.mono hbA.size)
 have l1_v1:=Nat.lt_of_lt_of_le l1 hv1.size
 have c10_v1:=(hv1.cell (p:=⟨w.heap.size,0,none⟩) l1).trans c10
 have c11_v1:=(hv1.cell (p:=⟨w.heap.size,1,none⟩) l1).trans c11
 have l2_v1:=Nat.lt_of_lt_of_le l2 hv1.size
 have c20_v1:=(hv1.cell (p:=⟨w.heap.size+1,0,none⟩) l2).trans c20
 have c21_v1:=(hv1.cell (p:=⟨w.heap.size+1,1,none⟩) l2).trans c21
 have l3_v1:=Nat.lt_of_lt_of_le l3 hv1.size
 have c30_v1:=(hv1.cell (p:=⟨w.heap.size+1+1,0,none⟩) l3).trans c30
 have c31_v1:=(hv1.cell (p:=⟨w.heap.size+1+1,1,none⟩) l3).trans c31
 clear c10 c11 c20 c21 c30 c31 l1 l2 l3
 go_wp2_with fail
 refine (G1.out _).mono ?_
 rintro e v2 ⟨rfl,hv2⟩
 have hbv2:=hbv1.trans (hv2.mono hbv1.size)
 have l1_v2:=Nat.lt_of_lt_of_le l1_v1 hv2.size
 have c10_v2:=(hv2.cell (p:=⟨w.heap.size,0,none⟩) l1_v1).trans c10_v1
 have c11_v2:=(hv2.cell (p:=⟨w.heap.size,1,none⟩) l1_v1).trans c11_v1
 have l2_v2:=Nat.lt_of_lt_of_le l2_v1 hv2.size
 have c20_v2:=(hv2.cell (p:=⟨w.heap.size+1,0,none⟩) l2_v1).trans c20_v1
 have c21_v2:=(hv2.cell (p:=⟨w.heap.size+1,1,none⟩) l2_v1).trans c21_v1
 have l3_v2:=Nat.lt_of_lt_of_le l3_v1 hv2.size
 have c30_v2:=(hv2.cell (p:=⟨w.heap.size+1+1,0,none⟩) l3_v1).trans c30_v1
 have c31_v2:=(hv2.cell (p:=⟨w.heap.size+1+1,1,none⟩) l3_v1).trans c31_v1
 clear c10_v1 c11_v1 c20_v1 c21_v1 c30_v1 c31_v1 l1_v1 l2_v1 l3_v1
 go_wp2
 go_ret
 exact ⟨rfl,hbv2⟩
theorem pg_toward (a b k:Rat) (ha:Sz 1000000 a) (hb:Sz 1000000 b) (hk:Sz 1000000 k) (w:World) (hw:Good w) :
  Calls Tryz.prog 126 #[.string (tx a),.string (tx b),.string (tx k)] w (RV (.string (tx (a+k*(b-a)))) w):=by
 have S1:=hid (fun w' (hg:Good w')=>k_sub b a (hb.mono (by decide)) (ha.mono (by decide)) w' hg)
 have M1:=hid (fun w' (hg:Good w')=>k_mul k (b-a) (hk.mono (by decide)) ((hb.sub ha).mono (by decide)) w' hg)
 have A1:=hid (fun w' (hg:Good w')=>k_add a (k*(b-a)) (ha.mono (by decide)) ((hk.mul (hb.sub ha)).mono (by decide)) w' hg)
 unfold RV at S1 M1 A1
 clear ha hb hk
 generalize tx (a+k*(b-a))=r at *
 generalize tx (k*(b-a))=m1 at *
 generalize tx (b-a)=s1 at *
 generalize tx a=ta at *
 generalize tx b=tb at *
 generalize tx k=tk at *
 go_enter Tryz.func126,Tryz.ntmps126
 go_wp2_with fail
 refine (S1.out _ hw).mono ?_
 rintro e v1 ⟨rfl,hv1⟩
 have hbv1:=hv1
 go_wp2_with fail
 refine (M1.out _ (hw.below hbv1)).mono ?_
 rintro e v2 ⟨rfl,hv2⟩
 have hbv2:=hbv1.trans (hv2.mono hbv1.size)
 go_wp2_with fail
 refine (A1.out _ (hw.below hbv2)).mono ?_
 rintro e v3 ⟨rfl,hv3⟩
 have hbv3:=hbv2.trans (hv3.mono hbv2.size)
 go_wp2
 go_ret
 exact ⟨rfl,hbv3⟩
def lexI (p q:QP):Int:=if cmpR p.1 q.1=0 then cmpR p.2 q.2 else cmpR p.1 q.1
theorem lexI_neg {p q:QP}:lexI p q<0↔lssP p q:=by
 unfold lexI lssP
 by_cases h:cmpR p.1 q.1=0
 ·rw [if_pos h,cmpR_neg]
  have:=cmpR_zero.1 h
  constructor
  ·intro h2;exact .inr ⟨this,h2⟩
  ·rintro (h2 | h2)
   ·exfalso;grind
   ·exact h2.2
 ·rw [if_neg h,cmpR_neg]
  constructor
  ·exact .inl
  ·rintro (h2 | h2)
   ·exact h2
   ·exact absurd (cmpR_zero.2 h2.1) h
theorem pg_less (p q:QP) (hp:Sz2 1000000 p) (hq:Sz2 1000000 q) (w:World) (hw:Good w) :
  Calls Tryz.prog 55 #[ptV p,ptV q] w (RV (.int .i64 (lexI p q)) w):=by
 have H1:=hid (fun w' (hg:Good w')=>k_cmp p.1 q.1 (hp.1.mono (by decide)) (hq.1.mono (by decide)) w' hg)
 have H2:=hid (fun w' (hg:Good w')=>k_cmp p.2 q.2 (hp.2.mono (by decide)) (hq.2.mono (by decide)) w' hg)
 unfold RV at H1 H2
 clear hp hq
 unfold ptV lexI
 have gc:=cmpR_cases p.1 q.1
 generalize cmpR p.1 q.1=c1 at *
 generalize cmpR p.2 q.2=c2 at *
 generalize tx p.1=p1 at *
 generalize tx p.2=p2 at *
 generalize tx q.1=q1 at *
 generalize tx q.2=q2 at *
 by_cases hc:c1=0
 ·subst hc
  go_enter Tryz.func55,Tryz.ntmps55
  go_upto_region 1 with fail
  obtain ⟨wA,hwA⟩ : ∃ wA,wA=(w.alloc (Obj.cells #[.string p1,.string p2] 31)).alloc (Obj.cells #[.string q1,.string q2] 31):=⟨_,rfl⟩
  obtain ⟨hbA,x1,x2⟩:=boxes2 hwA
  rw [←hwA]
  clear hwA
  have l1:=lt_of_blk x1
  have l2:=lt_of_blk x2
  obtain ⟨a0,a1,_,_⟩:=two_cells x1
  obtain ⟨b0,b1,_,_⟩:=two_cells x2
  clear x1 x2
  go_wp2_with fail
  refine (H1.out _ (hw.below hbA)).mono ?_
  rintro e v1 ⟨rfl,hv1⟩
  have hb1:=hbA.trans (hv1.mono hbA.size)
  have d0:=(hv1.cell (p:=⟨w.heap.size,1,none⟩) l1).trans a1
  have d1:=(hv1.cell (p:=⟨w.heap.size+1,1,none⟩) l2).trans b1
  clear a0 a1 b0 b1
  go_wp2_with fail
  refine (H2.out _ (hw.below hb1)).mono ?_
  rintro e v2 ⟨rfl,hv2⟩
  go_wp2
  go_ret
  exact ⟨rfl,hb1.trans (hv2.mono hb1.size)⟩
 ·rw [if_neg hc]
  have hc2:(c1 == 0)=false:=by simpa using hc
  have hc3:(c1 != 0)=true:=by simpa using hc
  clear hc
  go_enter Tryz.func55,Tryz.ntmps55
  go_upto_region 1 with fail
  obtain ⟨wA,hwA⟩ : ∃ wA,wA=(w.alloc (Obj.cells #[.string p1,.string p2] 31)).alloc (Obj.cells #[.string q1,.string q2] 31):=⟨_,rfl⟩
  obtain ⟨hbA,x1,x2⟩:=boxes2 hwA
  rw [←hwA]
  clear hwA
  have l1:=lt_of_blk x1
  have l2:=lt_of_blk x2
  obtain ⟨a0,a1,_,_⟩:=two_cells x1
  obtain ⟨b0,b1,_,_⟩:=two_cells x2
  clear x1 x2
  go_wp2_with fail
  refine (H1.out _ (hw.below hbA)).mono ?_
  rintro e v1 ⟨rfl,hv1⟩
  have hb1:=hbA.trans (hv1.mono hbA.size)
  have d0:=(hv1.cell (p:=⟨w.heap.size,1,none⟩) l1).trans a1
  have d1:=(hv1.cell (p:=⟨w.heap.size+1,1,none⟩) l2).trans b1
  clear a0 a1 b0 b1
  go_wp2
  go_ret
  exact ⟨rfl,hb1⟩
theorem sgn_sub_cmp (p q:Rat):sgnR (p-q)=cmpR p q:=by
 rcases cmpR_cases p q with h | h | h
 ·rw [h];exact sgnR_neg (by have:=cmpR_lt.1 h;grind)
 ·rw [h];exact sgnR_zero (by have:=cmpR_zero.1 h;grind)
 ·rw [h];exact sgnR_pos (by have:=cmpR_pos.1 (show 0<cmpR p q by omega);grind)
def lessB (p q:QP):Bool:=decide (lexI p q<0)
theorem lessB_iff {p q:QP}:lessB p q=true↔lssP p q:=by unfold lessB;rw [decide_eq_true_iff,lexI_neg]
theorem r9_less (p q:QP) (hp:Sz2 100000 p) (hq:Sz2 100000 q) (w:World) (hw:Good w) :
  Calls Tryz.prog 101 #[ptV p,ptV q] w (RV (.bool (lessB p q)) w):=by
 have H1:=hid (fun w' (hg:Good w')=>r_cmp p.1 q.1 (hp.1.mono (by decide)) (hq.1.mono (by decide)) w' hg)
 have H2:=hid (fun w' (hg:Good w')=>r_cmp p.2 q.2 (hp.2.mono (by decide)) (hq.2.mono (by decide)) w' hg)
 rw [sgn_sub_cmp] at H1 H2
 unfold RV at H1 H2
 clear hp hq
 unfold ptV lessB lexI
 have gc:=cmpR_cases p.1 q.1
 generalize cmpR p.1 q.1=c1 at *
 generalize cmpR p.2 q.2=c2 at *
 generalize tx p.1=p1 at *
 generalize tx p.2=p2 at *
 generalize tx q.1=q1 at *
 generalize tx q.2=q2 at *
 by_cases hc:c1=0
 ·subst hc
  go_enter Tryz.func101,Tryz.ntmps101
  go_upto_region 1 with fail
  obtain ⟨wA,hwA⟩ : ∃ wA,wA=(w.alloc (Obj.cells #[.string p1,.string p2] 31)).alloc (Obj.cells #[.string q1,.string q2] 31):=⟨_,rfl⟩
  obtain ⟨hbA,x1,x2⟩:=boxes2 hwA
  rw [←hwA]
  clear hwA
  have l1:=lt_of_blk x1
  have l2:=lt_of_blk x2
  obtain ⟨a0,a1,_,_⟩:=two_cells x1
  obtain ⟨b0,b1,_,_⟩:=two_cells x2
  clear x1 x2
  go_wp2_with fail
  refine (H1.out _ (hw.below hbA)).mono ?_
  rintro e v1 ⟨rfl,hv1⟩
  have hb1:=hbA.trans (hv1.mono hbA.size)
  have d0:=(hv1.cell (p:=⟨w.heap.size,1,none⟩) l1).trans a1
  have d1:=(hv1.cell (p:=⟨w.heap.size+1,1,none⟩) l2).trans b1
  clear a0 a1 b0 b1
  go_wp2_with fail
  refine (H2.out _ (hw.below hb1)).mono ?_
  rintro e v2 ⟨rfl,hv2⟩
  go_wp2
  go_ret
  exact ⟨rfl,hb1.trans (hv2.mono hb1.size)⟩
 ·rw [if_neg hc]
  have hc2:(c1 == 0)=false:=by simpa using hc
  by_cases hc4:c1<0
  ·rw [decide_eq_true hc4]
   go_enter Tryz.func101,Tryz.ntmps101
   go_upto_region 1 with fail
   obtain ⟨wA,hwA⟩ : ∃ wA,wA=(w.alloc (Obj.cells #[.string p1,.string p2] 31)).alloc (Obj.cells #[.string q1,.string q2] 31):=⟨_,rfl⟩
   obtain ⟨hbA,x1,x2⟩:=boxes2 hwA
   rw [←hwA]
   clear hwA
   have l1:=lt_of_blk x1
   have l2:=lt_of_blk x2
   obtain ⟨a0,a1,_,_⟩:=two_cells x1
   obtain ⟨b0,b1,_,_⟩:=two_cells x2
   clear x1 x2
   go_wp2_with fail
   refine (H1.out _ (hw.below hbA)).mono ?_
   rintro e v1 ⟨rfl,hv1⟩
   have hb1:=hbA.trans (hv1.mono hbA.size)
   have d0:=(hv1.cell (p:=⟨w.heap.size,1,none⟩) l1).trans a1
   have d1:=(hv1.cell (p:=⟨w.heap.size+1,1,none⟩) l2).trans b1
   clear a0 a1 b0 b1
   go_wp2
   go_ret
   exact ⟨rfl,hb1⟩
  ·rw [decide_eq_false hc4]
   have hc5:decide (c1<0)=false:=decide_eq_false hc4
   clear hc4
   go_enter Tryz.func101,Tryz.ntmps101
   go_upto_region 1 with fail
   obtain ⟨wA,hwA⟩ : ∃ wA,wA=(w.alloc (Obj.cells #[.string p1,.string p2] 31)).alloc (Obj.cells #[.string q1,.string q2] 31):=⟨_,rfl⟩
   obtain ⟨hbA,x1,x2⟩:=boxes2 hwA
   rw [←hwA]
   clear hwA
   have l1:=lt_of_blk x1
   have l2:=lt_of_blk x2
   obtain ⟨a0,a1,_,_⟩:=two_cells x1
   obtain ⟨b0,b1,_,_⟩:=two_cells x2
   clear x1 x2
   go_wp2_with fail
   refine (H1.out _ (hw.below hbA)).mono ?_
   rintro e v1 ⟨rfl,hv1⟩
   have hb1:=hbA.trans (hv1.mono hbA.size)
   have d0:=(hv1.cell (p:=⟨w.heap.size,1,none⟩) l1).trans a1
   have d1:=(hv1.cell (p:=⟨w.heap.size+1,1,none⟩) l2).trans b1
   clear a0 a1 b0 b1
   go_wp2
   go_ret
   exact ⟨rfl,hb1⟩
def btwB (a b p:QP):Bool:=decide (sgnR (crs a b p)=0) && insB a.1 b.1 p.1 && insB a.2 b.2 p.2
theorem btwB_iff {a b p:QP}:btwB a b p=true↔crs a b p=0∧btw a b p:=by
 unfold btwB btw
 rw [Bool.and_eq_true,Bool.and_eq_true,decide_eq_true_iff,insB_iff,insB_iff]
 have:sgnR (crs a b p)=0↔crs a b p=0:=by
  rcases sgnR_cases (crs a b p) with ⟨h,e⟩ | ⟨h,e⟩ | ⟨h,e⟩ <;> rw [e]
  ·constructor
   ·intro h2;omega
   ·intro h2;grind
  ·simp [h]
  ·constructor
   ·intro h2;omega
   ·intro h2;grind
 rw [this,and_assoc]
theorem r5_between (a b c:QP) (ha:Sz2 10000 a) (hb:Sz2 10000 b) (hc:Sz2 10000 c) (w:World) (hw:Good w) :
  Calls Tryz.prog 110 #[ptV a,ptV b,ptV c] w (RV (.bool (btwB a b c)) w):=by
 have T1:=hid (fun w' (hg:Good w')=>r5_turn a b c ha hb hc w' hg)
 have I1:=hid (fun w' (hg:Good w')=>r5_inside a.1 b.1 c.1 (ha.1.mono (by decide)) (hb.1.mono (by decide)) (hc.1.mono (by decide)) w' hg)
 have I2:=hid (fun w' (hg:Good w')=>r5_inside a.2 b.2 c.2 (ha.2.mono (by decide)) (hb.2.mono (by decide)) (hc.2.mono (by decide)) w' hg)
 unfold RV at T1 I1 I2
 clear ha hb hc
 unfold ptV at *
 unfold btwB
 generalize sgnR (crs a b c)=g at *
 generalize insB a.1 b.1 c.1=i1 at *
 generalize insB a.2 b.2 c.2=i2 at *
 generalize tx a.1=a1 at *
 generalize tx a.2=a2 at *
 generalize tx b.1=b1 at *
 generalize tx b.2=b2 at *
 generalize tx c.1=c1 at *
 generalize tx c.2=c2 at *
 by_cases hg0:g=0
 ·subst hg0
  cases i1
  ·go_enter Tryz.func110,Tryz.ntmps110
   go_upto_region 1 with fail
   obtain ⟨wA,hwA⟩ : ∃ wA,wA=((w.alloc (Obj.cells #[.string a1,.string a2] 31)).alloc (Obj.cells #[.string b1,.string b2] 31)).alloc (Obj.cells #[.string c1,.string c2] 31):=⟨_,rfl⟩
   obtain ⟨hbA,x1,x2,x3⟩:=boxes3 hwA
   rw [←hwA]
   clear hwA
   obtain ⟨k00,k01,_,_⟩:=two_cells x1
   obtain ⟨k10,k11,_,_⟩:=two_cells x2
   obtain ⟨k20,k21,_,_⟩:=two_cells x3
   go_wp2_with fail
   refine (T1.out _ (hw.below hbA)).mono ?_
   rintro e v1 ⟨rfl,hv1⟩
   have hbv1:=hbA.trans (hv1.mono hbA.size)
   have x1_v1:=(hv1.block _ (lt_of_blk x1)).trans x1
   have x2_v1:=(hv1.block _ (lt_of_blk x2)).trans x2
   have x3_v1:=(hv1.block _ (lt_of_blk x3)).trans x3
   clear k00 k01 k10 k11 k20 k21
   obtain ⟨k00,k01,_,_⟩:=two_cells x1_v1
   obtain ⟨k10,k11,_,_⟩:=two_cells x2_v1
   obtain ⟨k20,k21,_,_⟩:=two_cells x3_v1
   go_wp2_with fail
   refine (I1.out _ (hw.below hbv1)).mono ?_
   rintro e v2 ⟨rfl,hv2⟩
   have hbv2:=hbv1.trans (hv2.mono hbv1.size)
   go_wp2
   go_ret
   exact ⟨rfl,hbv2⟩
  ·go_enter Tryz.func110,Tryz.ntmps110
   go_upto_region 1 with fail
   obtain ⟨wA,hwA⟩ : ∃ wA,wA=((w.alloc (Obj.cells #[.string a1,.string a2] 31)).alloc (Obj.cells #[.string b1,.string b2] 31)).alloc (Obj.cells #[.string c1,.string c2] 31):=⟨_,rfl⟩
   obtain ⟨hbA,x1,x2,x3⟩:=boxes3 hwA
   rw [←hwA]
   clear hwA
   obtain ⟨k00,k01,_,_⟩:=two_cells x1
   obtain ⟨k10,k11,_,_⟩:=two_cells x2
   obtain ⟨k20,k21,_,_⟩:=two_cells x3
   go_wp2_with fail
   refine (T1.out _ (hw.below hbA)).mono ?_
   rintro e v1 ⟨rfl,hv1⟩
   have hbv1:=hbA.trans (hv1.mono hbA.size)
   have x1_v1:=(hv1.block _ (lt_of_blk x1)).trans x1
   have x2_v1:=(hv1.block _ (lt_of_blk x2)).trans x2
   have x3_v1:=(hv1.block _ (lt_of_blk x3)).trans x3
   clear k00 k01 k10 k11 k20 k21
   obtain ⟨k00,k01,_,_⟩:=two_cells x1_v1
   obtain ⟨k10,k11,_,_⟩:=two_cells x2_v1
   obtain ⟨k20,k21,_,_⟩:=two_cells x3_v1
   go_wp2_with fail
   refine (I1.out _ (hw.below hbv1)).mono ?_
   rintro e v2 ⟨rfl,hv2⟩
   have hbv2:=hbv1.trans (hv2.mono hbv1.size)
   have x1_v2:=(hv2.block _ (lt_of_blk x1_v1)).trans x1_v1
   have x2_v2:=(hv2.block _ (lt_of_blk x2_v1)).trans x2_v1
   have x3_v2:=(hv2.block _ (lt_of_blk x3_v1)).trans x3_v1
   clear k00 k01 k10 k11 k20 k21
   obtain ⟨k00,k01,_,_⟩:=two_cells x1_v2
   obtain ⟨k10,k11,_,_⟩:=two_cells x2_v2
   obtain ⟨k20,k21,_,_⟩:=two_cells x3_v2
   go_wp2_with fail
   refine (I2.out _ (hw.below hbv2)).mono ?_
   rintro e v3 ⟨rfl,hv3⟩
   have hbv3:=hbv2.trans (hv3.mono hbv2.size)
   go_wp2
   go_ret
   exact ⟨rfl,hbv3⟩
 ·rw [decide_eq_false hg0]
  have hg1:(g == 0)=false:=by simpa using hg0
  clear hg0
  go_enter Tryz.func110,Tryz.ntmps110
  go_upto_region 1 with fail
  obtain ⟨wA,hwA⟩ : ∃ wA,wA=((w.alloc (Obj.cells #[.string a1,.string a2] 31)).alloc (Obj.cells #[.string b1,.string b2] 31)).alloc (Obj.cells #[.string c1,.string c2] 31):=⟨_,rfl⟩
  obtain ⟨hbA,x1,x2,x3⟩:=boxes3 hwA
  rw [←hwA]
  clear hwA
  obtain ⟨k00,k01,_,_⟩:=two_cells x1
  obtain ⟨k10,k11,_,_⟩:=two_cells x2
  obtain ⟨k20,k21,_,_⟩:=two_cells x3
  go_wp2_with fail
  refine (T1.out _ (hw.below hbA)).mono ?_
  rintro e v1 ⟨rfl,hv1⟩
  have hbv1:=hbA.trans (hv1.mono hbA.size)
  go_wp2
  go_ret
  exact ⟨rfl,hbv1⟩
end Go.Proofs.YtgohnjdgoglcfaaGreatDoor
