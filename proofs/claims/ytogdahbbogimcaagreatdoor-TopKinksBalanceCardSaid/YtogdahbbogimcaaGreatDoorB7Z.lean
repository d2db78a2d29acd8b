import Derived.Test.YtogdahbbogimcaaGreatDoorKk1Z
import Derived.Test.YtogdahbbogimcaaGreatDoorB1Z
set_option maxRecDepth 100000
set_option maxHeartbeats 4000000
namespace Go.Proofs.YtogdahbbogimcaaGreatDoor
open Go.RowKit Go.Shelf
open Go.Lib (decDigits itoa nDigits)
open Go.Lib (hid)
theorem k_sign (q:Rat) (hq:Sz 9000000000 q) (w:World):Calls Tryz.prog 76 #[.string (tx q)] w (RV (.int .i64 (sgnR q)) w):=
 (rational_Sign (tx q) q (isR_mk q) hq w).mono fun _ _ ⟨he,hb⟩=>⟨he,hb ▸ Below.refl _ _⟩
theorem boxes1 {w wA:World} {a b:Value} {t:TypeId} (hwA:wA=w.alloc (Obj.cells #[a,b] t)) :
  Below w.heap.size w wA∧wA.heap[w.heap.size]?=some (.cells #[a,b] t (0,0)):=by
 rw [hwA];exact ⟨alloc_below _ _,World.alloc_heap_new _ _⟩
theorem sz_crs {n:Nat} {a b c:QP} (ha:Sz2 n a) (hb:Sz2 n b) (hc:Sz2 n c):Sz (32*n+70) (crs a b c):=
 (((hb.1.sub ha.1).mul (hc.2.sub ha.2)).sub ((hb.2.sub ha.2).mul (hc.1.sub ha.1))).mono (by omega)
theorem sgnR_bound (q:Rat):-1≤sgnR q∧sgnR q≤1:=by
 unfold sgnR
 rcases sgn_cases q.num with ⟨a,b⟩ | ⟨a,b⟩ | ⟨a,b⟩ <;> omega
theorem sgnR_neg {q:Rat} (h:q<0):sgnR q = -1:=sgn_neg (num_neg_iff.1 h)
theorem sgnR_zero {q:Rat} (h:q=0):sgnR q=0:=sgn_zero (num_zero_iff.1 h)
theorem sgnR_pos {q:Rat} (h:0<q):sgnR q=1:=sgn_pos (by
 have a:=mt num_neg_iff.2 (show ¬ q<0 by grind)
 have b:=mt num_zero_iff.2 (show ¬ q=0 by grind)
 omega)
theorem sgnR_cases (q:Rat):(q<0∧sgnR q = -1)∨(q=0∧sgnR q=0)∨(0<q∧sgnR q=1):=by
 by_cases h:q<0
 ·exact .inl ⟨h,sgnR_neg h⟩
 ·by_cases h0:q=0
  ·exact .inr (.inl ⟨h0,sgnR_zero h0⟩)
  ·have:0<q:=by grind
   exact .inr (.inr ⟨this,sgnR_pos this⟩)
def lexI (p q:QP):Int:=if cmpR p.1 q.1=0 then cmpR p.2 q.2 else cmpR p.1 q.1
theorem lexI_neg {p q:QP}:lexI p q<0↔lssP p q:=by
 unfold lexI lssP
 by_cases h:cmpR p.1 q.1=0
 ·rw [if_pos h,cmpR_neg]
  have:=cmpR_zero.1 h
  constructor
  ·intro h2;exact .inr ⟨this,h2⟩
  ·rintro (h2 | h2)
   ·exfalso;grind
   ·exact h2.2
 ·rw [if_neg h,cmpR_neg]
  constructor
  ·exact .inl
  ·rintro (h2 | h2)
   ·exact h2
   ·exact absurd (cmpR_zero.2 h2.1) h
theorem lexI_bound (p q:QP):-1≤lexI p q∧lexI p q≤1:=by
 unfold lexI
 rcases cmpR_cases p.1 q.1 with h | h | h <;> rcases cmpR_cases p.2 q.2 with h' | h' | h' <;> split <;> omega
theorem pl_area (a b c:QP) (ha:Sz2 1000000 a) (hb:Sz2 1000000 b) (hc:Sz2 1000000 c) (w:World) (hw:Good w) :
  Calls Tryz.prog 57 #[ptV a,ptV b,ptV c] w (RV (.string (tx (crs a b c))) w):=by
 have S1:=hid (fun w' (hg:Good w')=>k_sub b.1 a.1 (hb.1.mono (by decide)) (ha.1.mono (by decide)) w' hg)
 have S4:=hid (fun w' (hg:Good w')=>k_sub c.2 a.2 (hc.2.mono (by decide)) (ha.2.mono (by decide)) w' hg)
 have M1:=hid (fun w' (hg:Good w')=>k_mul (b.1-a.1) (c.2-a.2) ((hb.1.sub ha.1).mono (by decide)) ((hc.2.sub ha.2).mono (by decide)) w' hg)
 have S2:=hid (fun w' (hg:Good w')=>k_sub b.2 a.2 (hb.2.mono (by decide)) (ha.2.mono (by decide)) w' hg)
 have S3:=hid (fun w' (hg:Good w')=>k_sub c.1 a.1 (hc.1.mono (by decide)) (ha.1.mono (by decide)) w' hg)
 have M2:=hid (fun w' (hg:Good w')=>k_mul (b.2-a.2) (c.1-a.1) ((hb.2.sub ha.2).mono (by decide)) ((hc.1.sub ha.1).mono (by decide)) w' hg)
 have S5:=hid (fun w' (hg:Good w')=>k_sub ((b.1-a.1)*(c.2-a.2)) ((b.2-a.2)*(c.1-a.1)) (((hb.1.sub ha.1).mul (hc.2.sub ha.2)).mono (by decide)) (((hb.2.sub ha.2).mul (hc.1.sub ha.1)).mono (by decide)) w' hg)
 unfold RV at S1 S4 M1 S2 S3 M2 S5
 clear ha hb hc
 unfold ptV crs
 generalize tx ((b.1-a.1)*(c.2-a.2)-(b.2-a.2)*(c.1-a.1))=r at *
 generalize tx ((b.1-a.1)*(c.2-a.2))=m1 at *
 generalize tx ((b.2-a.2)*(c.1-a.1))=m2 at *
 generalize tx (b.1-a.1)=s1 at *
 generalize tx (c.2-a.2)=s2 at *
 generalize tx (b.2-a.2)=s3 at *
 generalize tx (c.1-a.1)=s4 at *
 generalize tx a.1=a1 at *
 generalize tx a.2=a2 at *
 generalize tx b.1=b1 at *
 generalize tx b.2=b2 at *
 generalize tx c.1=c1 at *
 generalize tx c.2=c2 at *
 go_enter Tryz.func57,Tryz.ntmps57
 go_wp2_with fail
 obtain ⟨wA,hwA⟩ : ∃ wA,wA=(((w.alloc (Obj.cells #[.string a1,.string a2] 30)).alloc (Obj.cells #[.string b1,.string b2] 30)).alloc (Obj.cells #[.string c1,.string c2] 30)):=⟨_,rfl⟩
 obtain ⟨hbA,x1,x2,x3⟩:=boxes3 hwA
 rw [←hwA]
 clear hwA
 have l1:=lt_of_blk x1
 obtain ⟨c10,c11,_,_⟩:=two_cells x1
 have l2:=lt_of_blk x2
 obtain ⟨c20,c21,_,_⟩:=two_cells x2
 have l3:=lt_of_blk x3
 obtain ⟨c30,c31,_,_⟩:=two_cells x3
 clear x1 x2 x3
 refine wp_held_list (fun W'=>Below wA.heap.size wA W') [0,1,2,3,5,6,7,8,11,12,13,14,16,17,18,19] [4,9,10,15,20,21,22] 23 (by kernel_rfl) (by kernel_rfl) ⟨rfl,rfl,rfl,Nat.le_refl _,fun _ _=>rfl⟩ ?_
 iterate 16
  refine wpTakeL_step rfl ?_ rfl ?_ ?_
  rotate_left
  ·intro W' hS'
   have s0:=(hS'.cell (p:=⟨w.heap.size,0,none⟩) l1).trans c10
   have s1:=(hS'.cell (p:=⟨w.heap.size,1,none⟩) l1).trans c11
   have s2:=(hS'.cell (p:=⟨w.heap.size+1,0,none⟩) l2).trans c20
   have s3:=(hS'.cell (p:=⟨w.heap.size+1,1,none⟩) l2).trans c21
   have s4:=(hS'.cell (p:=⟨w.heap.size+1+1,0,none⟩) l3).trans c30
   have s5:=(hS'.cell (p:=⟨w.heap.size+1+1,1,none⟩) l3).trans c31
   go_simp
   try with_reducible rfl
  try simp only [zA,zB,zC,Act.put,zD,zE,zF]
 have hH0_0:Below wA.heap.size wA wA.drew:=⟨rfl,rfl,rfl,Nat.le_refl _,fun _ _=>rfl⟩
 refine wpKeepL_step rfl rfl (fun K hK=>?_)
 go_simp
 refine (S1.out _ (hw.below (hbA.trans (hH0_0.mono hbA.size)))).mono ?_
 rintro e v1 ⟨rfl,hbv1⟩
 have hH0_1:=hH0_0.trans (hbv1.mono hH0_0.size)
 refine hK _ _ ⟨hH0_1,?_⟩
 clear hK K
 try simp only [zA,zB,zC,Act.put,zD,zE,zF]
 refine wpKeepL_step rfl rfl (fun K hK=>?_)
 go_simp
 refine (S4.out _ (hw.below (hbA.trans (hH0_1.mono hbA.size)))).mono ?_
 rintro e v2 ⟨rfl,hbv2⟩
 have hH0_2:=hH0_1.trans (hbv2.mono hH0_1.size)
 refine hK _ _ ⟨hH0_2,?_⟩
 clear hK K
 try simp only [zA,zB,zC,Act.put,zD,zE,zF]
 refine wpKeepL_step rfl rfl (fun K hK=>?_)
 go_simp
 refine (M1.out _ (hw.below (hbA.trans (hH0_2.mono hbA.size)))).mono ?_
 rintro e v3 ⟨rfl,hbv3⟩
 have hH0_3:=hH0_2.trans (hbv3.mono hH0_2.size)
 refine hK _ _ ⟨hH0_3,?_⟩
 clear hK K
 try simp only [zA,zB,zC,Act.put,zD,zE,zF]
 refine wpKeepL_step rfl rfl (fun K hK=>?_)
 go_simp
 refine (S2.out _ (hw.below (hbA.trans (hH0_3.mono hbA.size)))).mono ?_
 rintro e v4 ⟨rfl,hbv4⟩
 have hH0_4:=hH0_3.trans (hbv4.mono hH0_3.size)
 refine hK _ _ ⟨hH0_4,?_⟩
 clear hK K
 try simp only [zA,zB,zC,Act.put,zD,zE,zF]
 refine wpKeepL_step rfl rfl (fun K hK=>?_)
 go_simp
 refine (S3.out _ (hw.below (hbA.trans (hH0_4.mono hbA.size)))).mono ?_
 rintro e v5 ⟨rfl,hbv5⟩
 have hH0_5:=hH0_4.trans (hbv5.mono hH0_4.size)
 refine hK _ _ ⟨hH0_5,?_⟩
 clear hK K
 try simp only [zA,zB,zC,Act.put,zD,zE,zF]
 refine wpKeepL_step rfl rfl (fun K hK=>?_)
 go_simp
 refine (M2.out _ (hw.below (hbA.trans (hH0_5.mono hbA.size)))).mono ?_
 rintro e v6 ⟨rfl,hbv6⟩
 have hH0_6:=hH0_5.trans (hbv6.mono hH0_5.size)
 refine hK _ _ ⟨hH0_6,?_⟩
 clear hK K
 try simp only [zA,zB,zC,Act.put,zD,zE,zF]
 refine wpKeepL_step rfl rfl (fun K hK=>?_)
 go_simp
 refine (S5.out _ (hw.below (hbA.trans (hH0_6.mono hbA.size)))).mono ?_
 rintro e v7 ⟨rfl,hbv7⟩
 have hH0_7:=hH0_6.trans (hbv7.mono hH0_6.size)
 refine hK _ _ ⟨hH0_7,?_⟩
 clear hK K
 try simp only [zA,zB,zC,Act.put,zD,zE,zF]
 unfold wpKeepL
 simp only [List.drop_succ_cons,List.drop_zero]
 try simp only [zA,zB,zC,Act.put,zD,zE,zF]
 refine wpKeep_step rfl (fun K hK=>?_)
 go_simp
 refine hK _ _ ⟨trivial,wpKeep_nil ?_⟩
 clear hK K
 try simp only [zA,zB,zC,Act.put,zD,zE,zF]
 refine NormalOnly.mk ?_
 have hbv7:=hbA.trans (hH0_7.mono hbA.size)
 have l1_v7:=Nat.lt_of_lt_of_le l1 hH0_7.size
 have c10_v7:=(hH0_7.cell (p:=⟨w.heap.size,0,none⟩) l1).trans c10
 have c11_v7:=(hH0_7.cell (p:=⟨w.heap.size,1,none⟩) l1).trans c11
 have l2_v7:=Nat.lt_of_lt_of_le l2 hH0_7.size
 have c20_v7:=(hH0_7.cell (p:=⟨w.heap.size+1,0,none⟩) l2).trans c20
 have c21_v7:=(hH0_7.cell (p:=⟨w.heap.size+1,1,none⟩) l2).trans c21
 have l3_v7:=Nat.lt_of_lt_of_le l3 hH0_7.size
 have c30_v7:=(hH0_7.cell (p:=⟨w.heap.size+1+1,0,none⟩) l3).trans c30
 have c31_v7:=(hH0_7.cell (p:=⟨w.heap.size+1+1,1,none⟩) l3).trans c31
 clear c10 c11 c20 c21 c30 c31 l1 l2 l3
 go_wp2
 go_ret
 exact ⟨rfl,hbv7⟩
theorem pl_turn (a b c:QP) (ha:Sz2 1000000 a) (hb:Sz2 1000000 b) (hc:Sz2 1000000 c) (w:World) (hw:Good w) :
  Calls Tryz.prog 138 #[ptV a,ptV b,ptV c] w (RV (.int .i64 (sgnR (crs a b c))) w):=by
 have A1:=hid (fun w' (hg:Good w')=>pl_area a b c ha hb hc w' hg)
 have G1:=hid (fun w'=>k_sign (crs a b c) ((sz_crs ha hb hc).mono (by decide)) w')
 unfold RV at A1 G1
 clear ha hb hc
 unfold ptV at *
 generalize tx (crs a b c)=r at *
 generalize sgnR (crs a b c)=g at *
 generalize tx a.1=a1 at *
 generalize tx a.2=a2 at *
 generalize tx b.1=b1 at *
 generalize tx b.2=b2 at *
 generalize tx c.1=c1 at *
 generalize tx c.2=c2 at *
 go_enter Tryz.func138,Tryz.ntmps138
 go_upto_region 1 with fail
 obtain ⟨wA,hwA⟩ : ∃ wA,wA=(((w.alloc (Obj.cells #[.string a1,.string a2] 30)).alloc (Obj.cells #[.string b1,.string b2] 30)).alloc (Obj.cells #[.string c1,.string c2] 30)):=⟨_,rfl⟩
 obtain ⟨hbA,x1,x2,x3⟩:=boxes3 hwA
 rw [←hwA]
 clear hwA
 have l1:=lt_of_blk x1
 obtain ⟨c10,c11,_,_⟩:=two_cells x1
 have l2:=lt_of_blk x2
 obtain ⟨c20,c21,_,_⟩:=two_cells x2
 have l3:=lt_of_blk x3
 obtain ⟨c30,c31,_,_⟩:=two_cells x3
 clear x1 x2 x3
 go_wp2_with fail
 refine (A1.out _ (hw.below hbA)).mono ?_
 rintro e v1 ⟨rfl,hv1⟩
 have hbv1:=hbA.trans (hv1.mono hbA.size)
 have l1_v1:=Nat.lt_of_lt_of_le l1 hv1.size
 have c10_v1:=(hv1.cell (p:=⟨w.heap.size,0,none⟩) l1).trans c10
 have c11_v1:=(hv1.cell (p:=⟨w.heap.size,1,none⟩) l1).trans c11
 have l2_v1:=Nat.lt_of_lt_of_le l2 hv1.size
 have c20_v1:=(hv1.cell (p:=⟨w.heap.size+1,0,none⟩) l2).trans c20
 have c21_v1:=(hv1.cell (p:=⟨w.heap.size+1,1,none⟩) l2).trans c21
 have l3_v1:=Nat.lt_of_lt_of_le l3 hv1.size
 have c30_v1:=(hv1.cell (p:=⟨w.heap.size+1+1,0,none⟩) l3).trans c30
 have c31_v1:=(hv1.cell (p:=⟨w.heap.size+1+1,1,none⟩) l3).trans c31
 clear c10 c11 c20 c21 c30 c31 l1 l2 l3
 go_wp2_with fail
 refine (G1.out _).mono ?_
 rintro e v2 ⟨rfl,hv2⟩
 have hbv2:=hbv1.trans (hv2.mono hbv1.size)
 have l1_v2:=Nat.lt_of_lt_of_le l1_v1 hv2.size
 have c10_v2:=(hv2.cell (p:=⟨w.heap.size,0,none⟩) l1_v1).trans c10_v1
 have c11_v2:=(hv2.cell (p:=⟨w.heap.size,1,none⟩) l1_v1).trans c11_v1
 have l2_v2:=Nat.lt_of_lt_of_le l2_v1 hv2.size
 have c20_v2:=(hv2.cell (p:=⟨w.heap.size+1,0,none⟩) l2_v1).trans c20_v1
 have c21_v2:=(hv2.cell (p:=⟨w.heap.size+1,1,none⟩) l2_v1).trans c21_v1
 have l3_v2:=Nat.lt_of_lt_of_le l3_v1 hv2.size
 have c30_v2:=(hv2.cell (p:=⟨w.heap.size+1+1,0,none⟩) l3_v1).trans c30_v1
 have c31_v2:=(hv2.cell (p:=⟨w.heap.size+1+1,1,none⟩) l3_v1).trans c31_v1
 clear c10_v1 c11_v1 c20_v1 c21_v1 c30_v1 c31_v1 l1_v1 l2_v1 l3_v1
 go_wp2
 go_ret
 exact ⟨rfl,hbv2⟩
theorem pl_compare (p q:QP) (hp:Sz2 1000000 p) (hq:Sz2 1000000 q) (w:World) (hw:Good w) :
  Calls Tryz.prog 160 #[ptV p,ptV q] w (RV (.int .i64 (lexI p q)) w):=by
 have H1:=hid (fun w' (hg:Good w')=>k_cmp p.1 q.1 (hp.1.mono (by decide)) (hq.1.mono (by decide)) w' hg)
 have H2:=hid (fun w' (hg:Good w')=>k_cmp p.2 q.2 (hp.2.mono (by decide)) (hq.2.mono (by decide)) w' hg)
 unfold RV at H1 H2
 clear hp hq
 unfold ptV lexI
 have gc:=cmpR_cases p.1 q.1
 generalize cmpR p.1 q.1=c1 at *
 generalize cmpR p.2 q.2=c2 at *
 generalize tx p.1=p1 at *
 generalize tx p.2=p2 at *
 generalize tx q.1=q1 at *
 generalize tx q.2=q2 at *
 by_cases hc:c1=0
 ·subst hc
  go_enter Tryz.func160,Tryz.ntmps160
  go_upto_region 1 with fail
  obtain ⟨wA,hwA⟩ : ∃ wA,wA=(w.alloc (Obj.cells #[.string p1,.string p2] 30)).alloc (Obj.cells #[.string q1,.string q2] 30):=⟨_,rfl⟩
  obtain ⟨hbA,x1,x2⟩:=boxes2 hwA
  rw [←hwA]
  clear hwA
  have l1:=lt_of_blk x1
  have l2:=lt_of_blk x2
  obtain ⟨a0,a1,_,_⟩:=two_cells x1
  obtain ⟨b0,b1,_,_⟩:=two_cells x2
  clear x1 x2
  go_wp2_with fail
  refine (H1.out _ (hw.below hbA)).mono ?_
  rintro e v1 ⟨rfl,hv1⟩
  have hb1:=hbA.trans (hv1.mono hbA.size)
  have d0:=(hv1.cell (p:=⟨w.heap.size,1,none⟩) l1).trans a1
  have d1:=(hv1.cell (p:=⟨w.heap.size+1,1,none⟩) l2).trans b1
  clear a0 a1 b0 b1
  go_wp2_with fail
  refine (H2.out _ (hw.below hb1)).mono ?_
  rintro e v2 ⟨rfl,hv2⟩
  go_wp2
  go_ret
  exact ⟨rfl,hb1.trans (hv2.mono hb1.size)⟩
 ·rw [if_neg hc]
  have hc2:(c1 == 0)=false:=by simpa using hc
  have hc3:(c1 != 0)=true:=by simpa using hc
  clear hc
  go_enter Tryz.func160,Tryz.ntmps160
  go_upto_region 1 with fail
  obtain ⟨wA,hwA⟩ : ∃ wA,wA=(w.alloc (Obj.cells #[.string p1,.string p2] 30)).alloc (Obj.cells #[.string q1,.string q2] 30):=⟨_,rfl⟩
  obtain ⟨hbA,x1,x2⟩:=boxes2 hwA
  rw [←hwA]
  clear hwA
  have l1:=lt_of_blk x1
  have l2:=lt_of_blk x2
  obtain ⟨a0,a1,_,_⟩:=two_cells x1
  obtain ⟨b0,b1,_,_⟩:=two_cells x2
  clear x1 x2
  go_wp2_with fail
  refine (H1.out _ (hw.below hbA)).mono ?_
  rintro e v1 ⟨rfl,hv1⟩
  have hb1:=hbA.trans (hv1.mono hbA.size)
  have d0:=(hv1.cell (p:=⟨w.heap.size,1,none⟩) l1).trans a1
  have d1:=(hv1.cell (p:=⟨w.heap.size+1,1,none⟩) l2).trans b1
  clear a0 a1 b0 b1
  go_wp2
  go_ret
  exact ⟨rfl,hb1⟩
end Go.Proofs.YtogdahbbogimcaaGreatDoor
