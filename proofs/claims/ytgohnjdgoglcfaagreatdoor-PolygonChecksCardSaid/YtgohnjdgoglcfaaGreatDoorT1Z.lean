import Derived.Test.YtgohnjdgoglcfaaGreatDoorS3Z
import Derived.Test.YtgohnjdgoglcfaaGreatDoorPol6Z
set_option maxRecDepth 100000
set_option maxHeartbeats 4000000
namespace Go.Proofs.YtgohnjdgoglcfaaGreatDoor
open Go.RowKit Go.Shelf
open Go.Lib (decDigits itoa nDigits)
open Go.Lib (hid)
theorem boxes1 {w wA:World} {a b:Value} {t:TypeId} (hwA:wA=w.alloc (Obj.cells #[a,b] t)) :
  Below w.heap.size w wA∧wA.heap[w.heap.size]?=some (.cells #[a,b] t (0,0)):=by
 rw [hwA];exact ⟨alloc_below _ _,World.alloc_heap_new _ _⟩
theorem sz_crs {n:Nat} {a b c:QP} (ha:Sz2 n a) (hb:Sz2 n b) (hc:Sz2 n c):Sz (32*n+70) (crs a b c):=
 (((hb.1.sub ha.1).mul (hc.2.sub ha.2)).sub ((hb.2.sub ha.2).mul (hc.1.sub ha.1))).mono (by omega)
theorem r5_minor (a b c d:Rat) (ha:Sz 100000 a) (hb:Sz 100000 b) (hc:Sz 100000 c) (hd:Sz 100000 d) (w:World) (hw:Good w) :
  Calls Tryz.prog 99 #[.string (tx a),.string (tx b),.string (tx c),.string (tx d)] w (RV (.string (tx (a*b-c*d))) w):=by
 have M1:=hid (fun w' (hg:Good w')=>r_mul a b (ha.mono (by decide)) (hb.mono (by decide)) w' hg)
 have M2:=hid (fun w' (hg:Good w')=>r_mul c d (hc.mono (by decide)) (hd.mono (by decide)) w' hg)
 have S1:=hid (fun w' (hg:Good w')=>r_sub (a*b) (c*d) ((ha.mul hb).mono (by decide)) ((hc.mul hd).mono (by decide)) w' hg)
 unfold RV at M1 M2 S1
 clear ha hb hc hd
 generalize tx (a*b-c*d)=r at *
 generalize tx (a*b)=m1 at *
 generalize tx (c*d)=m2 at *
 generalize tx a=ta at *
 generalize tx b=tb at *
 generalize tx c=tc at *
 generalize tx d=td at *
 go_enter Tryz.func99,Tryz.ntmps99
 go_wp2_with fail
 refine (M1.out _ hw).mono ?_
 rintro e v1 ⟨rfl,hv1⟩
 have hbv1:=hv1
 go_wp2_with fail
 refine (M2.out _ (hw.below hbv1)).mono ?_
 rintro e v2 ⟨rfl,hv2⟩
 have hbv2:=hbv1.trans (hv2.mono hbv1.size)
 go_wp2_with fail
 refine (S1.out _ (hw.below hbv2)).mono ?_
 rintro e v3 ⟨rfl,hv3⟩
 have hbv3:=hbv2.trans (hv3.mono hbv2.size)
 go_wp2
 go_ret
 exact ⟨rfl,hbv3⟩
theorem r5_area (a b c:QP) (ha:Sz2 10000 a) (hb:Sz2 10000 b) (hc:Sz2 10000 c) (w:World) (hw:Good w) :
  Calls Tryz.prog 43 #[ptV a,ptV b,ptV c] w (RV (.string (tx (crs a b c))) w):=by
 have S1:=hid (fun w' (hg:Good w')=>r_sub b.1 a.1 (hb.1.mono (by decide)) (ha.1.mono (by decide)) w' hg)
 have S2:=hid (fun w' (hg:Good w')=>r_sub c.2 a.2 (hc.2.mono (by decide)) (ha.2.mono (by decide)) w' hg)
 have S3:=hid (fun w' (hg:Good w')=>r_sub b.2 a.2 (hb.2.mono (by decide)) (ha.2.mono (by decide)) w' hg)
 have S4:=hid (fun w' (hg:Good w')=>r_sub c.1 a.1 (hc.1.mono (by decide)) (ha.1.mono (by decide)) w' hg)
 have M1:=hid (fun w' (hg:Good w')=>r5_minor (b.1-a.1) (c.2-a.2) (b.2-a.2) (c.1-a.1) ((hb.1.sub ha.1).mono (by decide)) ((hc.2.sub ha.2).mono (by decide)) ((hb.2.sub ha.2).mono (by decide)) ((hc.1.sub ha.1).mono (by decide)) w' hg)
 unfold RV at S1 S2 S3 S4 M1
 clear ha hb hc
 unfold ptV crs
 generalize tx ((b.1-a.1)*(c.2-a.2)-(b.2-a.2)*(c.1-a.1))=r at *
 generalize tx (b.1-a.1)=s1 at *
 generalize tx (c.2-a.2)=s2 at *
 generalize tx (b.2-a.2)=s3 at *
 generalize tx (c.1-a.1)=s4 at *
 generalize tx a.1=a1 at *
 generalize tx a.2=a2 at *
 generalize tx b.1=b1 at *
 generalize tx b.2=b2 at *
 generalize tx c.1=c1 at *
 generalize tx c.2=c2 at *
 go_enter Tryz.func43,Tryz.ntmps43
 go_wp2_with fail
 obtain ⟨wA,hwA⟩ : ∃ wA,wA=(((w.alloc (Obj.cells #[.string a1,.string a2] 31)).alloc (Obj.cells #[.string b1,.string b2] 31)).alloc (Obj.cells #[.string c1,.string c2] 31)):=⟨_,rfl⟩
 obtain ⟨hbA,x1,x2,x3⟩:=boxes3 hwA
 rw [←hwA]
 clear hwA
 have l1:=lt_of_blk x1
 obtain ⟨c10,c11,_,_⟩:=two_cells x1
 have l2:=lt_of_blk x2
 obtain ⟨c20,c21,_,_⟩:=two_cells x2
 have l3:=lt_of_blk x3
 obtain ⟨c30,c31,_,_⟩:=two_cells x3
 clear x1 x2 x3
 refine wp_held_list (fun W'=>Below wA.heap.size wA W') [0,1,2,3,5,6,7,8,10,11,12,13,15,16,17,18] [4,9,14,19,20] 21 (by kernel_rfl) (by kernel_rfl) ⟨rfl,rfl,rfl,Nat.le_refl _,fun _ _=>rfl⟩ ?_
 iterate 16
  refine wpTakeL_step rfl ?_ rfl ?_ ?_
  rotate_left
  ·intro W' hS'
   have s0:=(hS'.cell (p:=⟨w.heap.size,0,none⟩) l1).trans c10
   have s1:=(hS'.cell (p:=⟨w.heap.size,1,none⟩) l1).trans c11
   have s2:=(hS'.cell (p:=⟨w.heap.size+1,0,none⟩) l2).trans c20
   have s3:=(hS'.cell (p:=⟨w.heap.size+1,1,none⟩) l2).trans c21
   have s4:=(hS'.cell (p:=⟨w.heap.size+1+1,0,none⟩) l3).trans c30
   have s5:=(hS'.cell (p:=⟨w.heap.size+1+1,1,none⟩) l3).trans c31
   go_simp
   try with_reducible rfl
  try simp only [zA,zB,zC,Act.put,zD,zE,zF]
 have hH0_0:Below wA.heap.size wA wA.drew:=⟨rfl,rfl,rfl,Nat.le_refl _,fun _ _=>rfl⟩
 refine wpKeepL_step rfl rfl (fun K hK=>?_)
 go_simp
 refine (S1.out _ (hw.below (hbA.trans (hH0_0.mono hbA.size)))).mono ?_
 rintro e v1 ⟨rfl,hbv1⟩
 have hH0_1:=hH0_0.trans (hbv1.mono hH0_0.size)
 refine hK _ _ ⟨hH0_1,?_⟩
 clear hK K
 try simp only [zA,zB,zC,Act.put,zD,zE,zF]
 refine wpKeepL_step rfl rfl (fun K hK=>?_)
 go_simp
 refine (S2.out _ (hw.below (hbA.trans (hH0_1.mono hbA.size)))).mono ?_
 rintro e v2 ⟨rfl,hbv2⟩
 have hH0_2:=hH0_1.trans (hbv2.mono hH0_1.size)
 refine hK _ _ ⟨hH0_2,?_⟩
 clear hK K
 try simp only [zA,zB,zC,Act.put,zD,zE,zF]
 refine wpKeepL_step rfl rfl (fun K hK=>?_)
 go_simp
 refine (S3.out _ (hw.below (hbA.trans (hH0_2.mono hbA.size)))).mono ?_
 rintro e v3 ⟨rfl,hbv3⟩
 have hH0_3:=hH0_2.trans (hbv3.mono hH0_2.size)
 refine hK _ _ ⟨hH0_3,?_⟩
 clear hK K
 try simp only [zA,zB,zC,Act.put,zD,zE,zF]
 refine wpKeepL_step rfl rfl (fun K hK=>?_)
 go_simp
 refine (S4.out _ (hw.below (hbA.trans (hH0_3.mono hbA.size)))).mono ?_
 rintro e v4 ⟨rfl,hbv4⟩
 have hH0_4:=hH0_3.trans (hbv4.mono hH0_3.size)
 refine hK _ _ ⟨hH0_4,?_⟩
 clear hK K
 try simp only [zA,zB,zC,Act.put,zD,zE,zF]
 refine wpKeepL_step rfl rfl (fun K hK=>?_)
 go_simp
 refine (M1.out _ (hw.below (hbA.trans (hH0_4.mono hbA.size)))).mono ?_
 rintro e v5 ⟨rfl,hbv5⟩
 have hH0_5:=hH0_4.trans (hbv5.mono hH0_4.size)
 refine hK _ _ ⟨hH0_5,?_⟩
 clear hK K
 try simp only [zA,zB,zC,Act.put,zD,zE,zF]
 unfold wpKeepL
 simp only [List.drop_succ_cons,List.drop_zero]
 try simp only [zA,zB,zC,Act.put,zD,zE,zF]
 refine wpKeep_step rfl (fun K hK=>?_)
 go_simp
 refine hK _ _ ⟨trivial,wpKeep_nil ?_⟩
 clear hK K
 try simp only [zA,zB,zC,Act.put,zD,zE,zF]
 refine NormalOnly.mk ?_
 have hbv5:=hbA.trans (hH0_5.mono hbA.size)
 have l1_v5:=Nat.lt_of_lt_of_le l1 hH0_5.size
 have c10_v5:=(hH0_5.cell (p:=⟨w.heap.size,0,none⟩) l1).trans c10
 have c11_v5:=(hH0_5.cell (p:=⟨w.heap.size,1,none⟩) l1).trans c11
 have l2_v5:=Nat.lt_of_lt_of_le l2 hH0_5.size
 have c20_v5:=(hH0_5.cell (p:=⟨w.heap.size+1,0,none⟩) l2).trans c20
 have c21_v5:=(hH0_5.cell (p:=⟨w.heap.size+1,1,none⟩) l2).trans c21
 have l3_v5:=Nat.lt_of_lt_of_le l3 hH0_5.size
 have c30_v5:=(hH0_5.cell (p:=⟨w.heap.size+1+1,0,none⟩) l3).trans c30
 have c31_v5:=(hH0_5.cell (p:=⟨w.heap.size+1+1,1,none⟩) l3).trans c31
 clear c10 c11 c20 c21 c30 c31 l1 l2 l3
 go_wp2
 go_ret
 exact ⟨rfl,hbv5⟩
theorem r5_turn (a b c:QP) (ha:Sz2 10000 a) (hb:Sz2 10000 b) (hc:Sz2 10000 c) (w:World) (hw:Good w) :
  Calls Tryz.prog 84 #[ptV a,ptV b,ptV c] w (RV (.int .i64 (sgnR (crs a b c))) w):=by
 have A1:=hid (fun w' (hg:Good w')=>r5_area a b c ha hb hc w' hg)
 have G1:=hid (fun w'=>r_sign (crs a b c) w')
 unfold RV at A1 G1
 clear ha hb hc
 unfold ptV at *
 generalize tx (crs a b c)=r at *
 generalize sgnR (crs a b c)=g at *
 generalize tx a.1=a1 at *
 generalize tx a.2=a2 at *
 generalize tx b.1=b1 at *
 generalize tx b.2=b2 at *
 generalize tx c.1=c1 at *
 generalize tx c.2=c2 at *
 go_enter Tryz.func84,Tryz.ntmps84
 go_upto_region 1 with fail
 obtain ⟨wA,hwA⟩ : ∃ wA,wA=(((w.alloc (Obj.cells #[.string a1,.string a2] 31)).alloc (Obj.cells #[.string b1,.string b2] 31)).alloc (Obj.cells #[.string c1,.string c2] 31)):=⟨_,rfl⟩
 obtain ⟨hbA,x1,x2,x3⟩:=boxes3 hwA
 rw [←hwA]
 clear hwA
 have l1:=lt_of_blk x1
 obtain ⟨c10,c11,_,_⟩:=two_cells x1
 have l2:=lt_of_blk x2
 obtain ⟨c20,c21,_,_⟩:=two_cells x2
 have l3:=lt_of_blk x3
 obtain ⟨c30,c31,_,_⟩:=two_cells x3
 clear x1 x2 x3
 go_wp2_with fail
 refine (A1.out _ (hw.below hbA)).mono ?_
 rintro e v1 ⟨rfl,hv1⟩
 have hbv1:=hbA.trans (hv1.mono hbA.size)
 have l1_v1:=Nat.lt_of_lt_of_le l1 hv1.size
 have c10_v1:=(hv1.cell (p:=⟨w.heap.size,0,none⟩) l1).trans c10
 have c11_v1:=(hv1.cell (p:=⟨w.heap.size,1,none⟩) l1).trans c11
 have l2_v1:=Nat.lt_of_lt_of_le l2 hv1.size
 have c20_v1:=(hv1.cell (p:=⟨w.heap.size+1,0,none⟩) l2).trans c20
 have c21_v1:=(hv1.cell (p:=⟨w.heap.size+1,1,none⟩) l2).trans c21
 have l3_v1:=Nat.lt_of_lt_of_le l3 hv1.size
 have c30_v1:=(hv1.cell (p:=⟨w.heap.size+1+1,0,none⟩) l3).trans c30
 have c31_v1:=(hv1.cell (p:=⟨w.heap.size+1+1,1,none⟩) l3).trans c31
 clear c10 c11 c20 c21 c30 c31 l1 l2 l3
 go_wp2_with fail
 refine (G1.out _).mono ?_
 rintro e v2 ⟨rfl,hv2⟩
 have hbv2:=hbv1.trans (hv2.mono hbv1.size)
 have l1_v2:=Nat.lt_of_lt_of_le l1_v1 hv2.size
 have c10_v2:=(hv2.cell (p:=⟨w.heap.size,0,none⟩) l1_v1).trans c10_v1
 have c11_v2:=(hv2.cell (p:=⟨w.heap.size,1,none⟩) l1_v1).trans c11_v1
 have l2_v2:=Nat.lt_of_lt_of_le l2_v1 hv2.size
 have c20_v2:=(hv2.cell (p:=⟨w.heap.size+1,0,none⟩) l2_v1).trans c20_v1
 have c21_v2:=(hv2.cell (p:=⟨w.heap.size+1,1,none⟩) l2_v1).trans c21_v1
 have l3_v2:=Nat.lt_of_lt_of_le l3_v1 hv2.size
 have c30_v2:=(hv2.cell (p:=⟨w.heap.size+1+1,0,none⟩) l3_v1).trans c30_v1
 have c31_v2:=(hv2.cell (p:=⟨w.heap.size+1+1,1,none⟩) l3_v1).trans c31_v1
 clear c10_v1 c11_v1 c20_v1 c21_v1 c30_v1 c31_v1 l1_v1 l2_v1 l3_v1
 go_wp2
 go_ret
 exact ⟨rfl,hbv2⟩
theorem sgnR_bound (q:Rat):-1≤sgnR q∧sgnR q≤1:=by
 unfold sgnR
 rcases sgn_cases q.num with ⟨a,b⟩ | ⟨a,b⟩ | ⟨a,b⟩ <;> omega
theorem sgnR_neg {q:Rat} (h:q<0):sgnR q = -1:=sgn_neg (num_neg_iff.1 h)
theorem sgnR_zero {q:Rat} (h:q=0):sgnR q=0:=sgn_zero (num_zero_iff.1 h)
theorem sgnR_pos {q:Rat} (h:0<q):sgnR q=1:=sgn_pos (by
 have a:=mt num_neg_iff.2 (show ¬ q<0 by grind)
 have b:=mt num_zero_iff.2 (show ¬ q=0 by grind)
 omega)
theorem sgnR_cases (q:Rat):(q<0∧sgnR q = -1)∨(q=0∧sgnR q=0)∨(0<q∧sgnR q=1):=by
 by_cases h:q<0
 ·exact .inl ⟨h,sgnR_neg h⟩
 ·by_cases h0:q=0
  ·exact .inr (.inl ⟨h0,sgnR_zero h0⟩)
  ·have:0<q:=by grind
   exact .inr (.inr ⟨this,sgnR_pos this⟩)
def insB (a b x:Rat):Bool:=decide (sgnR (x-a)*sgnR (x-b)≤0)
theorem insB_iff {a b x:Rat}:insB a b x=true↔ins a b x:=by
 unfold insB ins
 rw [decide_eq_true_iff]
 rcases sgnR_cases (x-a) with ⟨h1,e1⟩ | ⟨h1,e1⟩ | ⟨h1,e1⟩ <;> rcases sgnR_cases (x-b) with ⟨h2,e2⟩ | ⟨h2,e2⟩ | ⟨h2,e2⟩ <;> rw [e1,e2]
 ·have:=Rat.mul_pos (show 0 < -(x-a) by grind) (show 0 < -(x-b) by grind)
  constructor
  ·intro h;omega
  ·intro h;grind
 ·rw [h2];simp
 ·have:=Rat.mul_pos (show 0 < -(x-a) by grind) h2
  constructor
  ·intro _;grind
  ·intro _;omega
 ·rw [h1];simp
 ·rw [h1];simp
 ·rw [h1];simp
 ·have:=Rat.mul_pos h1 (show 0 < -(x-b) by grind)
  constructor
  ·intro _;grind
  ·intro _;omega
 ·rw [h2];simp
 ·have:=Rat.mul_pos h1 h2
  constructor
  ·intro h;omega
  ·intro h;grind
theorem r5_inside (a b x:Rat) (ha:Sz 100000 a) (hb:Sz 100000 b) (hx:Sz 100000 x) (w:World) (hw:Good w) :
  Calls Tryz.prog 32 #[.string (tx a),.string (tx b),.string (tx x)] w (RV (.bool (insB a b x)) w):=by
 have C1:=hid (fun w' (hg:Good w')=>r_cmp x a (hx.mono (by decide)) (ha.mono (by decide)) w' hg)
 have C2:=hid (fun w' (hg:Good w')=>r_cmp x b (hx.mono (by decide)) (hb.mono (by decide)) w' hg)
 unfold RV at C1 C2
 clear ha hb hx
 unfold insB
 have g1:=sgnR_bound (x-a)
 have g2:=sgnR_bound (x-b)
 generalize sgnR (x-a)=g at *
 generalize sgnR (x-b)=k at *
 generalize tx a=ta at *
 generalize tx b=tb at *
 generalize tx x=tz at *
 have hz:IntKind.i64.wrap (g*k)=g*k:=IntWalk.i64_in _ (by
  rcases (show g = -1∨g=0∨g=1 by omega) with h | h | h <;> rcases (show k = -1∨k=0∨k=1 by omega) with h' | h' | h' <;> subst h <;> subst h' <;> decide)
 go_enter Tryz.func32,Tryz.ntmps32
 go_wp2_with fail
 refine (C1.out _ hw).mono ?_
 rintro e v1 ⟨rfl,hv1⟩
 have hbv1:=hv1
 go_wp2_with fail
 refine (C2.out _ (hw.below hbv1)).mono ?_
 rintro e v2 ⟨rfl,hv2⟩
 have hbv2:=hbv1.trans (hv2.mono hbv1.size)
 go_wp2
 go_ret
 exact ⟨rfl,hbv2⟩
theorem r5_value (a b c:Rat) (p:QP) (ha:Sz 30000 a) (hb:Sz 30000 b) (hc:Sz 30000 c) (hp:Sz2 30000 p) (w:World) (hw:Good w) :
  Calls Tryz.prog 45 #[.string (tx a),.string (tx b),.string (tx c),ptV p] w (RV (.string (tx (valP a b c p))) w):=by
 have M1:=hid (fun w' (hg:Good w')=>r_mul a p.1 (ha.mono (by decide)) (hp.1.mono (by decide)) w' hg)
 have M2:=hid (fun w' (hg:Good w')=>r_mul b p.2 (hb.mono (by decide)) (hp.2.mono (by decide)) w' hg)
 have A1:=hid (fun w' (hg:Good w')=>r_add (a*p.1) (b*p.2) ((ha.mul hp.1).mono (by decide)) ((hb.mul hp.2).mono (by decide)) w' hg)
 have S1:=hid (fun w' (hg:Good w')=>r_sub (a*p.1+b*p.2) c (((ha.mul hp.1).add (hb.mul hp.2)).mono (by decide)) (hc.mono (by decide)) w' hg)
 unfold RV at M1 M2 A1 S1
 clear ha hb hc hp
 unfold ptV valP
 generalize tx (a*p.1+b*p.2-c)=r at *
 generalize tx (a*p.1+b*p.2)=s at *
 generalize tx (a*p.1)=m1 at *
 generalize tx (b*p.2)=m2 at *
 generalize tx a=ta at *
 generalize tx b=tb at *
 generalize tx c=tc at *
 generalize tx p.1=p1 at *
 generalize tx p.2=p2 at *
 go_enter Tryz.func45,Tryz.ntmps45
 go_wp2_with fail
 obtain ⟨wA,hwA⟩ : ∃ wA,wA=(w.alloc (Obj.cells #[.string p1,.string p2] 31)):=⟨_,rfl⟩
 obtain ⟨hbA,x1⟩:=boxes1 hwA
 rw [←hwA]
 clear hwA
 have l1:=lt_of_blk x1
 obtain ⟨c10,c11,_,_⟩:=two_cells x1
 clear x1
 refine wp_held_list (fun W'=>Below wA.heap.size wA W') [0,1,2,4,5,6,9] [3,7,8,10] 11 (by kernel_rfl) (by kernel_rfl) ⟨rfl,rfl,rfl,Nat.le_refl _,fun _ _=>rfl⟩ ?_
 iterate 7
  refine wpTakeL_step rfl ?_ rfl ?_ ?_
  rotate_left
  ·intro W' hS'
   have s0:=(hS'.cell (p:=⟨w.heap.size,0,none⟩) l1).trans c10
   have s1:=(hS'.cell (p:=⟨w.heap.size,1,none⟩) l1).trans c11
   go_simp
   try with_reducible rfl
  try simp only [zA,zB,zC,Act.put,zD,zE,zF]
 have hH0_0:Below wA.heap.size wA wA.drew:=⟨rfl,rfl,rfl,Nat.le_refl _,fun _ _=>rfl⟩
 refine wpKeepL_step rfl rfl (fun K hK=>?_)
 go_simp
 refine (M1.out _ (hw.below (hbA.trans (hH0_0.mono hbA.size)))).mono ?_
 rintro e v1 ⟨rfl,hbv1⟩
 have hH0_1:=hH0_0.trans (hbv1.mono hH0_0.size)
 refine hK _ _ ⟨hH0_1,?_⟩
 clear hK K
 try simp only [zA,zB,zC,Act.put,zD,zE,zF]
 refine wpKeepL_step rfl rfl (fun K hK=>?_)
 go_simp
 refine (M2.out _ (hw.below (hbA.trans (hH0_1.mono hbA.size)))).mono ?_
 rintro e v2 ⟨rfl,hbv2⟩
 have hH0_2:=hH0_1.trans (hbv2.mono hH0_1.size)
 refine hK _ _ ⟨hH0_2,?_⟩
 clear hK K
 try simp only [zA,zB,zC,Act.put,zD,zE,zF]
 refine wpKeepL_step rfl rfl (fun K hK=>?_)
 go_simp
 refine (A1.out _ (hw.below (hbA.trans (hH0_2.mono hbA.size)))).mono ?_
 rintro e v3 ⟨rfl,hbv3⟩
 have hH0_3:=hH0_2.trans (hbv3.mono hH0_2.size)
 refine hK _ _ ⟨hH0_3,?_⟩
 clear hK K
 try simp only [zA,zB,zC,Act.put,zD,zE,zF]
 refine wpKeepL_step rfl rfl (fun K hK=>?_)
 go_simp
 refine (S1.out _ (hw.below (hbA.trans (hH0_3.mono hbA.size)))).mono ?_
 rintro e v4 ⟨rfl,hbv4⟩
 have hH0_4:=hH0_3.trans (hbv4.mono hH0_3.size)
 refine hK _ _ ⟨hH0_4,?_⟩
 clear hK K
 try simp only [zA,zB,zC,Act.put,zD,zE,zF]
 unfold wpKeepL
 simp only [List.drop_succ_cons,List.drop_zero]
 try simp only [zA,zB,zC,Act.put,zD,zE,zF]
 refine wpKeep_step rfl (fun K hK=>?_)
 go_simp
 refine hK _ _ ⟨trivial,wpKeep_nil ?_⟩
 clear hK K
 try simp only [zA,zB,zC,Act.put,zD,zE,zF]
 refine NormalOnly.mk ?_
 have hbv4:=hbA.trans (hH0_4.mono hbA.size)
 have l1_v4:=Nat.lt_of_lt_of_le l1 hH0_4.size
 have c10_v4:=(hH0_4.cell (p:=⟨w.heap.size,0,none⟩) l1).trans c10
 have c11_v4:=(hH0_4.cell (p:=⟨w.heap.size,1,none⟩) l1).trans c11
 clear c10 c11 l1
 go_wp2
 go_ret
 exact ⟨rfl,hbv4⟩
theorem r5_toward (a b:QP) (k:Rat) (ha:Sz2 30000 a) (hb:Sz2 30000 b) (hk:Sz 30000 k) (w:World) (hw:Good w) :
  Calls Tryz.prog 31 #[ptV a,ptV b,.string (tx k)] w (RV (ptV (towP a b k)) w):=by
 have S1:=hid (fun w' (hg:Good w')=>r_sub b.1 a.1 (hb.1.mono (by decide)) (ha.1.mono (by decide)) w' hg)
 have M1:=hid (fun w' (hg:Good w')=>r_mul k (b.1-a.1) (hk.mono (by decide)) ((hb.1.sub ha.1).mono (by decide)) w' hg)
 have A1:=hid (fun w' (hg:Good w')=>r_add a.1 (k*(b.1-a.1)) (ha.1.mono (by decide)) ((hk.mul (hb.1.sub ha.1)).mono (by decide)) w' hg)
 have S2:=hid (fun w' (hg:Good w')=>r_sub b.2 a.2 (hb.2.mono (by decide)) (ha.2.mono (by decide)) w' hg)
 have M2:=hid (fun w' (hg:Good w')=>r_mul k (b.2-a.2) (hk.mono (by decide)) ((hb.2.sub ha.2).mono (by decide)) w' hg)
 have A2:=hid (fun w' (hg:Good w')=>r_add a.2 (k*(b.2-a.2)) (ha.2.mono (by decide)) ((hk.mul (hb.2.sub ha.2)).mono (by decide)) w' hg)
 unfold RV at S1 M1 A1 S2 M2 A2
 clear ha hb hk
 unfold ptV towP
 dsimp only
 generalize tx (a.1+k*(b.1-a.1))=r1 at *
 generalize tx (a.2+k*(b.2-a.2))=r2 at *
 generalize tx (k*(b.1-a.1))=m1 at *
 generalize tx (k*(b.2-a.2))=m2 at *
 generalize tx (b.1-a.1)=s1 at *
 generalize tx (b.2-a.2)=s2 at *
 generalize tx k=tk at *
 generalize tx a.1=a1 at *
 generalize tx a.2=a2 at *
 generalize tx b.1=b1 at *
 generalize tx b.2=b2 at *
 go_enter Tryz.func31,Tryz.ntmps31
 go_wp2_with fail
 obtain ⟨wA,hwA⟩ : ∃ wA,wA=(((w.alloc (Obj.cells #[.string a1,.string a2] 31)).alloc (Obj.cells #[.string b1,.string b2] 31)).alloc (Obj.cells #[.string ⟨#[]⟩,.string ⟨#[]⟩] 31)):=⟨_,rfl⟩
 obtain ⟨hbA,x1,x2,x3⟩:=boxes3 hwA
 rw [←hwA]
 clear hwA
 have l1:=lt_of_blk x1
 obtain ⟨c10,c11,_,_⟩:=two_cells x1
 have l2:=lt_of_blk x2
 obtain ⟨c20,c21,_,_⟩:=two_cells x2
 have l3:=lt_of_blk x3
 have X3:=hid x3
 clear x1 x2 x3
 refine wp_held_list (fun W'=>Below wA.heap.size wA W') [0,1,2,3,4,5,6,10,11,12,13,14,15,16] [7,8,9,17,18,19] 20 (by kernel_rfl) (by kernel_rfl) ⟨rfl,rfl,rfl,Nat.le_refl _,fun _ _=>rfl⟩ ?_
 iterate 14
  refine wpTakeL_step rfl ?_ rfl ?_ ?_
  rotate_left
  ·intro W' hS'
   have s0:=(hS'.cell (p:=⟨w.heap.size,0,none⟩) l1).trans c10
   have s1:=(hS'.cell (p:=⟨w.heap.size,1,none⟩) l1).trans c11
   have s2:=(hS'.cell (p:=⟨w.heap.size+1,0,none⟩) l2).trans c20
   have s3:=(hS'.cell (p:=⟨w.heap.size+1,1,none⟩) l2).trans c21
   go_simp
   try with_reducible rfl
  try simp only [zA,zB,zC,Act.put,zD,zE,zF]
 have hH0_0:Below wA.heap.size wA wA.drew:=⟨rfl,rfl,rfl,Nat.le_refl _,fun _ _=>rfl⟩
 refine wpKeepL_step rfl rfl (fun K hK=>?_)
 go_simp
 refine (S1.out _ (hw.below (hbA.trans (hH0_0.mono hbA.size)))).mono ?_
 rintro e v1 ⟨rfl,hbv1⟩
 have hH0_1:=hH0_0.trans (hbv1.mono hH0_0.size)
 refine hK _ _ ⟨hH0_1,?_⟩
 clear hK K
 try simp only [zA,zB,zC,Act.put,zD,zE,zF]
 refine wpKeepL_step rfl rfl (fun K hK=>?_)
 go_simp
 refine (M1.out _ (hw.below (hbA.trans (hH0_1.mono hbA.size)))).mono ?_
 rintro e v2 ⟨rfl,hbv2⟩
 have hH0_2:=hH0_1.trans (hbv2.mono hH0_1.size)
 refine hK _ _ ⟨hH0_2,?_⟩
 clear hK K
 try simp only [zA,zB,zC,Act.put,zD,zE,zF]
 refine wpKeepL_step rfl rfl (fun K hK=>?_)
 go_simp
 refine (A1.out _ (hw.below (hbA.trans (hH0_2.mono hbA.size)))).mono ?_
 rintro e v3 ⟨rfl,hbv3⟩
 have hH0_3:=hH0_2.trans (hbv3.mono hH0_2.size)
 refine hK _ _ ⟨hH0_3,?_⟩
 clear hK K
 try simp only [zA,zB,zC,Act.put,zD,zE,zF]
 refine wpKeepL_step rfl rfl (fun K hK=>?_)
 go_simp
 refine (S2.out _ (hw.below (hbA.trans (hH0_3.mono hbA.size)))).mono ?_
 rintro e v4 ⟨rfl,hbv4⟩
 have hH0_4:=hH0_3.trans (hbv4.mono hH0_3.size)
 refine hK _ _ ⟨hH0_4,?_⟩
 clear hK K
 try simp only [zA,zB,zC,Act.put,zD,zE,zF]
 refine wpKeepL_step rfl rfl (fun K hK=>?_)
 go_simp
 refine (M2.out _ (hw.below (hbA.trans (hH0_4.mono hbA.size)))).mono ?_
 rintro e v5 ⟨rfl,hbv5⟩
 have hH0_5:=hH0_4.trans (hbv5.mono hH0_4.size)
 refine hK _ _ ⟨hH0_5,?_⟩
 clear hK K
 try simp only [zA,zB,zC,Act.put,zD,zE,zF]
 refine wpKeepL_step rfl rfl (fun K hK=>?_)
 go_simp
 refine (A2.out _ (hw.below (hbA.trans (hH0_5.mono hbA.size)))).mono ?_
 rintro e v6 ⟨rfl,hbv6⟩
 have hH0_6:=hH0_5.trans (hbv6.mono hH0_5.size)
 refine hK _ _ ⟨hH0_6,?_⟩
 clear hK K
 try simp only [zA,zB,zC,Act.put,zD,zE,zF]
 have hbv6:=hbA.trans (hH0_6.mono hbA.size)
 have l1_v6:=Nat.lt_of_lt_of_le l1 hH0_6.size
 have c10_v6:=(hH0_6.cell (p:=⟨w.heap.size,0,none⟩) l1).trans c10
 have c11_v6:=(hH0_6.cell (p:=⟨w.heap.size,1,none⟩) l1).trans c11
 have l2_v6:=Nat.lt_of_lt_of_le l2 hH0_6.size
 have c20_v6:=(hH0_6.cell (p:=⟨w.heap.size+1,0,none⟩) l2).trans c20
 have c21_v6:=(hH0_6.cell (p:=⟨w.heap.size+1,1,none⟩) l2).trans c21
 have X3_v6:=hid ((hH0_6.block _ (lt_of_blk X3.out)).trans X3.out)
 clear c10 c11 c20 c21 l1 l2
 have hp3:=X3_v6.out
 obtain ⟨_,_,_,_⟩:=two_cells hp3
 have hpz:=two_set1 (.string r2) (two_set0 (.string r1) hp3)
 obtain ⟨q0,q1,_,_⟩:=two_cells hpz
 have Q0:=hid q0
 have Q1:=hid q1
 clear hpz hp3 q0 q1
 unfold wpKeepL
 simp only [List.drop_succ_cons,List.drop_zero]
 try simp only [zA,zB,zC,Act.put,zD,zE,zF]
 refine wpKeep_step rfl (fun K hK=>?_)
 go_simp
 refine hK _ _ ⟨trivial,?_⟩
 clear hK K
 try simp only [zA,zB,zC,Act.put,zD,zE,zF]
 refine wpKeep_step rfl (fun K hK=>?_)
 go_simp
 refine hK _ _ ⟨trivial,wpKeep_nil ?_⟩
 clear hK K
 try simp only [zA,zB,zC,Act.put,zD,zE,zF]
 refine NormalOnly.mk ?_
 go_wp2
 have q0:=Q0.out
 have q1:=Q1.out
 refine bodyPost_ret (v:=.agg #[.string r1,.string r2]) (by simp [results,Tryz.results31,go_sem,q0,q1]) rfl ⟨rfl,?_⟩
 exact (hbv6.setCell (p:=⟨w.heap.size+1+1,0,none⟩) (by simp <;> omega) _).setCell (p:=⟨w.heap.size+1+1,1,none⟩) (by simp <;> omega) _
theorem r5_at (x y:Int) (hx:x.natAbs≤1000000000) (hy:y.natAbs≤1000000000) (w:World) (hw:Good w) :
  Calls Tryz.prog 44 #[.int .i64 x,.int .i64 y] w (RV (ptV ((x:Rat),(y:Rat))) w):=by
 have HX:=hid (show Rat.divInt x 1=(x:Rat) by rw [show (1:Int)=((1:Nat):Int) from rfl,Rat.divInt_ofNat,Rat.mkRat_one])
 have HY:=hid (show Rat.divInt y 1=(y:Rat) by rw [show (1:Int)=((1:Nat):Int) from rfl,Rat.divInt_ofNat,Rat.mkRat_one])
 have O1:=hid (fun w' (hg:Good w')=>r_of x 1 (by decide) (by omega) (by decide) w' hg)
 have O2:=hid (fun w' (hg:Good w')=>r_of y 1 (by decide) (by omega) (by decide) w' hg)
 unfold RV at O1 O2
 rw [HX.out] at O1
 rw [HY.out] at O2
 clear HX HY hx hy
 unfold ptV
 dsimp only
 generalize tx (x:Rat)=r1 at *
 generalize tx (y:Rat)=r2 at *
 go_enter Tryz.func44,Tryz.ntmps44
 go_upto_region 1 with fail
 obtain ⟨wA,hwA⟩ : ∃ wA,wA=(w.alloc (Obj.cells #[.string ⟨#[]⟩,.string ⟨#[]⟩] 31)):=⟨_,rfl⟩
 obtain ⟨hbA,x1⟩:=boxes1 hwA
 rw [←hwA]
 clear hwA
 have l1:=lt_of_blk x1
 have X3:=hid x1
 clear x1
 go_wp2_with fail
 refine (O1.out _ (hw.below hbA)).mono ?_
 rintro e v1 ⟨rfl,hv1⟩
 have hbv1:=hbA.trans (hv1.mono hbA.size)
 have X3_v1:=hid ((hv1.block _ (lt_of_blk X3.out)).trans X3.out)
 go_wp2_with fail
 refine (O2.out _ (hw.below hbv1)).mono ?_
 rintro e v2 ⟨rfl,hv2⟩
 have hbv2:=hbv1.trans (hv2.mono hbv1.size)
 have X3_v2:=hid ((hv2.block _ (lt_of_blk X3_v1.out)).trans X3_v1.out)
 have hp3:=X3_v2.out
 obtain ⟨_,_,_,_⟩:=two_cells hp3
 have hpz:=two_set1 (.string r2) (two_set0 (.string r1) hp3)
 obtain ⟨q0,q1,_,_⟩:=two_cells hpz
 have Q0:=hid q0
 have Q1:=hid q1
 clear hpz hp3 q0 q1
 go_wp2
 have q0:=Q0.out
 have q1:=Q1.out
 refine bodyPost_ret (v:=.agg #[.string r1,.string r2]) (by simp [results,Tryz.results44,go_sem,q0,q1]) rfl ⟨rfl,?_⟩
 exact (hbv2.setCell (p:=⟨w.heap.size,0,none⟩) (by simp <;> omega) _).setCell (p:=⟨w.heap.size,1,none⟩) (by simp <;> omega) _
theorem r_parts_whole (s:ByteArray) (h:∀ c∈s.data.toList,c≠47) (w:World):Calls Tryz.prog 92 #[.string s] w (RV (.tuple #[.string s,.string ⟨#[49]⟩]) w):=by
 have HC:=hid (indexByte47_none _ h)
 clear h
 go_enter Tryz.func92,Tryz.ntmps92
 go_wp2_with fail
 refine (Tryz.strings_IndexByte s 47 _).mono ?_
 rintro e w' ⟨rfl,rfl⟩
 rw [show (47:Int).toNat.toUInt8=47 from rfl,HC.out]
 go_wp2
 go_ret2
 exact ⟨rfl,Below.refl _ _⟩
theorem r_parts_slash (s a b:ByteArray) (hsp:s.data.toList=a.data.toList++47 :: b.data.toList) (ha:∀ c∈a.data.toList,c≠47) (hs:s.size≤4000000000) (w:World):Calls Tryz.prog 92 #[.string s] w (RV (.tuple #[.string a,.string b]) w):=by
 have hc:Lib.indexByte s.data.toList 47=(a.data.toList.length:Int):=by rw [hsp];exact indexByte47_app _ _ ha
 have HX:=hid (show s.extract 0 a.data.toList.length=a from str_ext (by rw [ext_front hsp]))
 have HY:=hid (show s.extract (a.data.toList.length+1) s.size=b from str_ext (by rw [ext_back hsp]))
 have hAl:a.data.toList.length+1≤s.size:=by rw [Lib.size_eq,hsp];simp
 have HC:=hid hc
 generalize a.data.toList.length=k at *
 clear hc hsp ha
 have i1:(k:Int)+1≤(s.size:Int):=by omega
 have i2:((k:Int)+1).toNat=k+1:=by omega
 have i3:¬ (k:Int)<0:=by omega
 go_enter Tryz.func92,Tryz.ntmps92
 go_wp2_with fail
 refine (Tryz.strings_IndexByte s 47 _).mono ?_
 rintro e w' ⟨rfl,rfl⟩
 rw [show (47:Int).toNat.toUInt8=47 from rfl,HC.out]
 go_wp2_with fail
 go_quiet (fail)
 go_wp2
 go_ret2
 exact ⟨by rw [←HX.out,←HY.out];rfl,q_drewN _ _⟩
theorem r_right (s:ByteArray) (hs:s.size≤4000000) (w:World) (hw:Good w) :
  Calls Tryz.prog 60 #[.string s] w (RV (.bool (ratB s.data.toList)) w):=by
 rcases cut47_cases s.data.toList with hno | ⟨A,B,hl,hA⟩
 ·have HP:=hid (fun w'=>r_parts_whole s hno w')
  have HQ:=hid (fun w'=>q_Right s (by omega) w')
  have HQ1:=hid (fun w'=>q_Right ⟨#[49]⟩ (by decide) w')
  have HR:=hid (show ratB s.data.toList=intOk s.data.toList by rw [Bool.eq_iff_iff,ratB_iff];exact ratOk_whole hno)
  have HC:=hid (indexByte47_none _ hno)
  have H1:=hid (show intOk (⟨#[49]⟩ : ByteArray).data.toList=true by decide +kernel)
  unfold RV at HP
  rw [HR.out]
  rw [H1.out] at HQ1
  clear hno HR H1
  generalize intOk s.data.toList=c at *
  cases c
  ·go_enter Tryz.func60,Tryz.ntmps60
   go_wp2_with fail
   refine (HP.out w).mono ?_
   rintro e w1 ⟨rfl,hb1⟩
   go_wp2_with fail
   refine (HQ.out w1).mono ?_
   rintro e w2 ⟨rfl,h2⟩
   have hb2:=hb1.trans (h2.mono hb1.size)
   go_wp2
   go_ret
   exact ⟨rfl,hb2⟩
  ·go_enter Tryz.func60,Tryz.ntmps60
   go_wp2_with fail
   refine (HP.out w).mono ?_
   rintro e w1 ⟨rfl,hb1⟩
   go_wp2_with fail
   refine (HQ.out w1).mono ?_
   rintro e w2 ⟨rfl,h2⟩
   have hb2:=hb1.trans (h2.mono hb1.size)
   go_wp2_with fail
   refine (HQ1.out w2).mono ?_
   rintro e w3 ⟨rfl,h3⟩
   have hb3:=hb2.trans (h3.mono hb2.size)
   go_wp2_with fail
   refine (Tryz.strings_IndexByte s 47 _).mono ?_
   rintro e w' ⟨rfl,rfl⟩
   rw [show (47:Int).toNat.toUInt8=47 from rfl,HC.out]
   go_wp2
   go_ret
   exact ⟨rfl,hb3⟩
 ·have hlen:s.size=A.length+B.length+1:=by rw [Lib.size_eq,hl];simp only [List.length_append,List.length_cons];omega
  have hr:=ratOk_slash (b:=B) hA
  rw [←hl] at hr
  obtain ⟨a,ha⟩ : ∃ a:ByteArray,a.data.toList=A:=⟨⟨A.toArray⟩,by simp⟩
  obtain ⟨b,hb⟩ : ∃ b:ByteArray,b.data.toList=B:=⟨⟨B.toArray⟩,by simp⟩
  have has:a.size=A.length:=by rw [Lib.size_eq,ha]
  have hbs:b.size=B.length:=by rw [Lib.size_eq,hb]
  subst ha hb
  have HP:=hid (fun w'=>r_parts_slash s a b hl hA (by omega) w')
  have HQA:=hid (fun w'=>q_Right a (by omega) w')
  have HQB:=hid (fun w'=>q_Right b (by omega) w')
  obtain ⟨kk,HC⟩ : ∃ kk:Nat,Hid (Lib.indexByte s.data.toList 47=(kk:Int)):=⟨a.data.toList.length,hid (by rw [hl];exact indexByte47_app _ _ hA)⟩
  unfold RV at HP
  cases hok:intOk a.data.toList
  ·have HE:=hid (show ratB s.data.toList=false from ratB_false (by
    rw [hr]
    rintro ⟨n,d,h1,h2,_⟩
    rw [(intOk_iff _).2 ⟨n,h1,h2⟩] at hok
    exact Bool.noConfusion hok))
   rw [hok] at HQA
   rw [HE.out]
   clear hr hl hA hok HE
   go_enter Tryz.func60,Tryz.ntmps60
   go_wp2_with fail
   refine (HP.out w).mono ?_
   rintro e w1 ⟨rfl,hb1⟩
   go_wp2_with fail
   refine (HQA.out w1).mono ?_
   rintro e w2 ⟨rfl,h2⟩
   have hb2:=hb1.trans (h2.mono hb1.size)
   go_wp2
   go_ret
   exact ⟨rfl,hb2⟩
  ·rw [hok] at HQA
   cases hokb:intOk b.data.toList
   ·have HE:=hid (show ratB s.data.toList=false from ratB_false (by
     rw [hr]
     rintro ⟨n,d,h1,h2,h3,h4,_⟩
     rw [(intOk_iff _).2 ⟨d,h3,h4⟩] at hokb
     exact Bool.noConfusion hokb))
    rw [hokb] at HQB
    rw [HE.out]
    clear hr hl hA hok hokb HE
    go_enter Tryz.func60,Tryz.ntmps60
    go_wp2_with fail
    refine (HP.out w).mono ?_
    rintro e w1 ⟨rfl,hb1⟩
    go_wp2_with fail
    refine (HQA.out w1).mono ?_
    rintro e w2 ⟨rfl,h2⟩
    have hb2:=hb1.trans (h2.mono hb1.size)
    go_wp2_with fail
    refine (HQB.out w2).mono ?_
    rintro e w3 ⟨rfl,h3⟩
    have hb3:=hb2.trans (h3.mono hb2.size)
    go_wp2
    go_ret
    exact ⟨rfl,hb3⟩
   ·rw [hokb] at HQB
    obtain ⟨n,hn,hnd⟩:=(intOk_iff _).1 hok
    obtain ⟨d,hd,hdd⟩:=(intOk_iff _).1 hokb
    have ea:a=ix n:=str_ext (hn.trans (isI_mk n).symm)
    have eb:b=ix d:=str_ext (hd.trans (isI_mk d).symm)
    have HR:=hid (show ratOk s.data.toList↔1<d∧n≠0∧Int.gcd n d=1 by
     rw [hr]
     constructor
     ·rintro ⟨n',d',h1,_,h3,_,h5⟩
      rw [hn] at h1
      rw [hd] at h3
      obtain rfl:=itoa_inj h1
      obtain rfl:=itoa_inj h3
      exact h5
     ·intro h5
      exact ⟨n,d,hn,hnd,hd,hdd,h5⟩)
    have zn:Iz 4000000 n:=by unfold Iz;rw [←ea];omega
    have zd:Iz 4000000 d:=by unfold Iz;rw [←eb];omega
    have z1:Iz 1 1:=by unfold Iz;rw [ix1];decide
    have HCM:=hid (fun w' hg=>i_cmp d 1 (zd.mono (by decide)) (z1.mono (by decide)) w' hg)
    have HGC:=hid (fun w' hg=>i_gcd n d (zn.mono (by decide)) (zd.mono (by decide)) w' hg)
    unfold RV at HCM HGC
    rw [ix1] at HCM
    have hz:((ix n).toList == [48])=decide (n=0):=(isI_mk n).zero
    have ho:((ix (Int.gcd n d:Nat)).toList == [49])=decide (((Int.gcd n d:Nat):Int)=1):=(isI_mk _).one
    rw [←ea] at hz HGC
    rw [←eb] at HCM HGC
    clear hr hl hA hok hokb hn hnd hd hdd ea eb zn zd z1 hlen has hbs
    have HS1:=hid (fun (h:1<d)=>show sgn (d-1)=1 from sgn_pos (by omega))
    have HS2:=hid (fun (h:¬ 1<d)=>show ¬ 0<sgn (d-1) by rcases sgn_cases (d-1) with ⟨x,y⟩ | ⟨x,y⟩ | ⟨x,y⟩ <;> omega)
    generalize sgn (d-1)=sg at *
    by_cases h1:1<d
    ·obtain rfl:=HS1.out h1
     by_cases h2:n=0
     ·rw [decide_eq_true h2] at hz
      have HE:=hid (show ratB s.data.toList=false from ratB_false (by rw [HR.out];exact fun h=>h.2.1 h2))
      rw [HE.out]
      clear h1 h2 HE HR HS1 HS2
      go_enter Tryz.func60,Tryz.ntmps60
      go_wp2_with fail
      refine (HP.out w).mono ?_
      rintro e w1 ⟨rfl,hb1⟩
      go_wp2_with fail
      refine (HQA.out w1).mono ?_
      rintro e w2 ⟨rfl,h2⟩
      have hb2:=hb1.trans (h2.mono hb1.size)
      go_wp2_with fail
      refine (HQB.out w2).mono ?_
      rintro e w3 ⟨rfl,h3⟩
      have hb3:=hb2.trans (h3.mono hb2.size)
      go_wp2_with fail
      refine (Tryz.strings_IndexByte s 47 _).mono ?_
      rintro e w' ⟨rfl,rfl⟩
      rw [show (47:Int).toNat.toUInt8=47 from rfl,HC.out]
      have i0:¬ (kk:Int)<0:=by omega
      go_wp2_with fail
      refine (HCM.out _ (hw.below hb3)).mono ?_
      rintro e w5 ⟨rfl,h5⟩
      have hb5:=hb3.trans (h5.mono hb3.size)
      go_wp2
      go_ret
      exact ⟨rfl,hb5⟩
     ·rw [decide_eq_false h2] at hz
      have hbr:ratB s.data.toList=decide (((Int.gcd n d:Nat):Int)=1):=by
       by_cases h3:((Int.gcd n d:Nat):Int)=1
       ·rw [decide_eq_true h3];exact ratB_true (HR.out.2 ⟨h1,h2,by omega⟩)
       ·rw [decide_eq_false h3];exact ratB_false (fun h=>h3 (by have:=(HR.out.1 h).2.2;omega))
      rw [hbr]
      rw [←ho]
      clear h1 h2 HR HS1 HS2 ho hbr
      generalize ix (Int.gcd n d:Nat)=tg at *
      go_enter Tryz.func60,Tryz.ntmps60
      go_wp2_with fail
      refine (HP.out w).mono ?_
      rintro e w1 ⟨rfl,hb1⟩
      go_wp2_with fail
      refine (HQA.out w1).mono ?_
      rintro e w2 ⟨rfl,h2⟩
      have hb2:=hb1.trans (h2.mono hb1.size)
      go_wp2_with fail
      refine (HQB.out w2).mono ?_
      rintro e w3 ⟨rfl,h3⟩
      have hb3:=hb2.trans (h3.mono hb2.size)
      go_wp2_with fail
      refine (Tryz.strings_IndexByte s 47 _).mono ?_
      rintro e w' ⟨rfl,rfl⟩
      rw [show (47:Int).toNat.toUInt8=47 from rfl,HC.out]
      have i0:¬ (kk:Int)<0:=by omega
      go_wp2_with fail
      refine (HCM.out _ (hw.below hb3)).mono ?_
      rintro e w5 ⟨rfl,h5⟩
      have hb5:=hb3.trans (h5.mono hb3.size)
      go_wp2_with fail
      refine (HGC.out _ (hw.below hb5)).mono ?_
      rintro e w6 ⟨rfl,h6⟩
      have hb6:=hb5.trans (h6.mono hb5.size)
      go_wp2
      go_ret
      exact ⟨rfl,hb6⟩
    ·have hsg:=HS2.out h1
     have HE:=hid (show ratB s.data.toList=false from ratB_false (by rw [HR.out];exact fun h=>h1 h.1))
     rw [HE.out]
     clear h1 HE HR HS1 HS2 hz ho
     go_enter Tryz.func60,Tryz.ntmps60
     go_wp2_with fail
     refine (HP.out w).mono ?_
     rintro e w1 ⟨rfl,hb1⟩
     go_wp2_with fail
     refine (HQA.out w1).mono ?_
     rintro e w2 ⟨rfl,h2⟩
     have hb2:=hb1.trans (h2.mono hb1.size)
     go_wp2_with fail
     refine (HQB.out w2).mono ?_
     rintro e w3 ⟨rfl,h3⟩
     have hb3:=hb2.trans (h3.mono hb2.size)
     go_wp2_with fail
     refine (Tryz.strings_IndexByte s 47 _).mono ?_
     rintro e w' ⟨rfl,rfl⟩
     rw [show (47:Int).toNat.toUInt8=47 from rfl,HC.out]
     have i0:¬ (kk:Int)<0:=by omega
     go_wp2_with fail
     refine (HCM.out _ (hw.below hb3)).mono ?_
     rintro e w5 ⟨rfl,h5⟩
     have hb5:=hb3.trans (h5.mono hb3.size)
     go_wp2
     go_ret
     exact ⟨rfl,hb5⟩
theorem r5_rightpoint (a b:ByteArray) (ha:a.size≤4000000) (hb:b.size≤4000000) (w:World) (hw:Good w) :
  Calls Tryz.prog 15 #[.agg #[.string a,.string b]] w (RV (.bool (ratB a.data.toList && ratB b.data.toList)) w):=by
 have H1:=hid (fun w' hg=>r_right a ha w' hg)
 have H2:=hid (fun w' hg=>r_right b hb w' hg)
 unfold RV at H1 H2
 clear ha hb
 generalize ratB a.data.toList=c1 at *
 generalize ratB b.data.toList=c2 at *
 cases c1
 ·go_enter Tryz.func15,Tryz.ntmps15
  go_upto_region 1 with fail
  obtain ⟨wA,hwA⟩ : ∃ wA,wA=(w.alloc (Obj.cells #[.string a,.string b] 31)):=⟨_,rfl⟩
  obtain ⟨hbA,x1⟩:=boxes1 hwA
  rw [←hwA]
  clear hwA
  have l1:=lt_of_blk x1
  obtain ⟨b0,b1,_,_⟩:=two_cells x1
  clear x1
  go_wp2_with fail
  refine (H1.out _ (hw.below hbA)).mono ?_
  rintro e v1 ⟨rfl,hv1⟩
  have hb1:=hbA.trans (hv1.mono hbA.size)
  go_wp2
  go_ret
  exact ⟨rfl,hb1⟩
 ·go_enter Tryz.func15,Tryz.ntmps15
  go_upto_region 1 with fail
  obtain ⟨wA,hwA⟩ : ∃ wA,wA=(w.alloc (Obj.cells #[.string a,.string b] 31)):=⟨_,rfl⟩
  obtain ⟨hbA,x1⟩:=boxes1 hwA
  rw [←hwA]
  clear hwA
  have l1:=lt_of_blk x1
  obtain ⟨b0,b1,_,_⟩:=two_cells x1
  clear x1
  go_wp2_with fail
  refine (H1.out _ (hw.below hbA)).mono ?_
  rintro e v1 ⟨rfl,hv1⟩
  have hb1:=hbA.trans (hv1.mono hbA.size)
  have c1:=(hv1.cell (p:=⟨w.heap.size,1,none⟩) l1).trans b1
  clear b1
  go_wp2_with fail
  refine (H2.out _ (hw.below hb1)).mono ?_
  rintro e v2 ⟨rfl,hv2⟩
  go_wp2
  go_ret
  exact ⟨rfl,hb1.trans (hv2.mono hb1.size)⟩
end Go.Proofs.YtgohnjdgoglcfaaGreatDoor
