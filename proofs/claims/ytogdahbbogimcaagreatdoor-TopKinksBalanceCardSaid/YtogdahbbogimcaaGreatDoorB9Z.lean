import Derived.Test.YtogdahbbogimcaaGreatDoorKk1Z
import Derived.Test.YtogdahbbogimcaaGreatDoorB8Z
set_option maxRecDepth 100000
set_option maxHeartbeats 4000000
namespace Go.Proofs.YtogdahbbogimcaaGreatDoor
open Go.RowKit Go.Shelf
open Go.Lib (decDigits itoa nDigits)
open Go.Lib (hid)
theorem pl_along (x y k:Rat) (hx:Sz 10000 x) (hy:Sz 10000 y) (hk:Sz 2000000 k) (B:Nat) (w:World) (hw:Good w) (lB:B<w.heap.size) (cB:w.cell? ⟨B,0,none⟩=some (.string (tx k))) :
  Calls Tryz.prog 140 #[.string (tx x),.string (tx y),.pointer (some ⟨B,0,none⟩)] w (RV (.string (tx (x+k*(y-x)))) w):=by
 have D1:=hid (fun w' (hg:Good w')=>k_sub y x (hy.mono (by decide)) (hx.mono (by decide)) w' hg)
 have D2:=hid (fun w' (hg:Good w')=>k_mul k (y-x) (hk.mono (by decide)) ((hy.sub hx).mono (by decide)) w' hg)
 have D3:=hid (fun w' (hg:Good w')=>k_add x (k*(y-x)) (hx.mono (by decide)) ((hk.mul (hy.sub hx)).mono (by decide)) w' hg)
 unfold RV at D1 D2 D3
 clear hx hy hk
 generalize tx (x+k*(y-x))=r at *
 generalize tx (k*(y-x))=m1 at *
 generalize tx (y-x)=s1 at *
 generalize tx x=x1 at *
 generalize tx y=y1 at *
 generalize tx k=k1 at *
 have hb0:Below w.heap.size w w:=Below.refl _ _
 go_enter Tryz.func140,Tryz.ntmps140
 go_wp2_with fail
 refine wp_held_list (fun W'=>Below w.heap.size w W') [0,1,2,3] [4,5,6] 7 (by kernel_rfl) (by kernel_rfl) ⟨rfl,rfl,rfl,Nat.le_refl _,fun _ _=>rfl⟩ ?_
 iterate 4
  refine wpTakeL_step rfl ?_ rfl ?_ ?_
  rotate_left
  ·intro W' hS'
   have s0:=(hS'.cell (p:=⟨B,0,none⟩) lB).trans cB
   go_simp
   try with_reducible rfl
  try simp only [zA,zB,zC,Act.put,zD,zE,zF]
 have hR0:Below w.heap.size w w.drew:=⟨rfl,rfl,rfl,Nat.le_refl _,fun _ _=>rfl⟩
 refine wpKeepL_step rfl rfl (fun K hK=>?_)
 go_simp
 refine (D1.out _ (hw.below (hb0.trans (hR0.mono hb0.size)))).mono ?_
 rintro e u1 ⟨rfl,hbu1⟩
 have hR1:=hR0.trans (hbu1.mono hR0.size)
 refine hK _ _ ⟨hR1,?_⟩
 clear hK K
 try simp only [zA,zB,zC,Act.put,zD,zE,zF]
 refine wpKeepL_step rfl rfl (fun K hK=>?_)
 go_simp
 refine (D2.out _ (hw.below (hb0.trans (hR1.mono hb0.size)))).mono ?_
 rintro e u2 ⟨rfl,hbu2⟩
 have hR2:=hR1.trans (hbu2.mono hR1.size)
 refine hK _ _ ⟨hR2,?_⟩
 clear hK K
 try simp only [zA,zB,zC,Act.put,zD,zE,zF]
 refine wpKeepL_step rfl rfl (fun K hK=>?_)
 go_simp
 refine (D3.out _ (hw.below (hb0.trans (hR2.mono hb0.size)))).mono ?_
 rintro e u3 ⟨rfl,hbu3⟩
 have hR3:=hR2.trans (hbu3.mono hR2.size)
 refine hK _ _ ⟨hR3,?_⟩
 clear hK K
 try simp only [zA,zB,zC,Act.put,zD,zE,zF]
 unfold wpKeepL
 simp only [List.drop_succ_cons,List.drop_zero]
 try simp only [zA,zB,zC,Act.put,zD,zE,zF]
 refine wpKeep_step rfl (fun K hK=>?_)
 go_simp
 refine hK _ _ ⟨trivial,wpKeep_nil ?_⟩
 clear hK K
 try simp only [zA,zB,zC,Act.put,zD,zE,zF]
 refine NormalOnly.mk ?_
 go_wp2
 go_ret
 exact ⟨rfl,hR3⟩
theorem sgnR_eq0 {q:Rat}:sgnR q=0↔q=0:=by
 rcases sgnR_cases q with ⟨a,b⟩ | ⟨a,b⟩ | ⟨a,b⟩
 ·constructor
  ·intro h;omega
  ·intro h;exfalso;grind
 ·exact ⟨fun _=>a,fun _=>b⟩
 ·constructor
  ·intro h;omega
  ·intro h;exfalso;grind
theorem sgnR_prod {p q:Rat}:0<sgnR p*sgnR q↔0<p*q:=by
 rcases sgnR_cases p with ⟨a,b⟩ | ⟨a,b⟩ | ⟨a,b⟩ <;> rcases sgnR_cases q with ⟨c,d⟩ | ⟨c,d⟩ | ⟨c,d⟩ <;> rw [b,d]
 ·have h:0<(-p)*(-q):=Rat.mul_pos (by grind) (by grind)
  exact ⟨fun _=>by grind,fun _=>by decide⟩
 ·rw [c];exact ⟨fun h=>absurd h (by decide),fun h=>absurd h (by grind)⟩
 ·have h:0<(-p)*q:=Rat.mul_pos (by grind) (by grind)
  exact ⟨fun h=>absurd h (by decide),fun h=>absurd h (by grind)⟩
 ·rw [a];exact ⟨fun h=>absurd h (by decide),fun h=>absurd h (by grind)⟩
 ·rw [a];exact ⟨fun h=>absurd h (by decide),fun h=>absurd h (by grind)⟩
 ·rw [a];exact ⟨fun h=>absurd h (by decide),fun h=>absurd h (by grind)⟩
 ·have h:0<p*(-q):=Rat.mul_pos (by grind) (by grind)
  exact ⟨fun h=>absurd h (by decide),fun h=>absurd h (by grind)⟩
 ·rw [c];exact ⟨fun h=>absurd h (by decide),fun h=>absurd h (by grind)⟩
 ·have h:0<p*q:=Rat.mul_pos (by grind) (by grind)
  exact ⟨fun _=>h,fun _=>by decide⟩
def shareQ (a b c d:QP):Rat:=crs a b c*(crs a b c-crs a b d)⁻¹
theorem meetQ_eq (a b c d:QP):(sgnR (crs a b c)=0∧sgnR (crs a b d)=0→meetQ a b c d=collQ a b c d) ∧
  (¬ (sgnR (crs a b c)=0∧sgnR (crs a b d)=0)→(0<sgnR (crs a b c)*sgnR (crs a b d)∨0<sgnR (crs c d a)*sgnR (crs c d b)→meetQ a b c d=.apart) ∧
   (¬ (0<sgnR (crs a b c)*sgnR (crs a b d)∨0<sgnR (crs c d a)*sgnR (crs c d b))→meetQ a b c d=.touch (towP c d (shareQ a b c d)))):=by
 rw [sgnR_eq0,sgnR_eq0,sgnR_prod,sgnR_prod]
 unfold meetQ shareQ
 rw [Rat.div_def]
 exact ⟨fun h=>if_pos h,fun h=>⟨fun h2=>by rw [if_neg h,if_pos h2],fun h2=>by rw [if_neg h,if_neg h2]⟩⟩
theorem share_ne {p q:Rat} (h:¬ (sgnR p=0∧sgnR q=0)) (h2:¬ 0<sgnR p*sgnR q):p-q≠0:=by
 rw [sgnR_eq0,sgnR_eq0] at h
 rw [sgnR_prod] at h2
 intro e
 have e2:p=q:=by grind
 subst e2
 have hp:p≠0:=fun x=>h ⟨x,x⟩
 have:p<0∨0<p:=by grind
 rcases this with x | x
 ·exact h2 (by have:=Rat.mul_pos (show 0 < -p by grind) (show 0 < -p by grind);grind)
 ·exact h2 (Rat.mul_pos x x)
theorem sz_share {a b c d:QP} (ha:Sz2 10000 a) (hb:Sz2 10000 b) (hc:Sz2 10000 c) (hd:Sz2 10000 d):Sz 2000000 (shareQ a b c d):=
 ((sz_crs ha hb hc).div ((sz_crs ha hb hc).sub (sz_crs ha hb hd))).mono (by decide)
theorem sgnR_three (q:Rat):sgnR q = -1∨sgnR q=0∨sgnR q=1:=by
 rcases sgnR_cases q with ⟨_,b⟩ | ⟨_,b⟩ | ⟨_,b⟩
 ·exact .inl b
 ·exact .inr (.inl b)
 ·exact .inr (.inr b)
def how1:Hw→ByteArray
 | .touch z=>tx z.1
 | _=>⟨#[]⟩
def how2:Hw→ByteArray
 | .touch z=>tx z.2
 | _=>⟨#[]⟩
theorem howV_eq (h:Hw):howV h=.agg #[.string (how1 h),.string (how2 h)]:=by cases h <;> rfl
theorem pl_meet (a b c d:QP) (ha:Sz2 10000 a) (hb:Sz2 10000 b) (hc:Sz2 10000 c) (hd:Sz2 10000 d) (w:World) (hw:Good w) :
  Calls Tryz.prog 117 #[ptV a,ptV b,ptV c,ptV d] w (RV (.tuple #[.int .i64 (howI (meetQ a b c d)),howV (meetQ a b c d)]) w):=by
 have T1:=hid (fun w' (hg:Good w')=>pl_turn a b c (ha.mono (by decide)) (hb.mono (by decide)) (hc.mono (by decide)) w' hg)
 have T2:=hid (fun w' (hg:Good w')=>pl_turn a b d (ha.mono (by decide)) (hb.mono (by decide)) (hd.mono (by decide)) w' hg)
 have T3:=hid (fun w' (hg:Good w')=>pl_turn c d a (hc.mono (by decide)) (hd.mono (by decide)) (ha.mono (by decide)) w' hg)
 have T4:=hid (fun w' (hg:Good w')=>pl_turn c d b (hc.mono (by decide)) (hd.mono (by decide)) (hb.mono (by decide)) w' hg)
 have K00:=(fun w' (hg:Good w')=>pl_collinear a b c d (ha.mono (by decide)) (hb.mono (by decide)) (hc.mono (by decide)) (hd.mono (by decide)) w' hg)
 have A1:=hid (fun w' (hg:Good w')=>pl_area a b c (ha.mono (by decide)) (hb.mono (by decide)) (hc.mono (by decide)) w' hg)
 have A2:=hid (fun w' (hg:Good w')=>pl_area a b d (ha.mono (by decide)) (hb.mono (by decide)) (hd.mono (by decide)) w' hg)
 have E1:=hid (fun w' (hg:Good w')=>k_sub (crs a b c) (crs a b d) ((sz_crs ha hb hc).mono (by decide)) ((sz_crs ha hb hd).mono (by decide)) w' hg)
 simp only [howV_eq (collQ a b c d)] at K00
 have K0:=hid K00
 clear K00
 have E2:=hid (fun (n1:¬ (sgnR (crs a b c)=0∧sgnR (crs a b d)=0)) (n2:¬ (0<sgnR (crs a b c)*sgnR (crs a b d)∨0<sgnR (crs c d a)*sgnR (crs c d b))) w' (hg:Good w')=>k_div (crs a b c) (crs a b c-crs a b d) (share_ne n1 (fun x=>n2 (.inl x))) ((sz_crs ha hb hc).mono (by decide)) (((sz_crs ha hb hc).sub (sz_crs ha hb hd)).mono (by decide)) w' hg)
 have L1:=hid (fun (B:Nat) w' (hg:Good w')=>pl_along c.1 d.1 (shareQ a b c d) hc.1 hd.1 (sz_share ha hb hc hd) B w' hg)
 have L2:=hid (fun (B:Nat) w' (hg:Good w')=>pl_along c.2 d.2 (shareQ a b c d) hc.2 hd.2 (sz_share ha hb hc hd) B w' hg)
 have MQ:=meetQ_eq a b c d
 have S5:(sgnR (crs a b c)=0∧sgnR (crs a b d)=0→howI (meetQ a b c d)=howI (collQ a b c d)∧howV (meetQ a b c d)=howV (collQ a b c d)) ∧
  (¬ (sgnR (crs a b c)=0∧sgnR (crs a b d)=0)→(0<sgnR (crs a b c)*sgnR (crs a b d)∨0<sgnR (crs c d a)*sgnR (crs c d b)→howI (meetQ a b c d)=0∧howV (meetQ a b c d)=.agg #[.string ⟨#[]⟩,.string ⟨#[]⟩]) ∧
   (¬ (0<sgnR (crs a b c)*sgnR (crs a b d)∨0<sgnR (crs c d a)*sgnR (crs c d b))→howI (meetQ a b c d)=1∧howV (meetQ a b c d)=.agg #[.string (tx (c.1+shareQ a b c d*(d.1-c.1))),.string (tx (c.2+shareQ a b c d*(d.2-c.2)))])):=
  ⟨fun h=>by rw [MQ.1 h];exact ⟨rfl,rfl⟩,fun h=>⟨fun h2=>by rw [(MQ.2 h).1 h2];exact ⟨rfl,rfl⟩,fun h2=>by rw [(MQ.2 h).2 h2];exact ⟨rfl,rfl⟩⟩⟩
 clear MQ
 rw [howV_eq (collQ a b c d)] at S5
 have g1:=hid (sgnR_three (crs a b c))
 have g2:=hid (sgnR_three (crs a b d))
 have g3:=hid (sgnR_three (crs c d a))
 have g4:=hid (sgnR_three (crs c d b))
 have hsh:crs a b c*(crs a b c-crs a b d)⁻¹=shareQ a b c d:=rfl
 rw [hsh] at E2
 clear hsh
 unfold RV at T1 T2 T3 T4 K0 A1 A2 E1 E2 L1 L2
 clear ha hb hc hd
 unfold ptV at *
 generalize howI (meetQ a b c d)=hI at *
 generalize howV (meetQ a b c d)=hV at *
 generalize howI (collQ a b c d)=kI at *
 generalize how1 (collQ a b c d)=k1 at *
 generalize how2 (collQ a b c d)=k2 at *
 generalize tx (c.1+shareQ a b c d*(d.1-c.1))=z1 at *
 generalize tx (c.2+shareQ a b c d*(d.2-c.2))=z2 at *
 generalize tx (shareQ a b c d)=sh at *
 generalize tx (crs a b c-crs a b d)=df at *
 generalize tx (crs a b c)=ar1 at *
 generalize tx (crs a b d)=ar2 at *
 generalize sgnR (crs a b c)=s1 at *
 generalize sgnR (crs a b d)=s2 at *
 generalize sgnR (crs c d a)=s3 at *
 generalize sgnR (crs c d b)=s4 at *
 generalize tx a.1=a1 at *
 generalize tx a.2=a2 at *
 generalize tx b.1=b1 at *
 generalize tx b.2=b2 at *
 generalize tx c.1=c1 at *
 generalize tx c.2=c2 at *
 generalize tx d.1=d1 at *
 generalize tx d.2=d2 at *
 have S6:=hid S5
 clear S5
 go_enter Tryz.func117,Tryz.ntmps117
 go_wp2_with fail
 obtain ⟨wA,hwA⟩ : ∃ wA,wA=(((((w.alloc (Obj.cells #[.string a1,.string a2] 30)).alloc (Obj.cells #[.string b1,.string b2] 30)).alloc (Obj.cells #[.string c1,.string c2] 30)).alloc (Obj.cells #[.string d1,.string d2] 30)).alloc (Obj.cells #[.string ⟨#[]⟩,.string ⟨#[]⟩] 30)):=⟨_,rfl⟩
 have hA:=boxes5 hwA
 rw [←hwA]
 clear hwA
 have lt0:=lt_of_blk hA.b0
 obtain ⟨c00,c01,f00,f01⟩:=two_cells hA.b0
 have lt1:=lt_of_blk hA.b1
 obtain ⟨c10,c11,f10,f11⟩:=two_cells hA.b1
 have lt2:=lt_of_blk hA.b2
 obtain ⟨c20,c21,f20,f21⟩:=two_cells hA.b2
 have lt3:=lt_of_blk hA.b3
 obtain ⟨c30,c31,f30,f31⟩:=two_cells hA.b3
 have hbA:=hA.bel
 refine wp_held_list (fun W'=>Below wA.heap.size wA W') [0,1,2,4,5,6,8,9,10,12,13,14] [3,7,11,15] 16 (by kernel_rfl) (by kernel_rfl) ⟨rfl,rfl,rfl,Nat.le_refl _,fun _ _=>rfl⟩ ?_
 iterate 12
  refine wpTakeL_step rfl ?_ rfl ?_ ?_
  rotate_left
  ·intro W' hS'
   have s0:=(hS'.cell (p:=⟨w.heap.size,0,none⟩) lt0).trans c00
   have s1:=(hS'.cell (p:=⟨w.heap.size,1,none⟩) lt0).trans c01
   have s2:=(hS'.cell (p:=⟨w.heap.size+1,0,none⟩) lt1).trans c10
   have s3:=(hS'.cell (p:=⟨w.heap.size+1,1,none⟩) lt1).trans c11
   have s4:=(hS'.cell (p:=⟨w.heap.size+1+1,0,none⟩) lt2).trans c20
   have s5:=(hS'.cell (p:=⟨w.heap.size+1+1,1,none⟩) lt2).trans c21
   have s6:=(hS'.cell (p:=⟨w.heap.size+1+1+1,0,none⟩) lt3).trans c30
   have s7:=(hS'.cell (p:=⟨w.heap.size+1+1+1,1,none⟩) lt3).trans c31
   go_simp
   try with_reducible rfl
  try simp only [zA,zB,zC,Act.put,zD,zE,zF]
 have hR0:Below wA.heap.size wA wA.drew:=⟨rfl,rfl,rfl,Nat.le_refl _,fun _ _=>rfl⟩
 refine wpKeepL_step rfl rfl (fun K hK=>?_)
 go_simp
 refine (T1.out _ (hw.below (hbA.trans (hR0.mono hbA.size)))).mono ?_
 rintro e u1 ⟨rfl,hbu1⟩
 have hR1:=hR0.trans (hbu1.mono hR0.size)
 refine hK _ _ ⟨hR1,?_⟩
 clear hK K
 try simp only [zA,zB,zC,Act.put,zD,zE,zF]
 refine wpKeepL_step rfl rfl (fun K hK=>?_)
 go_simp
 refine (T2.out _ (hw.below (hbA.trans (hR1.mono hbA.size)))).mono ?_
 rintro e u2 ⟨rfl,hbu2⟩
 have hR2:=hR1.trans (hbu2.mono hR1.size)
 refine hK _ _ ⟨hR2,?_⟩
 clear hK K
 try simp only [zA,zB,zC,Act.put,zD,zE,zF]
 refine wpKeepL_step rfl rfl (fun K hK=>?_)
 go_simp
 refine (T3.out _ (hw.below (hbA.trans (hR2.mono hbA.size)))).mono ?_
 rintro e u3 ⟨rfl,hbu3⟩
 have hR3:=hR2.trans (hbu3.mono hR2.size)
 refine hK _ _ ⟨hR3,?_⟩
 clear hK K
 try simp only [zA,zB,zC,Act.put,zD,zE,zF]
 refine wpKeepL_step rfl rfl (fun K hK=>?_)
 go_simp
 refine (T4.out _ (hw.below (hbA.trans (hR3.mono hbA.size)))).mono ?_
 rintro e u4 ⟨rfl,hbu4⟩
 have hR4:=hR3.trans (hbu4.mono hR3.size)
 refine hK _ _ ⟨hR4,?_⟩
 clear hK K
 try simp only [zA,zB,zC,Act.put,zD,zE,zF]
 unfold wpKeepL
 simp only [List.drop_succ_cons,List.drop_zero]
 try simp only [zA,zB,zC,Act.put,zD,zE,zF]
 refine wpKeep_step rfl (fun K hK=>?_)
 go_simp
 refine hK _ _ ⟨trivial,?_⟩
 clear hK K
 try simp only [zA,zB,zC,Act.put,zD,zE,zF]
 refine wpKeep_step rfl (fun K hK=>?_)
 go_simp
 refine hK _ _ ⟨trivial,?_⟩
 clear hK K
 try simp only [zA,zB,zC,Act.put,zD,zE,zF]
 refine wpKeep_step rfl (fun K hK=>?_)
 go_simp
 refine hK _ _ ⟨trivial,?_⟩
 clear hK K
 try simp only [zA,zB,zC,Act.put,zD,zE,zF]
 refine wpKeep_step rfl (fun K hK=>?_)
 go_simp
 refine hK _ _ ⟨trivial,wpKeep_nil ?_⟩
 clear hK K
 try simp only [zA,zB,zC,Act.put,zD,zE,zF]
 refine NormalOnly.mk ?_
 have hS:=hA.below hR4
 clear hbA
 clear lt0 c00 c01 f00 f01 lt1 c10 c11 f10 f11 lt2 c20 c21 f20 f21 lt3 c30 c31 f30 f31
 have HS:=hid hS
 clear hS
 go_upto_region 2 with fail
 go_cut [40] from 19 to 88 (fun s40 wx=>s40=.bool (decide (s1=0∧s2=0))∧wx=u4)
 case first =>
  rcases g1.out with rfl | rfl | rfl <;> rcases g2.out with rfl | rfl | rfl
  all_goals (go_wp2;go_meet;exact ⟨rfl,rfl⟩)
 case rest =>
 obtain ⟨rfl,rfl⟩:=hcut
 by_cases hz:s1=0∧s2=0
 ·obtain ⟨rfl,rfl⟩:=S6.out.1 hz
  rw [decide_eq_true hz]
  have HZ:=hid hz
  clear hz
  have hS:=HS.out
  have lt0:=lt_of_blk hS.b0
  obtain ⟨c00,c01,f00,f01⟩:=two_cells hS.b0
  have lt1:=lt_of_blk hS.b1
  obtain ⟨c10,c11,f10,f11⟩:=two_cells hS.b1
  have lt2:=lt_of_blk hS.b2
  obtain ⟨c20,c21,f20,f21⟩:=two_cells hS.b2
  have lt3:=lt_of_blk hS.b3
  obtain ⟨c30,c31,f30,f31⟩:=two_cells hS.b3
  have lt4:=lt_of_blk hS.b4
  obtain ⟨c40,c41,f40,f41⟩:=two_cells hS.b4
  clear hS
  go_wp2_with fail
  refine (K0.out _ (hw.below HS.out.bel)).mono ?_
  rintro e v1 ⟨rfl,hv⟩
  have hT:=HS.out.below hv
  clear lt0 c00 c01 f00 f01 lt1 c10 c11 f10 f11 lt2 c20 c21 f20 f21 lt3 c30 c31 f30 f31 lt4 c40 c41 f40 f41
  have lt0:=lt_of_blk hT.b0
  obtain ⟨c00,c01,f00,f01⟩:=two_cells hT.b0
  have lt1:=lt_of_blk hT.b1
  obtain ⟨c10,c11,f10,f11⟩:=two_cells hT.b1
  have lt2:=lt_of_blk hT.b2
  obtain ⟨c20,c21,f20,f21⟩:=two_cells hT.b2
  have lt3:=lt_of_blk hT.b3
  obtain ⟨c30,c31,f30,f31⟩:=two_cells hT.b3
  have lt4:=lt_of_blk hT.b4
  obtain ⟨c40,c41,f40,f41⟩:=two_cells hT.b4
  have HT:=hid hT
  clear hT hv
  obtain ⟨q0,q1,_,_⟩:=two_cells (HT.out.b4.set k1 k2)
  have Q0:=hid q0
  have Q1:=hid q1
  clear q0 q1
  go_wp2
  have q0:=Q0.out
  have q1:=Q1.out
  refine bodyPost_ret (v:=.tuple #[.int .i64 hI,.agg #[.string k1,.string k2]]) (by simp [results,Tryz.results117,go_sem,q0,q1]) rfl ⟨rfl,?_⟩
  first | exact below_set2 HT.out.bel (by omega) _ _ | exact (below_set2 HT.out.bel (by omega) _ _).drew
 ·rw [decide_eq_false hz]
  have HZ:=hid hz
  clear hz
  go_upto_region 4 with fail
  go_cut [57] from 19 to 88 (fun s57 wx=>s57=.bool (decide (0<s1*s2∨0<s3*s4))∧wx=wc)
  case first =>
   rcases g1.out with rfl | rfl | rfl <;> rcases g2.out with rfl | rfl | rfl <;> rcases g3.out with rfl | rfl | rfl <;> rcases g4.out with rfl | rfl | rfl
   all_goals (go_wp2;go_meet;exact ⟨rfl,rfl⟩)
  case rest =>
  obtain ⟨rfl,rfl⟩:=hcut
  by_cases hp:0<s1*s2∨0<s3*s4
  ·obtain ⟨rfl,rfl⟩:=(S6.out.2 HZ.out).1 hp
   rw [decide_eq_true hp]
   clear hp
   have hS:=HS.out
   have lt0:=lt_of_blk hS.b0
   obtain ⟨c00,c01,f00,f01⟩:=two_cells hS.b0
   have lt1:=lt_of_blk hS.b1
   obtain ⟨c10,c11,f10,f11⟩:=two_cells hS.b1
   have lt2:=lt_of_blk hS.b2
   obtain ⟨c20,c21,f20,f21⟩:=two_cells hS.b2
   have lt3:=lt_of_blk hS.b3
   obtain ⟨c30,c31,f30,f31⟩:=two_cells hS.b3
   have lt4:=lt_of_blk hS.b4
   obtain ⟨c40,c41,f40,f41⟩:=two_cells hS.b4
   clear hS
   obtain ⟨q0,q1,_,_⟩:=two_cells (HS.out.b4.set ⟨#[]⟩ ⟨#[]⟩)
   have Q0:=hid q0
   have Q1:=hid q1
   clear q0 q1
   go_wp2
   have q0:=Q0.out
   have q1:=Q1.out
   refine bodyPost_ret (v:=.tuple #[.int .i64 0,.agg #[.string ⟨#[]⟩,.string ⟨#[]⟩]]) (by simp [results,Tryz.results117,go_sem,q0,q1]) rfl ⟨rfl,?_⟩
   first | exact below_set2 HS.out.bel (by omega) _ _ | exact (below_set2 HS.out.bel (by omega) _ _).drew
  ·obtain ⟨rfl,rfl⟩:=(S6.out.2 HZ.out).2 hp
   rw [decide_eq_false hp]
   have D:=hid (E2.out HZ.out hp)
   clear hp E2
   have hS:=HS.out
   have lt0:=lt_of_blk hS.b0
   obtain ⟨c00,c01,f00,f01⟩:=two_cells hS.b0
   have lt1:=lt_of_blk hS.b1
   obtain ⟨c10,c11,f10,f11⟩:=two_cells hS.b1
   have lt2:=lt_of_blk hS.b2
   obtain ⟨c20,c21,f20,f21⟩:=two_cells hS.b2
   have lt3:=lt_of_blk hS.b3
   obtain ⟨c30,c31,f30,f31⟩:=two_cells hS.b3
   have hbB:=hS.bel
   clear hS
   go_wp2_with fail
   refine wp_held_list (fun W'=>Below wc.heap.size wc W') [0,1,2,4,5,6] [3,7] 8 (by kernel_rfl) (by kernel_rfl) ⟨rfl,rfl,rfl,Nat.le_refl _,fun _ _=>rfl⟩ ?_
   iterate 6
    refine wpTakeL_step rfl ?_ rfl ?_ ?_
    rotate_left
    ·intro W' hS'
     have s0:=(hS'.cell (p:=⟨w.heap.size,0,none⟩) lt0).trans c00
     have s1:=(hS'.cell (p:=⟨w.heap.size,1,none⟩) lt0).trans c01
     have s2:=(hS'.cell (p:=⟨w.heap.size+1,0,none⟩) lt1).trans c10
     have s3:=(hS'.cell (p:=⟨w.heap.size+1,1,none⟩) lt1).trans c11
     have s4:=(hS'.cell (p:=⟨w.heap.size+1+1,0,none⟩) lt2).trans c20
     have s5:=(hS'.cell (p:=⟨w.heap.size+1+1,1,none⟩) lt2).trans c21
     have s6:=(hS'.cell (p:=⟨w.heap.size+1+1+1,0,none⟩) lt3).trans c30
     have s7:=(hS'.cell (p:=⟨w.heap.size+1+1+1,1,none⟩) lt3).trans c31
     go_simp
     try with_reducible rfl
    try simp only [zA,zB,zC,Act.put,zD,zE,zF]
   have hY0:Below wc.heap.size wc wc.drew:=⟨rfl,rfl,rfl,Nat.le_refl _,fun _ _=>rfl⟩
   refine wpKeepL_step rfl rfl (fun K hK=>?_)
   go_simp
   refine (A1.out _ (hw.below (hbB.trans (hY0.mono hbB.size)))).mono ?_
   rintro e y1 ⟨rfl,hby1⟩
   have hY1:=hY0.trans (hby1.mono hY0.size)
   refine hK _ _ ⟨hY1,?_⟩
   clear hK K
   try simp only [zA,zB,zC,Act.put,zD,zE,zF]
   refine wpKeepL_step rfl rfl (fun K hK=>?_)
   go_simp
   refine (A2.out _ (hw.below (hbB.trans (hY1.mono hbB.size)))).mono ?_
   rintro e y2 ⟨rfl,hby2⟩
   have hY2:=hY1.trans (hby2.mono hY1.size)
   refine hK _ _ ⟨hY2,?_⟩
   clear hK K
   try simp only [zA,zB,zC,Act.put,zD,zE,zF]
   unfold wpKeepL
   simp only [List.drop_succ_cons,List.drop_zero]
   try simp only [zA,zB,zC,Act.put,zD,zE,zF]
   refine wpKeep_step rfl (fun K hK=>?_)
   go_simp
   refine hK _ _ ⟨trivial,?_⟩
   clear hK K
   try simp only [zA,zB,zC,Act.put,zD,zE,zF]
   refine wpKeep_step rfl (fun K hK=>?_)
   go_simp
   refine hK _ _ ⟨trivial,wpKeep_nil ?_⟩
   clear hK K
   try simp only [zA,zB,zC,Act.put,zD,zE,zF]
   refine NormalOnly.mk ?_
   have hT:=HS.out.below hY2
   clear hbB
   clear lt0 c00 c01 f00 f01 lt1 c10 c11 f10 f11 lt2 c20 c21 f20 f21 lt3 c30 c31 f30 f31
   go_wp2_with fail
   refine (E1.out _ (hw.below hT.bel)).mono ?_
   rintro e v3 ⟨rfl,hv3⟩
   have hT:=hT.below hv3
   go_wp2_with fail
   refine (D.out _ (hw.below hT.bel)).mono ?_
   rintro e v4 ⟨rfl,hv4⟩
   have hT:=hT.below hv4
   go_wp2_with fail
   obtain ⟨wC,hwC⟩ : ∃ q,q=v4.alloc (Obj.cells #[.string sh] 28):=⟨_,rfl⟩
   have hbC:Below v4.heap.size v4 wC:=by rw [hwC];exact alloc_below _ _
   have hcC:wC.cell? ⟨v4.heap.size,0,none⟩=some (.string sh):=by rw [hwC,World.cell?_alloc_new];rfl
   have hlC:v4.heap.size<wC.heap.size:=by rw [hwC];simp
   rw [←hwC]
   clear hwC
   have hT:=hT.below hbC
   have M1:=hid (fun (w':World) (hg:Below wC.heap.size wC w')=>L1.out v4.heap.size w' (hw.below (hT.bel.trans (hg.mono hT.bel.size))) (Nat.lt_of_lt_of_le hlC hg.size) ((hg.cell (p:=⟨v4.heap.size,0,none⟩) hlC).trans hcC))
   have M2:=hid (fun (w':World) (hg:Below wC.heap.size wC w')=>L2.out v4.heap.size w' (hw.below (hT.bel.trans (hg.mono hT.bel.size))) (Nat.lt_of_lt_of_le hlC hg.size) ((hg.cell (p:=⟨v4.heap.size,0,none⟩) hlC).trans hcC))
   have HT:=hid hT
   have lt0:=lt_of_blk hT.b0
   obtain ⟨c00,c01,f00,f01⟩:=two_cells hT.b0
   have lt1:=lt_of_blk hT.b1
   obtain ⟨c10,c11,f10,f11⟩:=two_cells hT.b1
   have lt2:=lt_of_blk hT.b2
   obtain ⟨c20,c21,f20,f21⟩:=two_cells hT.b2
   have lt3:=lt_of_blk hT.b3
   obtain ⟨c30,c31,f30,f31⟩:=two_cells hT.b3
   clear hT hlC hcC hbC
   refine wp_held_two (fun W'=>Below wC.heap.size wC W') [0,1,2,3,4,6,7,8,9,10] [5,11] [12,13] [] 14 (by kernel_rfl) (by kernel_rfl) ⟨rfl,rfl,rfl,Nat.le_refl _,fun _ _=>rfl⟩ ?_
   iterate 10
    refine wpTakeL_step rfl ?_ rfl ?_ ?_
    rotate_left
    ·intro W' hS'
     have s0:=(hS'.cell (p:=⟨w.heap.size,0,none⟩) lt0).trans c00
     have s1:=(hS'.cell (p:=⟨w.heap.size,1,none⟩) lt0).trans c01
     have s2:=(hS'.cell (p:=⟨w.heap.size+1,0,none⟩) lt1).trans c10
     have s3:=(hS'.cell (p:=⟨w.heap.size+1,1,none⟩) lt1).trans c11
     have s4:=(hS'.cell (p:=⟨w.heap.size+1+1,0,none⟩) lt2).trans c20
     have s5:=(hS'.cell (p:=⟨w.heap.size+1+1,1,none⟩) lt2).trans c21
     have s6:=(hS'.cell (p:=⟨w.heap.size+1+1+1,0,none⟩) lt3).trans c30
     have s7:=(hS'.cell (p:=⟨w.heap.size+1+1+1,1,none⟩) lt3).trans c31
     go_simp
     try with_reducible rfl
    try simp only [zA,zB,zC,Act.put,zD,zE,zF]
   have hQ0:Below wC.heap.size wC wC.drew:=⟨rfl,rfl,rfl,Nat.le_refl _,fun _ _=>rfl⟩
   refine wpKeepL_step rfl rfl (fun K hK=>?_)
   go_simp
   refine (M1.out _ hQ0).mono ?_
   rintro e y3 ⟨rfl,hby3⟩
   have hQ1:=hQ0.trans (hby3.mono hQ0.size)
   refine hK _ _ ⟨hQ1,?_⟩
   clear hK K
   try simp only [zA,zB,zC,Act.put,zD,zE,zF]
   refine wpKeepL_step rfl rfl (fun K hK=>?_)
   go_simp
   refine (M2.out _ hQ1).mono ?_
   rintro e y4 ⟨rfl,hby4⟩
   have hQ2:=hQ1.trans (hby4.mono hQ1.size)
   refine hK _ _ ⟨hQ2,?_⟩
   clear hK K
   try simp only [zA,zB,zC,Act.put,zD,zE,zF]
   unfold wpKeepL
   iterate 2
    refine wpTakeL_step rfl ?_ rfl ?_ ?_
    rotate_left
    ·intro W' hS'
     go_simp
     try with_reducible rfl
    try simp only [zA,zB,zC,Act.put,zD,zE,zF]
   unfold wpTakeL
   have hU:=HT.out.below hQ2
   clear lt0 c00 c01 f00 f01 lt1 c10 c11 f10 f11 lt2 c20 c21 f20 f21 lt3 c30 c31 f30 f31
   have lt0:=lt_of_blk hU.b0
   obtain ⟨c00,c01,f00,f01⟩:=two_cells hU.b0
   have lt1:=lt_of_blk hU.b1
   obtain ⟨c10,c11,f10,f11⟩:=two_cells hU.b1
   have lt2:=lt_of_blk hU.b2
   obtain ⟨c20,c21,f20,f21⟩:=two_cells hU.b2
   have lt3:=lt_of_blk hU.b3
   obtain ⟨c30,c31,f30,f31⟩:=two_cells hU.b3
   have lt4:=lt_of_blk hU.b4
   obtain ⟨c40,c41,f40,f41⟩:=two_cells hU.b4
   have HU:=hid hU
   clear hU
   obtain ⟨q0,q1,_,_⟩:=two_cells (HU.out.b4.set z1 z2)
   have Q0:=hid q0
   have Q1:=hid q1
   clear q0 q1
   unfold wpKeepL
   simp only [List.drop_succ_cons,List.drop_zero]
   try simp only [zA,zB,zC,Act.put,zD,zE,zF]
   refine wpKeep_step rfl (fun K hK=>?_)
   go_simp
   refine hK _ _ ⟨trivial,wpKeep_nil ?_⟩
   clear hK K
   try simp only [zA,zB,zC,Act.put,zD,zE,zF]
   refine NormalOnly.mk ?_
   go_wp2
   have q0:=Q0.out
   have q1:=Q1.out
   refine bodyPost_ret (v:=.tuple #[.int .i64 1,.agg #[.string z1,.string z2]]) (by simp [results,Tryz.results117,go_sem,q0,q1]) rfl ⟨rfl,?_⟩
   first | exact below_set2 HU.out.bel (by omega) _ _ | exact (below_set2 HU.out.bel (by omega) _ _).drew
end Go.Proofs.YtogdahbbogimcaaGreatDoor
