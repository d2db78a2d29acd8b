import Derived.Test.YtogdahbbogimcaaGreatDoorStillZ
import Derived.Test.YtogdahbbogimcaaGreatDoorTxZ
set_option maxRecDepth 100000
set_option maxHeartbeats 4000000
namespace Go.Proofs.YtogdahbbogimcaaGreatDoor
open Go.RowKit Go.Shelf
open Go.Lib (decDigits itoa nDigits)
open Go.Lib (hid)
def plusQ (p d:QP) (k:Rat):QP:=(p.1+k*d.1,p.2+k*d.2)
def minusQ (p q:QP):QP:=plusQ p q (-1)
def dotQ (p q:QP):Rat:=p.1*q.1+p.2*q.2
def upQ (d:QP):QP:=(-d.2,d.1)
def dirQ (t:Rat):QP:=((1-t*t)*(1+t*t)⁻¹,(t+t)*(1+t*t)⁻¹)
theorem kink_plus (p d:QP) (k:Rat) (hp:Sz2 100000000 p) (hd:Sz2 100000000 d) (hk:Sz 100000000 k) (w:World) (hw:Good w) :
  Calls Tryz.prog 50 #[ptV p,ptV d,.string (tx k)] w (RV (ptV (plusQ p d k)) w):=by
 have M1:=hid (fun w' (hg:Good w')=>k_mul k d.1 (hk.mono (by decide)) (hd.1.mono (by decide)) w' hg)
 have M2:=hid (fun w' (hg:Good w')=>k_mul k d.2 (hk.mono (by decide)) (hd.2.mono (by decide)) w' hg)
 have A1:=hid (fun w' (hg:Good w')=>k_add p.1 (k*d.1) (hp.1.mono (by decide)) ((hk.mul hd.1).mono (by decide)) w' hg)
 have A2:=hid (fun w' (hg:Good w')=>k_add p.2 (k*d.2) (hp.2.mono (by decide)) ((hk.mul hd.2).mono (by decide)) w' hg)
 unfold RV at M1 M2 A1 A2
 unfold ptV plusQ
 dsimp only
 generalize tx (p.1+k*d.1)=r1 at *
 generalize tx (p.2+k*d.2)=r2 at *
 generalize tx (k*d.1)=m1 at *
 generalize tx (k*d.2)=m2 at *
 generalize tx p.1=p1 at *
 generalize tx p.2=p2 at *
 generalize tx d.1=d1 at *
 generalize tx d.2=d2 at *
 generalize tx k=tk at *
 clear hp hd hk
 go_enter Tryz.func50,Tryz.ntmps50
 go_wp2_with fail
 obtain ⟨wA,hwA⟩ : ∃ wA,wA=((w.alloc (Obj.cells #[.string p1,.string p2] 30)).alloc (Obj.cells #[.string d1,.string d2] 30)).alloc (Obj.cells #[.string ⟨#[]⟩,.string ⟨#[]⟩] 30):=⟨_,rfl⟩
 obtain ⟨hbA,x1,x2,x3⟩:=boxes3 hwA
 rw [←hwA]
 clear hwA
 obtain ⟨a0,a1,_,_⟩:=two_cells x1
 obtain ⟨b0,b1,_,_⟩:=two_cells x2
 have l1:=lt_of_blk x1
 have l2:=lt_of_blk x2
 have l3:=lt_of_blk x3
 have X3:=hid x3
 clear x1 x2 x3
 refine wp_held_list (fun W'=>Below wA.heap.size wA W') [0,1,2,3,4,7,8,9,10,11] [5,6,12,13] 14 (by kernel_rfl) (by kernel_rfl) ⟨rfl,rfl,rfl,Nat.le_refl _,fun _ _=>rfl⟩ ?_
 iterate 10
  refine wpTakeL_step rfl ?_ rfl ?_ ?_
  rotate_left
  ·intro W' hS'
   have s0:=(hS'.cell (p:=⟨w.heap.size,0,none⟩) l1).trans a0
   have s1:=(hS'.cell (p:=⟨w.heap.size,1,none⟩) l1).trans a1
   have s2:=(hS'.cell (p:=⟨w.heap.size+1,0,none⟩) l2).trans b0
   have s3:=(hS'.cell (p:=⟨w.heap.size+1,1,none⟩) l2).trans b1
   go_simp
   try with_reducible rfl
  try simp only [zA,zB,zC,Act.put,zD,zE,zF]
 have hH0:Below wA.heap.size wA wA.drew:=⟨rfl,rfl,rfl,Nat.le_refl _,fun _ _=>rfl⟩
 refine wpKeepL_step rfl rfl (fun K hK=>?_)
 go_simp
 refine (M1.out _ (hw.below (hbA.trans (hH0.mono hbA.size)))).mono ?_
 rintro e v1 ⟨rfl,hbv1⟩
 have hH1:=hH0.trans (hbv1.mono hH0.size)
 refine hK _ _ ⟨hH1,?_⟩
 clear hK K
 try simp only [zA,zB,zC,Act.put,zD,zE,zF]
 refine wpKeepL_step rfl rfl (fun K hK=>?_)
 go_simp
 refine (A1.out _ (hw.below (hbA.trans (hH1.mono hbA.size)))).mono ?_
 rintro e v2 ⟨rfl,hbv2⟩
 have hH2:=hH1.trans (hbv2.mono hH1.size)
 refine hK _ _ ⟨hH2,?_⟩
 clear hK K
 try simp only [zA,zB,zC,Act.put,zD,zE,zF]
 refine wpKeepL_step rfl rfl (fun K hK=>?_)
 go_simp
 refine (M2.out _ (hw.below (hbA.trans (hH2.mono hbA.size)))).mono ?_
 rintro e v3 ⟨rfl,hbv3⟩
 have hH3:=hH2.trans (hbv3.mono hH2.size)
 refine hK _ _ ⟨hH3,?_⟩
 clear hK K
 try simp only [zA,zB,zC,Act.put,zD,zE,zF]
 refine wpKeepL_step rfl rfl (fun K hK=>?_)
 go_simp
 refine (A2.out _ (hw.below (hbA.trans (hH3.mono hbA.size)))).mono ?_
 rintro e v4 ⟨rfl,hbv4⟩
 have hH4:=hH3.trans (hbv4.mono hH3.size)
 refine hK _ _ ⟨hH4,?_⟩
 clear hK K
 try simp only [zA,zB,zC,Act.put,zD,zE,zF]
 have hbw:=hbA.trans (hH4.mono hbA.size)
 have hp3:=(hH4.block _ l3).trans X3.out
 obtain ⟨_,_,_,_⟩:=two_cells hp3
 have hpz:=two_set1 (.string r2) (two_set0 (.string r1) hp3)
 obtain ⟨q0,q1,_,_⟩:=two_cells hpz
 have Q0:=hid q0
 have Q1:=hid q1
 clear hpz hp3 q0 q1 a0 a1 b0 b1
 unfold wpKeepL
 simp only [List.drop_succ_cons,List.drop_zero]
 try simp only [zA,zB,zC,Act.put,zD,zE,zF]
 refine wpKeep_step rfl (fun K hK=>?_)
 go_simp
 refine hK _ _ ⟨trivial,?_⟩
 clear hK K
 try simp only [zA,zB,zC,Act.put,zD,zE,zF]
 refine wpKeep_step rfl (fun K hK=>?_)
 go_simp
 refine hK _ _ ⟨trivial,wpKeep_nil ?_⟩
 clear hK K
 try simp only [zA,zB,zC,Act.put,zD,zE,zF]
 refine NormalOnly.mk ?_
 go_wp2
 have q0:=Q0.out
 have q1:=Q1.out
 refine bodyPost_ret (v:=.agg #[.string r1,.string r2]) (by simp [results,Tryz.results50,go_sem,q0,q1]) rfl ⟨rfl,?_⟩
 exact (hbw.setCell (p:=⟨w.heap.size+1+1,0,none⟩) (by simp;omega) _).setCell (p:=⟨w.heap.size+1+1,1,none⟩) (by simp;omega) _
theorem kink_minus (p q:QP) (hp:Sz2 100000000 p) (hq:Sz2 100000000 q) (w:World) (hw:Good w) :
  Calls Tryz.prog 79 #[ptV p,ptV q] w (RV (ptV (minusQ p q)) w):=by
 have PL:=hid (fun w' (hg:Good w')=>kink_plus p q (-1) hp hq (by unfold Sz;rw [txm1];decide) w' hg)
 unfold RV at PL
 unfold minusQ
 rw [txm1] at PL
 unfold ptV at PL ⊢
 generalize (plusQ p q (-1)).1=r1 at *
 generalize (plusQ p q (-1)).2=r2 at *
 generalize tx r1=r1 at *
 generalize tx r2=r2 at *
 generalize tx p.1=p1 at *
 generalize tx p.2=p2 at *
 generalize tx q.1=d1 at *
 generalize tx q.2=d2 at *
 clear hp hq
 go_enter Tryz.func79,Tryz.ntmps79
 go_upto_region 1 with fail
 obtain ⟨wA,hwA⟩ : ∃ wA,wA=((w.alloc (Obj.cells #[.string p1,.string p2] 30)).alloc (Obj.cells #[.string d1,.string d2] 30)).alloc (Obj.cells #[.string ⟨#[]⟩,.string ⟨#[]⟩] 30):=⟨_,rfl⟩
 obtain ⟨hbA,x1,x2,x3⟩:=boxes3 hwA
 rw [←hwA]
 clear hwA
 obtain ⟨a0,a1,_,_⟩:=two_cells x1
 obtain ⟨b0,b1,_,_⟩:=two_cells x2
 have X3:=hid x3
 clear x1 x2 x3
 go_wp2_with fail
 refine (PL.out _ (hw.below hbA)).mono ?_
 rintro e w1 ⟨rfl,hb1⟩
 have hbw:=hbA.trans (hb1.mono hbA.size)
 have hp3:=(hb1.block _ (lt_of_blk X3.out)).trans X3.out
 obtain ⟨_,_,_,_⟩:=two_cells hp3
 have hpz:=two_set1 (.string r2) (two_set0 (.string r1) hp3)
 obtain ⟨q0,q1,_,_⟩:=two_cells hpz
 have Q0:=hid q0
 have Q1:=hid q1
 clear hpz hp3 q0 q1 a0 a1 b0 b1
 go_wp2
 have q0:=Q0.out
 have q1:=Q1.out
 refine bodyPost_ret (v:=.agg #[.string r1,.string r2]) (by simp [results,Tryz.results79,go_sem,q0,q1]) rfl ⟨rfl,?_⟩
 exact (hbw.setCell (p:=⟨w.heap.size+1+1,0,none⟩) (by simp;omega) _).setCell (p:=⟨w.heap.size+1+1,1,none⟩) (by simp;omega) _
theorem sz_dot {m:Nat} {p q:QP} (hp:Sz2 m p) (hq:Sz2 m q):Sz (8*m+20) (dotQ p q):=((hp.1.mul hq.1).add (hp.2.mul hq.2)).mono (by omega)
theorem kink_dot (p d:QP) (hp:Sz2 100000000 p) (hd:Sz2 100000000 d) (w:World) (hw:Good w) :
  Calls Tryz.prog 78 #[ptV p,ptV d] w (RV (.string (tx (dotQ p d))) w):=by
 have M1:=hid (fun w' (hg:Good w')=>k_mul p.1 d.1 (hp.1.mono (by decide)) (hd.1.mono (by decide)) w' hg)
 have M2:=hid (fun w' (hg:Good w')=>k_mul p.2 d.2 (hp.2.mono (by decide)) (hd.2.mono (by decide)) w' hg)
 have A1:=hid (fun w' (hg:Good w')=>k_add (p.1*d.1) (p.2*d.2) ((hp.1.mul hd.1).mono (by decide)) ((hp.2.mul hd.2).mono (by decide)) w' hg)
 unfold RV at M1 M2 A1
 unfold ptV dotQ
 generalize tx (p.1*d.1+p.2*d.2)=r at *
 generalize tx (p.1*d.1)=m1 at *
 generalize tx (p.2*d.2)=m2 at *
 generalize tx p.1=p1 at *
 generalize tx p.2=p2 at *
 generalize tx d.1=d1 at *
 generalize tx d.2=d2 at *
 clear hp hd
 go_enter Tryz.func78,Tryz.ntmps78
 go_wp2_with fail
 obtain ⟨wA,hwA⟩ : ∃ wA,wA=(w.alloc (Obj.cells #[.string p1,.string p2] 30)).alloc (Obj.cells #[.string d1,.string d2] 30):=⟨_,rfl⟩
 obtain ⟨hbA,x1,x2⟩:=boxes2 hwA
 rw [←hwA]
 clear hwA
 obtain ⟨a0,a1,_,_⟩:=two_cells x1
 obtain ⟨b0,b1,_,_⟩:=two_cells x2
 have l1:=lt_of_blk x1
 have l2:=lt_of_blk x2
 clear x1 x2
 refine wp_held_list (fun W'=>Below wA.heap.size wA W') [0,1,2,3,5,6,7,8] [4,9,10] 11 (by kernel_rfl) (by kernel_rfl) ⟨rfl,rfl,rfl,Nat.le_refl _,fun _ _=>rfl⟩ ?_
 iterate 8
  refine wpTakeL_step rfl ?_ rfl ?_ ?_
  rotate_left
  ·intro W' hS'
   have s0:=(hS'.cell (p:=⟨w.heap.size,0,none⟩) l1).trans a0
   have s1:=(hS'.cell (p:=⟨w.heap.size,1,none⟩) l1).trans a1
   have s2:=(hS'.cell (p:=⟨w.heap.size+1,0,none⟩) l2).trans b0
   have s3:=(hS'.cell (p:=⟨w.heap.size+1,1,none⟩) l2).trans b1
   go_simp
   try with_reducible rfl
  try simp only [zA,zB,zC,Act.put,zD,zE,zF]
 have hH0:Below wA.heap.size wA wA.drew:=⟨rfl,rfl,rfl,Nat.le_refl _,fun _ _=>rfl⟩
 refine wpKeepL_step rfl rfl (fun K hK=>?_)
 go_simp
 refine (M1.out _ (hw.below (hbA.trans (hH0.mono hbA.size)))).mono ?_
 rintro e v1 ⟨rfl,hbv1⟩
 have hH1:=hH0.trans (hbv1.mono hH0.size)
 refine hK _ _ ⟨hH1,?_⟩
 clear hK K
 try simp only [zA,zB,zC,Act.put,zD,zE,zF]
 refine wpKeepL_step rfl rfl (fun K hK=>?_)
 go_simp
 refine (M2.out _ (hw.below (hbA.trans (hH1.mono hbA.size)))).mono ?_
 rintro e v2 ⟨rfl,hbv2⟩
 have hH2:=hH1.trans (hbv2.mono hH1.size)
 refine hK _ _ ⟨hH2,?_⟩
 clear hK K
 try simp only [zA,zB,zC,Act.put,zD,zE,zF]
 refine wpKeepL_step rfl rfl (fun K hK=>?_)
 go_simp
 refine (A1.out _ (hw.below (hbA.trans (hH2.mono hbA.size)))).mono ?_
 rintro e v3 ⟨rfl,hbv3⟩
 have hH3:=hH2.trans (hbv3.mono hH2.size)
 refine hK _ _ ⟨hH3,?_⟩
 clear hK K
 try simp only [zA,zB,zC,Act.put,zD,zE,zF]
 unfold wpKeepL
 simp only [List.drop_succ_cons,List.drop_zero]
 try simp only [zA,zB,zC,Act.put,zD,zE,zF]
 refine wpKeep_step rfl (fun K hK=>?_)
 go_simp
 refine hK _ _ ⟨trivial,wpKeep_nil ?_⟩
 clear hK K
 try simp only [zA,zB,zC,Act.put,zD,zE,zF]
 refine NormalOnly.mk ?_
 go_wp2
 go_ret
 exact ⟨rfl,hbA.trans (hH3.mono hbA.size)⟩
theorem kink_up (d:QP) (hd:Sz2 100000000 d) (w:World) :
  Calls Tryz.prog 111 #[ptV d] w (RV (ptV (upQ d)) w):=by
 have N1:=hid (fun w'=>k_neg d.2 (hd.2.mono (by decide)) w')
 unfold RV at N1
 unfold ptV upQ
 dsimp only
 generalize tx (-d.2)=r at *
 generalize tx d.1=d1 at *
 generalize tx d.2=d2 at *
 clear hd
 go_enter Tryz.func111,Tryz.ntmps111
 go_wp2_with fail
 obtain ⟨wA,hwA⟩ : ∃ wA,wA=(w.alloc (Obj.cells #[.string d1,.string d2] 30)).alloc (Obj.cells #[.string ⟨#[]⟩,.string ⟨#[]⟩] 30):=⟨_,rfl⟩
 obtain ⟨hbA,x1,x2⟩:=boxes2 hwA
 rw [←hwA]
 clear hwA
 obtain ⟨a0,a1,_,_⟩:=two_cells x1
 have l1:=lt_of_blk x1
 have l2:=lt_of_blk x2
 have X3:=hid x2
 clear x1 x2
 refine wp_held_list (fun W'=>Below wA.heap.size wA W') [0,1,3,4] [2] 5 (by kernel_rfl) (by kernel_rfl) ⟨rfl,rfl,rfl,Nat.le_refl _,fun _ _=>rfl⟩ ?_
 iterate 4
  refine wpTakeL_step rfl ?_ rfl ?_ ?_
  rotate_left
  ·intro W' hS'
   have s0:=(hS'.cell (p:=⟨w.heap.size,0,none⟩) l1).trans a0
   have s1:=(hS'.cell (p:=⟨w.heap.size,1,none⟩) l1).trans a1
   go_simp
   try with_reducible rfl
  try simp only [zA,zB,zC,Act.put,zD,zE,zF]
 have hH0:Below wA.heap.size wA wA.drew:=⟨rfl,rfl,rfl,Nat.le_refl _,fun _ _=>rfl⟩
 refine wpKeepL_step rfl rfl (fun K hK=>?_)
 go_simp
 refine (N1.out _).mono ?_
 rintro e v1 ⟨rfl,hbv1⟩
 have hH1:=hH0.trans (hbv1.mono hH0.size)
 refine hK _ _ ⟨hH1,?_⟩
 clear hK K
 try simp only [zA,zB,zC,Act.put,zD,zE,zF]
 have hbw:=hbA.trans (hH1.mono hbA.size)
 have hp3:=(hH1.block _ l2).trans X3.out
 obtain ⟨_,_,_,_⟩:=two_cells hp3
 have hpz:=two_set1 (.string d1) (two_set0 (.string r) hp3)
 obtain ⟨q0,q1,_,_⟩:=two_cells hpz
 have Q0:=hid q0
 have Q1:=hid q1
 clear hpz hp3 q0 q1 a0 a1
 unfold wpKeepL
 simp only [List.drop_succ_cons,List.drop_zero]
 try simp only [zA,zB,zC,Act.put,zD,zE,zF]
 refine wpKeep_step rfl (fun K hK=>?_)
 go_simp
 refine hK _ _ ⟨trivial,?_⟩
 clear hK K
 try simp only [zA,zB,zC,Act.put,zD,zE,zF]
 refine wpKeep_step rfl (fun K hK=>?_)
 go_simp
 refine hK _ _ ⟨trivial,wpKeep_nil ?_⟩
 clear hK K
 try simp only [zA,zB,zC,Act.put,zD,zE,zF]
 refine NormalOnly.mk ?_
 go_wp2
 have q0:=Q0.out
 have q1:=Q1.out
 refine bodyPost_ret (v:=.agg #[.string r,.string d1]) (by simp [results,Tryz.results111,go_sem,q0,q1]) rfl ⟨rfl,?_⟩
 exact (hbw.setCell (p:=⟨w.heap.size+1,0,none⟩) (by simp) _).setCell (p:=⟨w.heap.size+1,1,none⟩) (by simp) _
theorem kink_quotient (p q:Rat) (h0:q≠0) (hp:Sz 900000000 p) (hq:Sz 900000000 q) (w:World) (hw:Good w) :
  Calls Tryz.prog 75 #[.string (tx p),.string (tx q)] w (RV (.string (tx (p*q⁻¹))) w):=by
 have D1:=hid (fun w' (hg:Good w')=>k_div p q h0 hp hq w' hg)
 unfold RV at D1
 generalize tx (p*q⁻¹)=r at *
 generalize tx p=p1 at *
 generalize tx q=q1 at *
 clear hp hq
 go_enter Tryz.func75,Tryz.ntmps75
 go_wp2_with fail
 refine (D1.out w hw).mono ?_
 rintro e w1 ⟨rfl,hb1⟩
 go_wp2
 go_ret
 exact ⟨rfl,hb1⟩
theorem one_sq_ne (t:Rat):1+t*t≠0:=by
 have h:0≤t*t:=by
  rcases rat_le_or 0 t with h | h
  ·exact Rat.mul_nonneg h h
  ·have:=Rat.mul_nonneg (show 0 ≤ -t by grind) (show 0 ≤ -t by grind)
   grind
 grind
theorem sz_dir {t:Rat} {n:Nat} (h:Sz n t):Sz2 (12*n+100) (dirQ t):=by
 have h1:Sz 1 1:=by unfold Sz;rw [tx1];decide
 have hs:=h.mul h
 exact ⟨((h1.sub hs).div (h1.add hs)).mono (by omega),((h.add h).div (h1.add hs)).mono (by omega)⟩
theorem kink_direction (t:Rat) (ht:Sz 10000000 t) (w:World) (hw:Good w) :
  Calls Tryz.prog 74 #[.string (tx t)] w (RV (ptV (dirQ t)) w):=by
 have h1:Sz 1 1:=by unfold Sz;rw [tx1];decide
 have hs:=ht.mul ht
 have M1:=hid (fun w' (hg:Good w')=>k_mul t t (ht.mono (by decide)) (ht.mono (by decide)) w' hg)
 have A1:=hid (fun w' (hg:Good w')=>k_add 1 (t*t) (h1.mono (by decide)) (hs.mono (by decide)) w' hg)
 have S1:=hid (fun w' (hg:Good w')=>k_sub 1 (t*t) (h1.mono (by decide)) (hs.mono (by decide)) w' hg)
 have Q1:=hid (fun w' (hg:Good w')=>kink_quotient (1-t*t) (1+t*t) (one_sq_ne t) ((h1.sub hs).mono (by decide)) ((h1.add hs).mono (by decide)) w' hg)
 have A2:=hid (fun w' (hg:Good w')=>k_add t t (ht.mono (by decide)) (ht.mono (by decide)) w' hg)
 have Q2:=hid (fun w' (hg:Good w')=>kink_quotient (t+t) (1+t*t) (one_sq_ne t) ((ht.add ht).mono (by decide)) ((h1.add hs).mono (by decide)) w' hg)
 unfold RV at M1 A1 S1 Q1 A2 Q2
 rw [tx1] at A1 S1
 unfold ptV dirQ
 dsimp only
 generalize tx ((1-t*t)*(1+t*t)⁻¹)=r1 at *
 generalize tx ((t+t)*(1+t*t)⁻¹)=r2 at *
 generalize tx (1-t*t)=m1 at *
 generalize tx (1+t*t)=m2 at *
 generalize tx (t+t)=m3 at *
 generalize tx (t*t)=m4 at *
 generalize tx t=t1 at *
 clear ht hs h1
 go_enter Tryz.func74,Tryz.ntmps74
 go_wp2_with fail
 obtain ⟨wA,hwA⟩ : ∃ wA,wA=w.alloc (Obj.cells #[.string ⟨#[]⟩,.string ⟨#[]⟩] 30):=⟨_,rfl⟩
 have hbA:Below w.heap.size w wA:=by rw [hwA];exact alloc_below _ _
 have hxA:wA.heap[w.heap.size]?=some (.cells #[.string ⟨#[]⟩,.string ⟨#[]⟩] 30 (0,0)):=by rw [hwA];exact World.alloc_heap_new _ _
 have XA:=hid hxA
 rw [←hwA]
 clear hwA hxA
 refine (M1.out _ (hw.below hbA)).mono ?_
 rintro e v1 ⟨rfl,hv1⟩
 have hbv1:=hbA.trans (hv1.mono hbA.size)
 have hq1:=hv1
 go_wp2_with fail
 refine (A1.out _ (hw.below hbv1)).mono ?_
 rintro e v2 ⟨rfl,hv2⟩
 have hbv2:=hbv1.trans (hv2.mono hbv1.size)
 have hq2:=hq1.trans (hv2.mono hq1.size)
 go_wp2_with fail
 refine (S1.out _ (hw.below hbv2)).mono ?_
 rintro e v3 ⟨rfl,hv3⟩
 have hbv3:=hbv2.trans (hv3.mono hbv2.size)
 have hq3:=hq2.trans (hv3.mono hq2.size)
 go_wp2_with fail
 refine (Q1.out _ (hw.below hbv3)).mono ?_
 rintro e v4 ⟨rfl,hv4⟩
 have hbv4:=hbv3.trans (hv4.mono hbv3.size)
 have hq4:=hq3.trans (hv4.mono hq3.size)
 go_wp2_with fail
 refine (A2.out _ (hw.below hbv4)).mono ?_
 rintro e v5 ⟨rfl,hv5⟩
 have hbv5:=hbv4.trans (hv5.mono hbv4.size)
 have hq5:=hq4.trans (hv5.mono hq4.size)
 go_wp2_with fail
 refine (Q2.out _ (hw.below hbv5)).mono ?_
 rintro e v6 ⟨rfl,hv6⟩
 have hbv6:=hbv5.trans (hv6.mono hbv5.size)
 have hq6:=hq5.trans (hv6.mono hq5.size)
 have hbw:=hbv6
 have hbq:=hq6
 clear hv1 hv2 hv3 hv4 hv5 hv6
 have hp3:=(hbq.block _ (lt_of_blk XA.out)).trans XA.out
 obtain ⟨_,_,_,_⟩:=two_cells hp3
 have hpz:=two_set1 (.string r2) (two_set0 (.string r1) hp3)
 obtain ⟨q0,q1,_,_⟩:=two_cells hpz
 have Q0:=hid q0
 have Q1:=hid q1
 clear hpz hp3 q0 q1
 go_wp2
 have q0:=Q0.out
 have q1:=Q1.out
 refine bodyPost_ret (v:=.agg #[.string r1,.string r2]) (by simp [results,Tryz.results74,go_sem,q0,q1]) rfl ⟨rfl,?_⟩
 exact (hbw.setCell (p:=⟨w.heap.size,0,none⟩) (by simp) _).setCell (p:=⟨w.heap.size,1,none⟩) (by simp) _
theorem vec_CheckPoint (p:QP) (h1:OkB p.1) (h2:OkB p.2) (w:World) (hw:Good w) :
  Calls Tryz.prog 55 #[ptV p] w (RV (.int .i64 0) w):=by
 have HN:=hid (fun w' (hg:Good w') u (hv:Txs w' u [p.1,p.2])=>vec_numbers u [p.1,p.2] (fun c hc=>by
  rcases List.mem_cons.1 hc with e | e
  ·rw [e];exact h1
  ·rw [List.mem_singleton.1 e];exact h2) w' hg hv (by simp))
 have HT:=hid (fun w'=>txs_two p.1 p.2 w')
 unfold RV at HN
 unfold ptV
 generalize p.1=x at *
 generalize p.2=y at *
 clear h1 h2
 generalize hx:tx x=x1 at *
 generalize hy:tx y=y1 at *
 have hbw:=Below.refl w.heap.size w
 clear hx hy
 go_enter Tryz.func55,Tryz.ntmps55
 go_wp2_with fail
 have ht:=HT.out (w.alloc (Obj.cells #[.string x1,.string y1] 30))
 have hb:=(alloc_below w (Obj.cells #[.string x1,.string y1] 30)).trans ((alloc_below (w.alloc (Obj.cells #[.string x1,.string y1] 30)) (Obj.cells #[.string x1,.string y1] 28)).mono (by simp))
 simp only [World.size_alloc] at ht
 refine (HN.out _ (hw.below hb) _ ht).mono ?_
 rintro e w1 ⟨rfl,hb1⟩
 go_wp2
 go_ret
 exact ⟨rfl,hb.trans (hb1.mono hb.size)⟩
theorem kink_place (p:QP) (h1:OkB p.1) (h2:OkB p.2) (w:World) (hw:Good w) :
  Calls Tryz.prog 48 #[ptV p] w (RV (.tuple #[ptV p,.int .i64 0]) w):=by
 have HC:=hid (fun w' (hg:Good w')=>vec_CheckPoint p h1 h2 w' hg)
 unfold RV at HC
 unfold ptV at HC ⊢
 generalize tx p.1=x1 at *
 generalize tx p.2=y1 at *
 clear h1 h2
 go_enter Tryz.func48,Tryz.ntmps48
 go_upto_region 1 with fail
 obtain ⟨wA,hwA⟩ : ∃ wA,wA=(w.alloc (Obj.cells #[.string x1,.string y1] 30)).alloc (Obj.cells #[.string ⟨#[]⟩,.string ⟨#[]⟩] 30):=⟨_,rfl⟩
 obtain ⟨hbA,x1',x2'⟩:=boxes2 hwA
 rw [←hwA]
 clear hwA
 have XA:=hid x1'
 have XB:=hid x2'
 obtain ⟨a0,a1,_,_⟩:=two_cells x1'
 clear x1' x2'
 go_wp2_with fail
 refine (HC.out _ (hw.below hbA)).mono ?_
 rintro e w1 ⟨rfl,hb1⟩
 have hbw:=hbA.trans (hb1.mono hbA.size)
 obtain ⟨b0,b1,_,_⟩:=two_cells ((hb1.block _ (lt_of_blk XA.out)).trans XA.out)
 have hp3:=(hb1.block _ (lt_of_blk XB.out)).trans XB.out
 obtain ⟨_,_,_,_⟩:=two_cells hp3
 have hpz:=two_set1 (.string y1) (two_set0 (.string x1) hp3)
 obtain ⟨q0,q1,_,_⟩:=two_cells hpz
 have Q0:=hid q0
 have Q1:=hid q1
 clear hpz hp3 q0 q1 a0 a1
 go_wp2
 have q0:=Q0.out
 have q1:=Q1.out
 refine bodyPost_ret (v:=.tuple #[.agg #[.string x1,.string y1],.int .i64 0]) (by simp [results,Tryz.results48,go_sem,q0,q1]) rfl ⟨rfl,?_⟩
 exact (hbw.setCell (p:=⟨w.heap.size+1,0,none⟩) (by simp) _).setCell (p:=⟨w.heap.size+1,1,none⟩) (by simp) _
theorem rat_Whole (n:Int) (h0:-9223372036854775808≤n) (h1:n≤9223372036854775807) (w:World) (hw:Good w) :
  Calls Tryz.prog 16 #[.int .i64 n] w (RV (.string (tx (n:Rat))) w):=by
 have HO:=hid (fun w' (hg:Good w')=>integer_Of n h0 h1 w' hg)
 have HU:=hid (fun (r:ByteArray) (h:IsI r n)=>show r=tx (n:Rat) from h.toR.unique (isR_mk (n:Rat)))
 generalize tx (n:Rat)=t at *
 go_enter Tryz.func16,Tryz.ntmps16
 go_wp2_with fail
 refine (HO.out w hw).mono ?_
 rintro e w1 ⟨r,rfl,hr,hb1⟩
 obtain rfl:=HU.out r hr
 clear hr
 go_wp2
 go_ret
 exact ⟨rfl,hb1⟩
theorem vec_At (x y:Int) (hx0:-9223372036854775808≤x) (hx1:x≤9223372036854775807) (hy0:-9223372036854775808≤y) (hy1:y≤9223372036854775807) (w:World) (hw:Good w) :
  Calls Tryz.prog 15 #[.int .i64 x,.int .i64 y] w (RV (ptV ((x:Rat),(y:Rat))) w):=by
 have HX:=hid (fun w' (hg:Good w')=>rat_Whole x hx0 hx1 w' hg)
 have HY:=hid (fun w' (hg:Good w')=>rat_Whole y hy0 hy1 w' hg)
 unfold RV at HX HY
 unfold ptV
 dsimp only
 generalize tx (x:Rat)=tx1 at *
 generalize tx (y:Rat)=ty1 at *
 clear hx0 hx1 hy0 hy1
 go_enter Tryz.func15,Tryz.ntmps15
 go_wp2_with fail
 obtain ⟨wA,hwA⟩ : ∃ wA,wA=w.alloc (Obj.cells #[.string ⟨#[]⟩,.string ⟨#[]⟩] 30):=⟨_,rfl⟩
 have hbA:Below w.heap.size w wA:=by rw [hwA];exact alloc_below _ _
 have hxA:wA.heap[w.heap.size]?=some (.cells #[.string ⟨#[]⟩,.string ⟨#[]⟩] 30 (0,0)):=by rw [hwA];exact World.alloc_heap_new _ _
 have XA:=hid hxA
 rw [←hwA]
 clear hwA hxA
 refine (HX.out _ (hw.below hbA)).mono ?_
 rintro e w1 ⟨rfl,hb1⟩
 have hb01:=hbA.trans (hb1.mono hbA.size)
 go_wp2_with fail
 refine (HY.out _ (hw.below hb01)).mono ?_
 rintro e w2 ⟨rfl,hb2⟩
 have hbw:=hb01.trans (hb2.mono hb01.size)
 have hbq:=hb1.trans (hb2.mono hb1.size)
 have hp3:=(hbq.block _ (lt_of_blk XA.out)).trans XA.out
 obtain ⟨_,_,_,_⟩:=two_cells hp3
 have hpz:=two_set1 (.string ty1) (two_set0 (.string tx1) hp3)
 obtain ⟨q0,q1,_,_⟩:=two_cells hpz
 have Q0:=hid q0
 have Q1:=hid q1
 clear hpz hp3 q0 q1
 go_wp2
 have q0:=Q0.out
 have q1:=Q1.out
 refine bodyPost_ret (v:=.agg #[.string tx1,.string ty1]) (by simp [results,Tryz.results15,go_sem,q0,q1]) rfl ⟨rfl,?_⟩
 exact (hbw.setCell (p:=⟨w.heap.size,0,none⟩) (by simp) _).setCell (p:=⟨w.heap.size,1,none⟩) (by simp) _
theorem rat_New (a b:ByteArray) (n d:Int) (ha:IsI a n) (hb:IsI b d) (hd:d≠0) (hsa:a.size≤1000) (hsb:b.size≤1000) (w:World) (hw:Good w) :
  Calls Tryz.prog 17 #[.string a,.string b] w (RV (.tuple #[.string (tx (Rat.divInt n d)),.int .i64 0]) w):=by
 have HS:=hid (fun w'=>integer_Sign b d hb w')
 have HL:=hid (fun w' (hg:Good w')=>rational_lowest a b n d ha hb hd (by omega) (by omega) w' hg)
 have HU:=hid (fun (r:ByteArray) (h:IsR r (Rat.divInt n d))=>show r=tx (Rat.divInt n d) from h.unique (isR_mk _))
 have hs:((sgn d:Int) == 0)=false:=by
  refine beq_false_of_ne fun h=>hd ?_
  rcases Int.lt_trichotomy d 0 with h1 | h1 | h1
  ·rw [sgn_neg h1] at h;simp at h
  ·exact h1
  ·rw [sgn_pos h1] at h;simp at h
 generalize tx (Rat.divInt n d)=t at *
 generalize sgn d=sd at *
 clear ha hb
 go_enter Tryz.func17,Tryz.ntmps17
 go_wp2_with fail
 refine (HS.out w).mono ?_
 rintro e w1 ⟨rfl,rfl⟩
 go_wp2_with fail
 refine (HL.out _ hw).mono ?_
 rintro e w2 ⟨r,rfl,hr,hb2⟩
 obtain rfl:=HU.out r hr
 clear hr
 go_wp2
 go_ret2
 exact ⟨rfl,hb2⟩
theorem isI_size {s:ByteArray} {n:Int} (h:IsI s n) (h1:n.natAbs<10 ^ 30):s.size≤402:=by
 have h2:OkB (n:Rat):=(okR2 (q:=(n:Rat)) (N:=n.natAbs) (D:=1) ⟨by simp,by simp⟩ (by omega) (by decide)).1
 have:=h2.sz
 unfold Sz at this
 rw [h.toR.unique (isR_mk (n:Rat))]
 exact this
theorem rat_Of (n d:Int) (hn0:-9223372036854775808≤n) (hn1:n≤9223372036854775807) (hd0:-9223372036854775808≤d) (hd1:d≤9223372036854775807) (hd:d≠0) (w:World) (hw:Good w) :
  Calls Tryz.prog 6 #[.int .i64 n,.int .i64 d] w (RV (.tuple #[.string (tx (Rat.divInt n d)),.int .i64 0]) w):=by
 have HX:=hid (fun w' (hg:Good w')=>integer_Of n hn0 hn1 w' hg)
 have HY:=hid (fun w' (hg:Good w')=>integer_Of d hd0 hd1 w' hg)
 have HN:=hid (fun (a b:ByteArray) (ha:IsI a n) (hb:IsI b d) w' (hg:Good w')=>rat_New a b n d ha hb hd (Nat.le_trans (isI_size ha (by omega)) (by decide)) (Nat.le_trans (isI_size hb (by omega)) (by decide)) w' hg)
 unfold RV at HN
 generalize tx (Rat.divInt n d)=t at *
 clear hn0 hn1 hd0 hd1 hd
 go_enter Tryz.func6,Tryz.ntmps6
 go_wp2_with fail
 refine (HX.out w hw).mono ?_
 rintro e w1 ⟨a,rfl,ha,hb1⟩
 have HA:=hid ha
 clear ha
 go_wp2_with fail
 refine (HY.out _ (hw.below hb1)).mono ?_
 rintro e w2 ⟨b,rfl,hb,hb2⟩
 have HB:=hid hb
 have hb02:=hb1.trans (hb2.mono hb1.size)
 clear hb
 go_wp2_with fail
 refine (HN.out a b HA.out HB.out _ (hw.below hb02)).mono ?_
 rintro e w3 ⟨rfl,hb3⟩
 go_wp2
 go_ret2
 exact ⟨rfl,hb02.trans (hb3.mono hb02.size)⟩
theorem rat_Abs (q:Rat) (w:World):Calls Tryz.prog 82 #[.string (tx q)] w (RV (.string (tx (absQ q))) w):=by
 obtain ⟨s,hs⟩ : ∃ s,s=tx q:=⟨_,rfl⟩
 have h:IsR s q:=by rw [hs];exact isR_mk q
 rw [←hs]
 have hp:=h.pos
 have hf:=h.first hp
 have H:=hid h
 have hp1:1≤s.size:=hp
 by_cases h1:q<0
 ·rw [decide_eq_true h1] at hf
  have HU:=hid (fun (r:ByteArray) (h:IsR r (-q))=>show r=tx (absQ q) by unfold absQ;rw [if_pos h1];exact h.unique (isR_mk (-q)))
  have H1:=hid h1
  clear h1 h hs
  generalize tx (absQ q)=t at *
  go_enter Tryz.func82,Tryz.ntmps82
  go_wp2
  go_ret
  have e:s.extract 1 s.size=t:=HU.out _ (by
   unfold IsR
   have h2:s.data.toList=45 :: rtext (-q):=H.out.trans (rtext_neg_tail H1.out)
   have h3:s.size=(rtext (-q)).length+1:=by rw [Lib.size_eq,h2];rfl
   rw [Lib.extract_data,h2,h3]
   simp)
  exact ⟨by rw [←e];rfl,Below.refl _ _⟩
 ·rw [decide_eq_false h1] at hf
  have HU:=hid (show s=tx (absQ q) by unfold absQ;rw [if_neg h1];exact hs)
  clear h1 h hs
  generalize tx (absQ q)=t at *
  go_enter Tryz.func82,Tryz.ntmps82
  go_wp2
  go_ret
  exact ⟨by rw [←HU.out];rfl,Below.refl _ _⟩
end Go.Proofs.YtogdahbbogimcaaGreatDoor
