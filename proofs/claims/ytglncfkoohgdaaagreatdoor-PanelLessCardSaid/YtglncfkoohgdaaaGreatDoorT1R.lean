import Derived.Test.YtglncfkoohgdaaaGreatDoorTxR
import Derived.Test.YtglncfkoohgdaaaGreatDoorHul1R
set_option maxRecDepth 100000
set_option maxHeartbeats 4000000
namespace Go.Proofs.YtglncfkoohgdaaaGreatDoor
open Go.RowKit Go.Shelf
open Go.Lib (decDigits itoa nDigits)
theorem Tn {q:Rat} (h:q<0):nJ q = -1:=vP (fI.1 h)
theorem Qj {q:Rat} (h:q=0):nJ q=0:=vQ (fO.1 h)
theorem Tp {q:Rat} (h:0<q):nJ q=1:=rW (by
 have a:=mt fI.2 (show ¬ q<0 by grind)
 have b:=mt fO.2 (show ¬ q=0 by grind)
 omega)
theorem Cb (q:Rat):(q<0∧nJ q = -1)∨(q=0∧nJ q=0)∨(0<q∧nJ q=1):=by
 by_cases h:q<0
 ·exact .inl ⟨h,Tn h⟩
 ·by_cases h0:q=0
  ·exact .inr (.inl ⟨h0,Qj h0⟩)
  ·have:0<q:=by grind
   exact .inr (.inr ⟨this,Tp this⟩)
theorem Tq {n:Nat} {a b c:QP} (ha:qg n a) (hb:qg n b) (hc:qg n c):Fc 32768 16 (dH a b c):=((hb.1.sub ha.1).mul (hc.2.sub ha.2)).sub ((hb.2.sub ha.2).mul (hc.1.sub ha.1))
open Go.Lib (hid)
theorem abG (q:Rat) (hq:Sz 9000000000 q) (w:World):Calls Tryz.prog 99 #[.string (tx q)] w (RV (.int .i64 (nJ q)) w):=
 (nK (tx q) q (bP q) (Sz.siz hq) w).mono fun _ _ ⟨he,hb⟩=>⟨he,hb ▸ Below.refl _ _⟩
theorem Oe (a b c:QP) (ha:qg 1000000 a) (hb:qg 1000000 b) (hc:qg 1000000 c) (w:World) (hw:Good w) :
  Calls Tryz.prog 203 #[wR a,wR b,wR c] w (RV (.string (tx (dH a b c))) w):=by
 have S1:=hid (fun w' (hg:Good w')=>jY b.1 a.1 (hb.1.sm) (ha.1.sm) w' hg)
 have S2:=hid (fun w' (hg:Good w')=>jY b.2 a.2 (hb.2.sm) (ha.2.sm) w' hg)
 have S3:=hid (fun w' (hg:Good w')=>jY c.1 a.1 (hc.1.sm) (ha.1.sm) w' hg)
 have S4:=hid (fun w' (hg:Good w')=>jY c.2 a.2 (hc.2.sm) (ha.2.sm) w' hg)
 have M1:=hid (fun w' (hg:Good w')=>uk (b.1-a.1) (c.2-a.2) ((hb.1.sub ha.1).sm) ((hc.2.sub ha.2).sm) w' hg)
 have M2:=hid (fun w' (hg:Good w')=>uk (b.2-a.2) (c.1-a.1) ((hb.2.sub ha.2).sm) ((hc.1.sub ha.1).sm) w' hg)
 have S5:=hid (fun w' (hg:Good w')=>jY ((b.1-a.1)*(c.2-a.2)) ((b.2-a.2)*(c.1-a.1)) (((hb.1.sub ha.1).mul (hc.2.sub ha.2)).sm) (((hb.2.sub ha.2).mul (hc.1.sub ha.1)).sm) w' hg)
 unfold RV at S1 S2 S3 S4 M1 M2 S5
 clear ha hb hc
 unfold wR dH
 generalize tx ((b.1-a.1)*(c.2-a.2)-(b.2-a.2)*(c.1-a.1))=r at *
 generalize tx ((b.1-a.1)*(c.2-a.2))=m1 at *
 generalize tx ((b.2-a.2)*(c.1-a.1))=m2 at *
 generalize tx (b.1-a.1)=s1 at *
 generalize tx (c.2-a.2)=s2 at *
 generalize tx (b.2-a.2)=s3 at *
 generalize tx (c.1-a.1)=s4 at *
 generalize tx a.1=a1 at *
 generalize tx a.2=a2 at *
 generalize tx b.1=b1 at *
 generalize tx b.2=b2 at *
 generalize tx c.1=c1 at *
 generalize tx c.2=c2 at *
 go_enter Tryz.func203,Tryz.ntmps203
 go_wp2_with fail
 obtain ⟨wA,aX⟩ : ∃ wA,wA=(((w.alloc (Obj.cells #[.string a1,.string a2] 113)).alloc (Obj.cells #[.string b1,.string b2] 113)).alloc (Obj.cells #[.string c1,.string c2] 113)):=⟨_,rfl⟩
 obtain ⟨aS,x1,x2,x3⟩:=MB aX
 rw [←aX]
 clear aX
 have l1:=aa x1
 obtain ⟨c10,c11,_,_⟩:=aj x1
 have l2:=aa x2
 obtain ⟨c20,c21,_,_⟩:=aj x2
 have l3:=aa x3
 obtain ⟨c30,c31,_,_⟩:=aj x3
 clear x1 x2 x3
 refine aL (fun W'=>Below wA.heap.size wA W') [0,1,2,3,5,6,7,8] [4,9] 10 (by kernel_rfl) (by kernel_rfl) ⟨rfl,rfl,rfl,Nat.le_refl _,fun _ _=>rfl⟩ ?_
 iterate 8
  refine aG rfl ?_ rfl ?_ ?_
  rotate_left
  ·intro W' hS'
   have s0:=(hS'.cell (p:=⟨w.heap.size,0,none⟩) l1).trans c10
   have s1:=(hS'.cell (p:=⟨w.heap.size,1,none⟩) l1).trans c11
   have s2:=(hS'.cell (p:=⟨w.heap.size+1,0,none⟩) l2).trans c20
   have s3:=(hS'.cell (p:=⟨w.heap.size+1,1,none⟩) l2).trans c21
   have s4:=(hS'.cell (p:=⟨w.heap.size+1+1,0,none⟩) l3).trans c30
   have s5:=(hS'.cell (p:=⟨w.heap.size+1+1,1,none⟩) l3).trans c31
   go_simp
   try with_reducible rfl
  try simp only [zA,zB,zC,Act.put,zD,zE,zF]
 have Cc:Below wA.heap.size wA wA.drew:=⟨rfl,rfl,rfl,Nat.le_refl _,fun _ _=>rfl⟩
 refine aB rfl rfl (fun K hK=>?_)
 go_simp
 refine (S1.out _ (hw.below (aS.trans (Cc.mono aS.size)))).mono ?_
 rintro e v1 ⟨rfl,qW⟩
 have wV:=Cc.trans (qW.mono Cc.size)
 refine hK _ _ ⟨wV,?_⟩
 clear hK K
 try simp only [zA,zB,zC,Act.put,zD,zE,zF]
 refine aB rfl rfl (fun K hK=>?_)
 go_simp
 refine (S2.out _ (hw.below (aS.trans (wV.mono aS.size)))).mono ?_
 rintro e v2 ⟨rfl,sZ⟩
 have iF:=wV.trans (sZ.mono wV.size)
 refine hK _ _ ⟨iF,?_⟩
 clear hK K
 try simp only [zA,zB,zC,Act.put,zD,zE,zF]
 unfold bz
 simp only [List.drop_succ_cons,List.drop_zero]
 try simp only [zA,zB,zC,Act.put,zD,zE,zF]
 refine az rfl (fun K hK=>?_)
 go_simp
 refine hK _ _ ⟨trivial,?_⟩
 clear hK K
 try simp only [zA,zB,zC,Act.put,zD,zE,zF]
 refine az rfl (fun K hK=>?_)
 go_simp
 refine hK _ _ ⟨trivial,aO ?_⟩
 clear hK K
 try simp only [zA,zB,zC,Act.put,zD,zE,zF]
 refine ag.mk ?_
 have sZ:=aS.trans (iF.mono aS.size)
 have zJ:=Nat.lt_of_lt_of_le l1 iF.size
 have Ce:=(iF.cell (p:=⟨w.heap.size,0,none⟩) l1).trans c10
 have Cf:=(iF.cell (p:=⟨w.heap.size,1,none⟩) l1).trans c11
 have zK:=Nat.lt_of_lt_of_le l2 iF.size
 have Cg:=(iF.cell (p:=⟨w.heap.size+1,0,none⟩) l2).trans c20
 have Ch:=(iF.cell (p:=⟨w.heap.size+1,1,none⟩) l2).trans c21
 have Ci:=Nat.lt_of_lt_of_le l3 iF.size
 have GI:=(iF.cell (p:=⟨w.heap.size+1+1,0,none⟩) l3).trans c30
 have GJ:=(iF.cell (p:=⟨w.heap.size+1+1,1,none⟩) l3).trans c31
 clear c10 c11 c20 c21 c30 c31 l1 l2 l3
 go_wp2_with fail
 refine aL (fun W'=>Below v2.heap.size v2 W') [0,1,2,3,5,6,7,8] [4,9] 10 (by kernel_rfl) (by kernel_rfl) ⟨rfl,rfl,rfl,Nat.le_refl _,fun _ _=>rfl⟩ ?_
 iterate 8
  refine aG rfl ?_ rfl ?_ ?_
  rotate_left
  ·intro W' hS'
   have s0:=(hS'.cell (p:=⟨w.heap.size,0,none⟩) zJ).trans Ce
   have s1:=(hS'.cell (p:=⟨w.heap.size,1,none⟩) zJ).trans Cf
   have s2:=(hS'.cell (p:=⟨w.heap.size+1,0,none⟩) zK).trans Cg
   have s3:=(hS'.cell (p:=⟨w.heap.size+1,1,none⟩) zK).trans Ch
   have s4:=(hS'.cell (p:=⟨w.heap.size+1+1,0,none⟩) Ci).trans GI
   have s5:=(hS'.cell (p:=⟨w.heap.size+1+1,1,none⟩) Ci).trans GJ
   go_simp
   try with_reducible rfl
  try simp only [zA,zB,zC,Act.put,zD,zE,zF]
 have Tt:Below v2.heap.size v2 v2.drew:=⟨rfl,rfl,rfl,Nat.le_refl _,fun _ _=>rfl⟩
 refine aB rfl rfl (fun K hK=>?_)
 go_simp
 refine (S3.out _ (hw.below (sZ.trans (Tt.mono sZ.size)))).mono ?_
 rintro e v3 ⟨rfl,abH⟩
 have Og:=Tt.trans (abH.mono Tt.size)
 refine hK _ _ ⟨Og,?_⟩
 clear hK K
 try simp only [zA,zB,zC,Act.put,zD,zE,zF]
 refine aB rfl rfl (fun K hK=>?_)
 go_simp
 refine (S4.out _ (hw.below (sZ.trans (Og.mono sZ.size)))).mono ?_
 rintro e v4 ⟨rfl,Tu⟩
 have qX:=Og.trans (Tu.mono Og.size)
 refine hK _ _ ⟨qX,?_⟩
 clear hK K
 try simp only [zA,zB,zC,Act.put,zD,zE,zF]
 unfold bz
 simp only [List.drop_succ_cons,List.drop_zero]
 try simp only [zA,zB,zC,Act.put,zD,zE,zF]
 refine az rfl (fun K hK=>?_)
 go_simp
 refine hK _ _ ⟨trivial,?_⟩
 clear hK K
 try simp only [zA,zB,zC,Act.put,zD,zE,zF]
 refine az rfl (fun K hK=>?_)
 go_simp
 refine hK _ _ ⟨trivial,aO ?_⟩
 clear hK K
 try simp only [zA,zB,zC,Act.put,zD,zE,zF]
 refine ag.mk ?_
 have Tu:=sZ.trans (qX.mono sZ.size)
 have Oh:=Nat.lt_of_lt_of_le zJ qX.size
 have Tv:=(qX.cell (p:=⟨w.heap.size,0,none⟩) zJ).trans Ce
 have Tw:=(qX.cell (p:=⟨w.heap.size,1,none⟩) zJ).trans Cf
 have Oi:=Nat.lt_of_lt_of_le zK qX.size
 have Tx:=(qX.cell (p:=⟨w.heap.size+1,0,none⟩) zK).trans Cg
 have Ty:=(qX.cell (p:=⟨w.heap.size+1,1,none⟩) zK).trans Ch
 have Oj:=Nat.lt_of_lt_of_le Ci qX.size
 have Tz:=(qX.cell (p:=⟨w.heap.size+1+1,0,none⟩) Ci).trans GI
 have TA:=(qX.cell (p:=⟨w.heap.size+1+1,1,none⟩) Ci).trans GJ
 clear Ce Cf Cg Ch GI GJ zJ zK Ci
 go_wp2_with fail
 refine (M1.out _ (hw.below Tu)).mono ?_
 rintro e v5 ⟨rfl,hv5⟩
 have abI:=Tu.trans (hv5.mono Tu.size)
 have Ol:=Nat.lt_of_lt_of_le Oh hv5.size
 have TB:=(hv5.cell (p:=⟨w.heap.size,0,none⟩) Oh).trans Tv
 have TC:=(hv5.cell (p:=⟨w.heap.size,1,none⟩) Oh).trans Tw
 have Om:=Nat.lt_of_lt_of_le Oi hv5.size
 have TD:=(hv5.cell (p:=⟨w.heap.size+1,0,none⟩) Oi).trans Tx
 have TE:=(hv5.cell (p:=⟨w.heap.size+1,1,none⟩) Oi).trans Ty
 have Oo:=Nat.lt_of_lt_of_le Oj hv5.size
 have TF:=(hv5.cell (p:=⟨w.heap.size+1+1,0,none⟩) Oj).trans Tz
 have TG:=(hv5.cell (p:=⟨w.heap.size+1+1,1,none⟩) Oj).trans TA
 clear Tv Tw Tx Ty Tz TA Oh Oi Oj
 go_wp2_with fail
 refine (M2.out _ (hw.below abI)).mono ?_
 rintro e v6 ⟨rfl,hv6⟩
 have abJ:=abI.trans (hv6.mono abI.size)
 have Oq:=Nat.lt_of_lt_of_le Ol hv6.size
 have TH:=(hv6.cell (p:=⟨w.heap.size,0,none⟩) Ol).trans TB
 have TI:=(hv6.cell (p:=⟨w.heap.size,1,none⟩) Ol).trans TC
 have Ot:=Nat.lt_of_lt_of_le Om hv6.size
 have TJ:=(hv6.cell (p:=⟨w.heap.size+1,0,none⟩) Om).trans TD
 have TK:=(hv6.cell (p:=⟨w.heap.size+1,1,none⟩) Om).trans TE
 have Ou:=Nat.lt_of_lt_of_le Oo hv6.size
 have TL:=(hv6.cell (p:=⟨w.heap.size+1+1,0,none⟩) Oo).trans TF
 have TM:=(hv6.cell (p:=⟨w.heap.size+1+1,1,none⟩) Oo).trans TG
 clear TB TC TD TE TF TG Ol Om Oo
 go_wp2_with fail
 refine (S5.out _ (hw.below abJ)).mono ?_
 rintro e v7 ⟨rfl,hv7⟩
 have afz:=abJ.trans (hv7.mono abJ.size)
 have agH:=Nat.lt_of_lt_of_le Oq hv7.size
 have afA:=(hv7.cell (p:=⟨w.heap.size,0,none⟩) Oq).trans TH
 have afB:=(hv7.cell (p:=⟨w.heap.size,1,none⟩) Oq).trans TI
 have agI:=Nat.lt_of_lt_of_le Ot hv7.size
 have afC:=(hv7.cell (p:=⟨w.heap.size+1,0,none⟩) Ot).trans TJ
 have afD:=(hv7.cell (p:=⟨w.heap.size+1,1,none⟩) Ot).trans TK
 have agJ:=Nat.lt_of_lt_of_le Ou hv7.size
 have afE:=(hv7.cell (p:=⟨w.heap.size+1+1,0,none⟩) Ou).trans TL
 have afF:=(hv7.cell (p:=⟨w.heap.size+1+1,1,none⟩) Ou).trans TM
 clear TH TI TJ TK TL TM Oq Ot Ou
 go_wp2
 go_ret
 exact ⟨rfl,afz⟩
theorem Ov (a b c:QP) (ha:qg 1000000 a) (hb:qg 1000000 b) (hc:qg 1000000 c) (w:World) (hw:Good w) :
  Calls Tryz.prog 185 #[wR a,wR b,wR c] w (RV (.int .i64 (nJ (dH a b c))) w):=by
 have A1:=hid (fun w' (hg:Good w')=>Oe a b c ha hb hc w' hg)
 have G1:=hid (fun w'=>abG (dH a b c) ((Tq ha hb hc).sm) w')
 unfold RV at A1 G1
 clear ha hb hc
 unfold wR at *
 generalize tx (dH a b c)=r at *
 generalize nJ (dH a b c)=g at *
 generalize tx a.1=a1 at *
 generalize tx a.2=a2 at *
 generalize tx b.1=b1 at *
 generalize tx b.2=b2 at *
 generalize tx c.1=c1 at *
 generalize tx c.2=c2 at *
 go_enter Tryz.func185,Tryz.ntmps185
 go_upto_region 1 with fail
 obtain ⟨wA,aX⟩ : ∃ wA,wA=(((w.alloc (Obj.cells #[.string a1,.string a2] 113)).alloc (Obj.cells #[.string b1,.string b2] 113)).alloc (Obj.cells #[.string c1,.string c2] 113)):=⟨_,rfl⟩
 obtain ⟨aS,x1,x2,x3⟩:=MB aX
 rw [←aX]
 clear aX
 have l1:=aa x1
 obtain ⟨c10,c11,_,_⟩:=aj x1
 have l2:=aa x2
 obtain ⟨c20,c21,_,_⟩:=aj x2
 have l3:=aa x3
 obtain ⟨c30,c31,_,_⟩:=aj x3
 clear x1 x2 x3
 go_wp2_with fail
 refine (A1.out _ (hw.below aS)).mono ?_
 rintro e v1 ⟨rfl,hv1⟩
 have qW:=aS.trans (hv1.mono aS.size)
 have Ow:=Nat.lt_of_lt_of_le l1 hv1.size
 have TN:=(hv1.cell (p:=⟨w.heap.size,0,none⟩) l1).trans c10
 have TP:=(hv1.cell (p:=⟨w.heap.size,1,none⟩) l1).trans c11
 have Ox:=Nat.lt_of_lt_of_le l2 hv1.size
 have TQ:=(hv1.cell (p:=⟨w.heap.size+1,0,none⟩) l2).trans c20
 have TR:=(hv1.cell (p:=⟨w.heap.size+1,1,none⟩) l2).trans c21
 have Oy:=Nat.lt_of_lt_of_le l3 hv1.size
 have TS:=(hv1.cell (p:=⟨w.heap.size+1+1,0,none⟩) l3).trans c30
 have TT:=(hv1.cell (p:=⟨w.heap.size+1+1,1,none⟩) l3).trans c31
 clear c10 c11 c20 c21 c30 c31 l1 l2 l3
 go_wp2_with fail
 refine (G1.out _).mono ?_
 rintro e v2 ⟨rfl,hv2⟩
 have sZ:=qW.trans (hv2.mono qW.size)
 have zJ:=Nat.lt_of_lt_of_le Ow hv2.size
 have Ce:=(hv2.cell (p:=⟨w.heap.size,0,none⟩) Ow).trans TN
 have Cf:=(hv2.cell (p:=⟨w.heap.size,1,none⟩) Ow).trans TP
 have zK:=Nat.lt_of_lt_of_le Ox hv2.size
 have Cg:=(hv2.cell (p:=⟨w.heap.size+1,0,none⟩) Ox).trans TQ
 have Ch:=(hv2.cell (p:=⟨w.heap.size+1,1,none⟩) Ox).trans TR
 have Ci:=Nat.lt_of_lt_of_le Oy hv2.size
 have GI:=(hv2.cell (p:=⟨w.heap.size+1+1,0,none⟩) Oy).trans TS
 have GJ:=(hv2.cell (p:=⟨w.heap.size+1+1,1,none⟩) Oy).trans TT
 clear TN TP TQ TR TS TT Ow Ox Oy
 go_wp2
 go_ret
 exact ⟨rfl,sZ⟩
def JP (p q:QP):Int:=if dn p.1 q.1=0 then dn p.2 q.2 else dn p.1 q.1
theorem oq {p q:QP}:JP p q<0↔dZ p q:=by
 unfold JP dZ
 by_cases h:dn p.1 q.1=0
 ·rw [if_pos h,jW]
  have:=rV.1 h
  constructor
  ·intro h2;exact .inr ⟨this,h2⟩
  ·rintro (h2 | h2)
   ·exfalso;grind
   ·exact h2.2
 ·rw [if_neg h,jW]
  constructor
  ·exact .inl
  ·rintro (h2 | h2)
   ·exact h2
   ·exact absurd (rV.2 h2.1) h
theorem GK (p q:QP) (hp:qg 1000000 p) (hq:qg 1000000 q) (w:World) (hw:Good w) :
  Calls Tryz.prog 115 #[wR p,wR q] w (RV (.int .i64 (JP p q)) w):=by
 have H1:=hid (fun w' (hg:Good w')=>qQ p.1 q.1 (hp.1.sm) (hq.1.sm) w' hg)
 have H2:=hid (fun w' (hg:Good w')=>qQ p.2 q.2 (hp.2.sm) (hq.2.sm) w' hg)
 unfold RV at H1 H2
 clear hp hq
 unfold wR JP
 have gc:=oW p.1 q.1
 generalize dn p.1 q.1=c1 at *
 generalize dn p.2 q.2=c2 at *
 generalize tx p.1=p1 at *
 generalize tx p.2=p2 at *
 generalize tx q.1=q1 at *
 generalize tx q.2=q2 at *
 by_cases hc:c1=0
 ·subst hc
  go_enter Tryz.func115,Tryz.ntmps115
  go_upto_region 1 with fail
  obtain ⟨wA,aX⟩ : ∃ wA,wA=(w.alloc (Obj.cells #[.string p1,.string p2] 113)).alloc (Obj.cells #[.string q1,.string q2] 113):=⟨_,rfl⟩
  obtain ⟨aS,x1,x2⟩:=Mx aX
  rw [←aX]
  clear aX
  have l1:=aa x1
  have l2:=aa x2
  obtain ⟨a0,a1,_,_⟩:=aj x1
  obtain ⟨b0,b1,_,_⟩:=aj x2
  clear x1 x2
  go_wp2_with fail
  refine (H1.out _ (hw.below aS)).mono ?_
  rintro e v1 ⟨rfl,hv1⟩
  have hb1:=aS.trans (hv1.mono aS.size)
  have d0:=(hv1.cell (p:=⟨w.heap.size,1,none⟩) l1).trans a1
  have d1:=(hv1.cell (p:=⟨w.heap.size+1,1,none⟩) l2).trans b1
  clear a0 a1 b0 b1
  go_wp2_with fail
  refine (H2.out _ (hw.below hb1)).mono ?_
  rintro e v2 ⟨rfl,hv2⟩
  go_wp2
  go_ret
  exact ⟨rfl,hb1.trans (hv2.mono hb1.size)⟩
 ·rw [if_neg hc]
  have hc2:(c1 == 0)=false:=by simpa using hc
  have hc3:(c1 != 0)=true:=by simpa using hc
  clear hc
  go_enter Tryz.func115,Tryz.ntmps115
  go_upto_region 1 with fail
  obtain ⟨wA,aX⟩ : ∃ wA,wA=(w.alloc (Obj.cells #[.string p1,.string p2] 113)).alloc (Obj.cells #[.string q1,.string q2] 113):=⟨_,rfl⟩
  obtain ⟨aS,x1,x2⟩:=Mx aX
  rw [←aX]
  clear aX
  have l1:=aa x1
  have l2:=aa x2
  obtain ⟨a0,a1,_,_⟩:=aj x1
  obtain ⟨b0,b1,_,_⟩:=aj x2
  clear x1 x2
  go_wp2_with fail
  refine (H1.out _ (hw.below aS)).mono ?_
  rintro e v1 ⟨rfl,hv1⟩
  have hb1:=aS.trans (hv1.mono aS.size)
  have d0:=(hv1.cell (p:=⟨w.heap.size,1,none⟩) l1).trans a1
  have d1:=(hv1.cell (p:=⟨w.heap.size+1,1,none⟩) l2).trans b1
  clear a0 a1 b0 b1
  go_wp2
  go_ret
  exact ⟨rfl,hb1⟩
end Go.Proofs.YtglncfkoohgdaaaGreatDoor
