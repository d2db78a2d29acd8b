import Derived.Test.YtglncfkoohgdaaaGreatDoorTxR
import Derived.Test.YtglncfkoohgdaaaGreatDoorHul1R
set_option maxRecDepth 100000
set_option maxHeartbeats 4000000
namespace Go.Proofs.YtglncfkoohgdaaaGreatDoor
open Go.RowKit Go.Shelf
open Go.Lib (decDigits itoa nDigits)
theorem ah4 (q:Rat):-1≤nJ q∧nJ q≤1:=by
 unfold nJ
 rcases dA q.num with ⟨a,b⟩ | ⟨a,b⟩ | ⟨a,b⟩ <;> omega
theorem Tw {q:Rat} (h:q<0):nJ q = -1:=wh (gJ.1 h)
theorem Qi {q:Rat} (h:q=0):nJ q=0:=wu (fM.1 h)
theorem Tx {q:Rat} (h:0<q):nJ q=1:=sK (by
 have a:=mt gJ.2 (show ¬ q<0 by grind)
 have b:=mt fM.2 (show ¬ q=0 by grind)
 omega)
theorem Ch (q:Rat):(q<0∧nJ q = -1)∨(q=0∧nJ q=0)∨(0<q∧nJ q=1):=by
 by_cases h:q<0
 ·exact .inl ⟨h,Tw h⟩
 ·by_cases h0:q=0
  ·exact .inr (.inl ⟨h0,Qi h0⟩)
  ·have:0<q:=by grind
   exact .inr (.inr ⟨this,Tx this⟩)
def aiE (a b x:Rat):Bool:=decide (nJ (x-a)*nJ (x-b)≤0)
theorem aiO {a b x:Rat}:aiE a b x=true↔ins a b x:=by
 unfold aiE ins
 rw [decide_eq_true_iff]
 rcases Ch (x-a) with ⟨h1,e1⟩ | ⟨h1,e1⟩ | ⟨h1,e1⟩ <;> rcases Ch (x-b) with ⟨h2,e2⟩ | ⟨h2,e2⟩ | ⟨h2,e2⟩ <;> rw [e1,e2]
 ·have:=Rat.mul_pos (show 0 < -(x-a) by grind) (show 0 < -(x-b) by grind)
  constructor
  ·intro h;omega
  ·intro h;grind
 ·rw [h2];simp
 ·have:=Rat.mul_pos (show 0 < -(x-a) by grind) h2
  constructor
  ·intro _;grind
  ·intro _;omega
 ·rw [h1];simp
 ·rw [h1];simp
 ·rw [h1];simp
 ·have:=Rat.mul_pos h1 (show 0 < -(x-b) by grind)
  constructor
  ·intro _;grind
  ·intro _;omega
 ·rw [h2];simp
 ·have:=Rat.mul_pos h1 h2
  constructor
  ·intro h;omega
  ·intro h;grind
theorem Ty {n:Nat} {a b c:QP} (ha:rf n a) (hb:rf n b) (hc:rf n c):Fc 32768 16 (eu a b c):=((hb.1.sub ha.1).mul (hc.2.sub ha.2)).sub ((hb.2.sub ha.2).mul (hc.1.sub ha.1))
open Go.Lib (hid)
theorem ab6 (q:Rat) (hq:Sz 9000000000 q) (w:World):Calls Tryz.prog 99 #[.string (tx q)] w (RV (.int .i64 (nJ q)) w):=
 (nK (tx q) q (bU q) (Sz.siz hq) w).mono fun _ _ ⟨he,hb⟩=>⟨he,hb ▸ Below.refl _ _⟩
theorem Og (a b c:QP) (ha:rf 1000000 a) (hb:rf 1000000 b) (hc:rf 1000000 c) (w:World) (hw:Good w) :
  Calls Tryz.prog 203 #[xm a,xm b,xm c] w (RV (.string (tx (eu a b c))) w):=by
 have S1:=hid (fun w' (hg:Good w')=>jX b.1 a.1 (hb.1.sm) (ha.1.sm) w' hg)
 have S2:=hid (fun w' (hg:Good w')=>jX b.2 a.2 (hb.2.sm) (ha.2.sm) w' hg)
 have S3:=hid (fun w' (hg:Good w')=>jX c.1 a.1 (hc.1.sm) (ha.1.sm) w' hg)
 have S4:=hid (fun w' (hg:Good w')=>jX c.2 a.2 (hc.2.sm) (ha.2.sm) w' hg)
 have M1:=hid (fun w' (hg:Good w')=>uA (b.1-a.1) (c.2-a.2) ((hb.1.sub ha.1).sm) ((hc.2.sub ha.2).sm) w' hg)
 have M2:=hid (fun w' (hg:Good w')=>uA (b.2-a.2) (c.1-a.1) ((hb.2.sub ha.2).sm) ((hc.1.sub ha.1).sm) w' hg)
 have S5:=hid (fun w' (hg:Good w')=>jX ((b.1-a.1)*(c.2-a.2)) ((b.2-a.2)*(c.1-a.1)) (((hb.1.sub ha.1).mul (hc.2.sub ha.2)).sm) (((hb.2.sub ha.2).mul (hc.1.sub ha.1)).sm) w' hg)
 unfold RV at S1 S2 S3 S4 M1 M2 S5
 clear ha hb hc
 unfold xm eu
 generalize tx ((b.1-a.1)*(c.2-a.2)-(b.2-a.2)*(c.1-a.1))=r at *
 generalize tx ((b.1-a.1)*(c.2-a.2))=m1 at *
 generalize tx ((b.2-a.2)*(c.1-a.1))=m2 at *
 generalize tx (b.1-a.1)=s1 at *
 generalize tx (c.2-a.2)=s2 at *
 generalize tx (b.2-a.2)=s3 at *
 generalize tx (c.1-a.1)=s4 at *
 generalize tx a.1=a1 at *
 generalize tx a.2=a2 at *
 generalize tx b.1=b1 at *
 generalize tx b.2=b2 at *
 generalize tx c.1=c1 at *
 generalize tx c.2=c2 at *
 go_enter Tryz.func203,Tryz.ntmps203
 go_wp2_with fail
 obtain ⟨wA,aS⟩ : ∃ wA,wA=(((w.alloc (Obj.cells #[.string a1,.string a2] 113)).alloc (Obj.cells #[.string b1,.string b2] 113)).alloc (Obj.cells #[.string c1,.string c2] 113)):=⟨_,rfl⟩
 obtain ⟨aP,x1,x2,x3⟩:=MF aS
 rw [←aS]
 clear aS
 have l1:=aa x1
 obtain ⟨c10,c11,_,_⟩:=aj x1
 have l2:=aa x2
 obtain ⟨c20,c21,_,_⟩:=aj x2
 have l3:=aa x3
 obtain ⟨c30,c31,_,_⟩:=aj x3
 clear x1 x2 x3
 refine aN (fun W'=>Below wA.heap.size wA W') [0,1,2,3,5,6,7,8] [4,9] 10 (by kernel_rfl) (by kernel_rfl) ⟨rfl,rfl,rfl,Nat.le_refl _,fun _ _=>rfl⟩ ?_
 iterate 8
  refine aL rfl ?_ rfl ?_ ?_
  rotate_left
  ·intro W' hS'
   have s0:=(hS'.cell (p:=⟨w.heap.size,0,none⟩) l1).trans c10
   have s1:=(hS'.cell (p:=⟨w.heap.size,1,none⟩) l1).trans c11
   have s2:=(hS'.cell (p:=⟨w.heap.size+1,0,none⟩) l2).trans c20
   have s3:=(hS'.cell (p:=⟨w.heap.size+1,1,none⟩) l2).trans c21
   have s4:=(hS'.cell (p:=⟨w.heap.size+1+1,0,none⟩) l3).trans c30
   have s5:=(hS'.cell (p:=⟨w.heap.size+1+1,1,none⟩) l3).trans c31
   go_simp
   try with_reducible rfl
  try simp only [zA,zB,zC,Act.put,zD,zE,zF]
 have Ci:Below wA.heap.size wA wA.drew:=⟨rfl,rfl,rfl,Nat.le_refl _,fun _ _=>rfl⟩
 refine aD rfl rfl (fun K hK=>?_)
 go_simp
 refine (S1.out _ (hw.below (aP.trans (Ci.mono aP.size)))).mono ?_
 rintro e v1 ⟨rfl,rC⟩
 have xu:=Ci.trans (rC.mono Ci.size)
 refine hK _ _ ⟨xu,?_⟩
 clear hK K
 try simp only [zA,zB,zC,Act.put,zD,zE,zF]
 refine aD rfl rfl (fun K hK=>?_)
 go_simp
 refine (S2.out _ (hw.below (aP.trans (xu.mono aP.size)))).mono ?_
 rintro e v2 ⟨rfl,tV⟩
 have iG:=xu.trans (tV.mono xu.size)
 refine hK _ _ ⟨iG,?_⟩
 clear hK K
 try simp only [zA,zB,zC,Act.put,zD,zE,zF]
 unfold bE
 simp only [List.drop_succ_cons,List.drop_zero]
 try simp only [zA,zB,zC,Act.put,zD,zE,zF]
 refine aB rfl (fun K hK=>?_)
 go_simp
 refine hK _ _ ⟨trivial,?_⟩
 clear hK K
 try simp only [zA,zB,zC,Act.put,zD,zE,zF]
 refine aB rfl (fun K hK=>?_)
 go_simp
 refine hK _ _ ⟨trivial,aQ ?_⟩
 clear hK K
 try simp only [zA,zB,zC,Act.put,zD,zE,zF]
 refine ag.mk ?_
 have tV:=aP.trans (iG.mono aP.size)
 have zU:=Nat.lt_of_lt_of_le l1 iG.size
 have Cj:=(iG.cell (p:=⟨w.heap.size,0,none⟩) l1).trans c10
 have Ck:=(iG.cell (p:=⟨w.heap.size,1,none⟩) l1).trans c11
 have zV:=Nat.lt_of_lt_of_le l2 iG.size
 have Cm:=(iG.cell (p:=⟨w.heap.size+1,0,none⟩) l2).trans c20
 have Cn:=(iG.cell (p:=⟨w.heap.size+1,1,none⟩) l2).trans c21
 have Co:=Nat.lt_of_lt_of_le l3 iG.size
 have GV:=(iG.cell (p:=⟨w.heap.size+1+1,0,none⟩) l3).trans c30
 have GX:=(iG.cell (p:=⟨w.heap.size+1+1,1,none⟩) l3).trans c31
 clear c10 c11 c20 c21 c30 c31 l1 l2 l3
 go_wp2_with fail
 refine aN (fun W'=>Below v2.heap.size v2 W') [0,1,2,3,5,6,7,8] [4,9] 10 (by kernel_rfl) (by kernel_rfl) ⟨rfl,rfl,rfl,Nat.le_refl _,fun _ _=>rfl⟩ ?_
 iterate 8
  refine aL rfl ?_ rfl ?_ ?_
  rotate_left
  ·intro W' hS'
   have s0:=(hS'.cell (p:=⟨w.heap.size,0,none⟩) zU).trans Cj
   have s1:=(hS'.cell (p:=⟨w.heap.size,1,none⟩) zU).trans Ck
   have s2:=(hS'.cell (p:=⟨w.heap.size+1,0,none⟩) zV).trans Cm
   have s3:=(hS'.cell (p:=⟨w.heap.size+1,1,none⟩) zV).trans Cn
   have s4:=(hS'.cell (p:=⟨w.heap.size+1+1,0,none⟩) Co).trans GV
   have s5:=(hS'.cell (p:=⟨w.heap.size+1+1,1,none⟩) Co).trans GX
   go_simp
   try with_reducible rfl
  try simp only [zA,zB,zC,Act.put,zD,zE,zF]
 have Tz:Below v2.heap.size v2 v2.drew:=⟨rfl,rfl,rfl,Nat.le_refl _,fun _ _=>rfl⟩
 refine aD rfl rfl (fun K hK=>?_)
 go_simp
 refine (S3.out _ (hw.below (tV.trans (Tz.mono tV.size)))).mono ?_
 rintro e v3 ⟨rfl,ab7⟩
 have Oh:=Tz.trans (ab7.mono Tz.size)
 refine hK _ _ ⟨Oh,?_⟩
 clear hK K
 try simp only [zA,zB,zC,Act.put,zD,zE,zF]
 refine aD rfl rfl (fun K hK=>?_)
 go_simp
 refine (S4.out _ (hw.below (tV.trans (Oh.mono tV.size)))).mono ?_
 rintro e v4 ⟨rfl,TA⟩
 have rD:=Oh.trans (TA.mono Oh.size)
 refine hK _ _ ⟨rD,?_⟩
 clear hK K
 try simp only [zA,zB,zC,Act.put,zD,zE,zF]
 unfold bE
 simp only [List.drop_succ_cons,List.drop_zero]
 try simp only [zA,zB,zC,Act.put,zD,zE,zF]
 refine aB rfl (fun K hK=>?_)
 go_simp
 refine hK _ _ ⟨trivial,?_⟩
 clear hK K
 try simp only [zA,zB,zC,Act.put,zD,zE,zF]
 refine aB rfl (fun K hK=>?_)
 go_simp
 refine hK _ _ ⟨trivial,aQ ?_⟩
 clear hK K
 try simp only [zA,zB,zC,Act.put,zD,zE,zF]
 refine ag.mk ?_
 have TA:=tV.trans (rD.mono tV.size)
 have Oi:=Nat.lt_of_lt_of_le zU rD.size
 have TB:=(rD.cell (p:=⟨w.heap.size,0,none⟩) zU).trans Cj
 have TC:=(rD.cell (p:=⟨w.heap.size,1,none⟩) zU).trans Ck
 have Oj:=Nat.lt_of_lt_of_le zV rD.size
 have TD:=(rD.cell (p:=⟨w.heap.size+1,0,none⟩) zV).trans Cm
 have TE:=(rD.cell (p:=⟨w.heap.size+1,1,none⟩) zV).trans Cn
 have Ol:=Nat.lt_of_lt_of_le Co rD.size
 have TF:=(rD.cell (p:=⟨w.heap.size+1+1,0,none⟩) Co).trans GV
 have TG:=(rD.cell (p:=⟨w.heap.size+1+1,1,none⟩) Co).trans GX
 clear Cj Ck Cm Cn GV GX zU zV Co
 go_wp2_with fail
 refine (M1.out _ (hw.below TA)).mono ?_
 rintro e v5 ⟨rfl,hv5⟩
 have ab8:=TA.trans (hv5.mono TA.size)
 have Om:=Nat.lt_of_lt_of_le Oi hv5.size
 have TH:=(hv5.cell (p:=⟨w.heap.size,0,none⟩) Oi).trans TB
 have TI:=(hv5.cell (p:=⟨w.heap.size,1,none⟩) Oi).trans TC
 have Oo:=Nat.lt_of_lt_of_le Oj hv5.size
 have TJ:=(hv5.cell (p:=⟨w.heap.size+1,0,none⟩) Oj).trans TD
 have TK:=(hv5.cell (p:=⟨w.heap.size+1,1,none⟩) Oj).trans TE
 have Oq:=Nat.lt_of_lt_of_le Ol hv5.size
 have TL:=(hv5.cell (p:=⟨w.heap.size+1+1,0,none⟩) Ol).trans TF
 have TM:=(hv5.cell (p:=⟨w.heap.size+1+1,1,none⟩) Ol).trans TG
 clear TB TC TD TE TF TG Oi Oj Ol
 go_wp2_with fail
 refine (M2.out _ (hw.below ab8)).mono ?_
 rintro e v6 ⟨rfl,hv6⟩
 have ab9:=ab8.trans (hv6.mono ab8.size)
 have Ot:=Nat.lt_of_lt_of_le Om hv6.size
 have TN:=(hv6.cell (p:=⟨w.heap.size,0,none⟩) Om).trans TH
 have TP:=(hv6.cell (p:=⟨w.heap.size,1,none⟩) Om).trans TI
 have Ou:=Nat.lt_of_lt_of_le Oo hv6.size
 have TQ:=(hv6.cell (p:=⟨w.heap.size+1,0,none⟩) Oo).trans TJ
 have TR:=(hv6.cell (p:=⟨w.heap.size+1,1,none⟩) Oo).trans TK
 have Ov:=Nat.lt_of_lt_of_le Oq hv6.size
 have TS:=(hv6.cell (p:=⟨w.heap.size+1+1,0,none⟩) Oq).trans TL
 have TT:=(hv6.cell (p:=⟨w.heap.size+1+1,1,none⟩) Oq).trans TM
 clear TH TI TJ TK TL TM Om Oo Oq
 go_wp2_with fail
 refine (S5.out _ (hw.below ab9)).mono ?_
 rintro e v7 ⟨rfl,hv7⟩
 have afU:=ab9.trans (hv7.mono ab9.size)
 have ag5:=Nat.lt_of_lt_of_le Ot hv7.size
 have afV:=(hv7.cell (p:=⟨w.heap.size,0,none⟩) Ot).trans TN
 have afW:=(hv7.cell (p:=⟨w.heap.size,1,none⟩) Ot).trans TP
 have ag6:=Nat.lt_of_lt_of_le Ou hv7.size
 have afX:=(hv7.cell (p:=⟨w.heap.size+1,0,none⟩) Ou).trans TQ
 have afY:=(hv7.cell (p:=⟨w.heap.size+1,1,none⟩) Ou).trans TR
 have ag7:=Nat.lt_of_lt_of_le Ov hv7.size
 have afZ:=(hv7.cell (p:=⟨w.heap.size+1+1,0,none⟩) Ov).trans TS
 have af0:=(hv7.cell (p:=⟨w.heap.size+1+1,1,none⟩) Ov).trans TT
 clear TN TP TQ TR TS TT Ot Ou Ov
 go_wp2
 go_ret
 exact ⟨rfl,afU⟩
theorem Ow (a b c:QP) (ha:rf 1000000 a) (hb:rf 1000000 b) (hc:rf 1000000 c) (w:World) (hw:Good w) :
  Calls Tryz.prog 185 #[xm a,xm b,xm c] w (RV (.int .i64 (nJ (eu a b c))) w):=by
 have A1:=hid (fun w' (hg:Good w')=>Og a b c ha hb hc w' hg)
 have G1:=hid (fun w'=>ab6 (eu a b c) ((Ty ha hb hc).sm) w')
 unfold RV at A1 G1
 clear ha hb hc
 unfold xm at *
 generalize tx (eu a b c)=r at *
 generalize nJ (eu a b c)=g at *
 generalize tx a.1=a1 at *
 generalize tx a.2=a2 at *
 generalize tx b.1=b1 at *
 generalize tx b.2=b2 at *
 generalize tx c.1=c1 at *
 generalize tx c.2=c2 at *
 go_enter Tryz.func185,Tryz.ntmps185
 go_upto_region 1 with fail
 obtain ⟨wA,aS⟩ : ∃ wA,wA=(((w.alloc (Obj.cells #[.string a1,.string a2] 113)).alloc (Obj.cells #[.string b1,.string b2] 113)).alloc (Obj.cells #[.string c1,.string c2] 113)):=⟨_,rfl⟩
 obtain ⟨aP,x1,x2,x3⟩:=MF aS
 rw [←aS]
 clear aS
 have l1:=aa x1
 obtain ⟨c10,c11,_,_⟩:=aj x1
 have l2:=aa x2
 obtain ⟨c20,c21,_,_⟩:=aj x2
 have l3:=aa x3
 obtain ⟨c30,c31,_,_⟩:=aj x3
 clear x1 x2 x3
 go_wp2_with fail
 refine (A1.out _ (hw.below aP)).mono ?_
 rintro e v1 ⟨rfl,hv1⟩
 have rC:=aP.trans (hv1.mono aP.size)
 have Ox:=Nat.lt_of_lt_of_le l1 hv1.size
 have TU:=(hv1.cell (p:=⟨w.heap.size,0,none⟩) l1).trans c10
 have TV:=(hv1.cell (p:=⟨w.heap.size,1,none⟩) l1).trans c11
 have Oy:=Nat.lt_of_lt_of_le l2 hv1.size
 have TW:=(hv1.cell (p:=⟨w.heap.size+1,0,none⟩) l2).trans c20
 have TY:=(hv1.cell (p:=⟨w.heap.size+1,1,none⟩) l2).trans c21
 have Oz:=Nat.lt_of_lt_of_le l3 hv1.size
 have TZ:=(hv1.cell (p:=⟨w.heap.size+1+1,0,none⟩) l3).trans c30
 have T9:=(hv1.cell (p:=⟨w.heap.size+1+1,1,none⟩) l3).trans c31
 clear c10 c11 c20 c21 c30 c31 l1 l2 l3
 go_wp2_with fail
 refine (G1.out _).mono ?_
 rintro e v2 ⟨rfl,hv2⟩
 have tV:=rC.trans (hv2.mono rC.size)
 have zU:=Nat.lt_of_lt_of_le Ox hv2.size
 have Cj:=(hv2.cell (p:=⟨w.heap.size,0,none⟩) Ox).trans TU
 have Ck:=(hv2.cell (p:=⟨w.heap.size,1,none⟩) Ox).trans TV
 have zV:=Nat.lt_of_lt_of_le Oy hv2.size
 have Cm:=(hv2.cell (p:=⟨w.heap.size+1,0,none⟩) Oy).trans TW
 have Cn:=(hv2.cell (p:=⟨w.heap.size+1,1,none⟩) Oy).trans TY
 have Co:=Nat.lt_of_lt_of_le Oz hv2.size
 have GV:=(hv2.cell (p:=⟨w.heap.size+1+1,0,none⟩) Oz).trans TZ
 have GX:=(hv2.cell (p:=⟨w.heap.size+1+1,1,none⟩) Oz).trans T9
 clear TU TV TW TY TZ T9 Ox Oy Oz
 go_wp2
 go_ret
 exact ⟨rfl,tV⟩
def J4 (p q:QP):Int:=if dx p.1 q.1=0 then dx p.2 q.2 else dx p.1 q.1
theorem oC {p q:QP}:J4 p q<0↔eB p q:=by
 unfold J4 eB
 by_cases h:dx p.1 q.1=0
 ·rw [if_pos h,jV]
  have:=sJ.1 h
  constructor
  ·intro h2;exact .inr ⟨this,h2⟩
  ·rintro (h2 | h2)
   ·exfalso;grind
   ·exact h2.2
 ·rw [if_neg h,jV]
  constructor
  ·exact .inl
  ·rintro (h2 | h2)
   ·exact h2
   ·exact absurd (sJ.2 h2.1) h
theorem GY (p q:QP) (hp:rf 1000000 p) (hq:rf 1000000 q) (w:World) (hw:Good w) :
  Calls Tryz.prog 115 #[xm p,xm q] w (RV (.int .i64 (J4 p q)) w):=by
 have H1:=hid (fun w' (hg:Good w')=>rq p.1 q.1 (hp.1.sm) (hq.1.sm) w' hg)
 have H2:=hid (fun w' (hg:Good w')=>rq p.2 q.2 (hp.2.sm) (hq.2.sm) w' hg)
 unfold RV at H1 H2
 clear hp hq
 unfold xm J4
 have gc:=oZ p.1 q.1
 generalize dx p.1 q.1=c1 at *
 generalize dx p.2 q.2=c2 at *
 generalize tx p.1=p1 at *
 generalize tx p.2=p2 at *
 generalize tx q.1=q1 at *
 generalize tx q.2=q2 at *
 by_cases hc:c1=0
 ·subst hc
  go_enter Tryz.func115,Tryz.ntmps115
  go_upto_region 1 with fail
  obtain ⟨wA,aS⟩ : ∃ wA,wA=(w.alloc (Obj.cells #[.string p1,.string p2] 113)).alloc (Obj.cells #[.string q1,.string q2] 113):=⟨_,rfl⟩
  obtain ⟨aP,x1,x2⟩:=ME aS
  rw [←aS]
  clear aS
  have l1:=aa x1
  have l2:=aa x2
  obtain ⟨a0,a1,_,_⟩:=aj x1
  obtain ⟨b0,b1,_,_⟩:=aj x2
  clear x1 x2
  go_wp2_with fail
  refine (H1.out _ (hw.below aP)).mono ?_
  rintro e v1 ⟨rfl,hv1⟩
  have hb1:=aP.trans (hv1.mono aP.size)
  have d0:=(hv1.cell (p:=⟨w.heap.size,1,none⟩) l1).trans a1
  have d1:=(hv1.cell (p:=⟨w.heap.size+1,1,none⟩) l2).trans b1
  clear a0 a1 b0 b1
  go_wp2_with fail
  refine (H2.out _ (hw.below hb1)).mono ?_
  rintro e v2 ⟨rfl,hv2⟩
  go_wp2
  go_ret
  exact ⟨rfl,hb1.trans (hv2.mono hb1.size)⟩
 ·rw [if_neg hc]
  have hc2:(c1 == 0)=false:=by simpa using hc
  have hc3:(c1 != 0)=true:=by simpa using hc
  clear hc
  go_enter Tryz.func115,Tryz.ntmps115
  go_upto_region 1 with fail
  obtain ⟨wA,aS⟩ : ∃ wA,wA=(w.alloc (Obj.cells #[.string p1,.string p2] 113)).alloc (Obj.cells #[.string q1,.string q2] 113):=⟨_,rfl⟩
  obtain ⟨aP,x1,x2⟩:=ME aS
  rw [←aS]
  clear aS
  have l1:=aa x1
  have l2:=aa x2
  obtain ⟨a0,a1,_,_⟩:=aj x1
  obtain ⟨b0,b1,_,_⟩:=aj x2
  clear x1 x2
  go_wp2_with fail
  refine (H1.out _ (hw.below aP)).mono ?_
  rintro e v1 ⟨rfl,hv1⟩
  have hb1:=aP.trans (hv1.mono aP.size)
  have d0:=(hv1.cell (p:=⟨w.heap.size,1,none⟩) l1).trans a1
  have d1:=(hv1.cell (p:=⟨w.heap.size+1,1,none⟩) l2).trans b1
  clear a0 a1 b0 b1
  go_wp2
  go_ret
  exact ⟨rfl,hb1⟩
end Go.Proofs.YtglncfkoohgdaaaGreatDoor
