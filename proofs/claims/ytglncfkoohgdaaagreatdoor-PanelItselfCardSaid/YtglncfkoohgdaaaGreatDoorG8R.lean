import Derived.Test.YtglncfkoohgdaaaGreatDoorG6R
import Derived.Test.YtglncfkoohgdaaaGreatDoorTxR
import Derived.Test.YtglncfkoohgdaaaGreatDoorT13R
import Derived.Test.YtglncfkoohgdaaaGreatDoorStillR
import Derived.Laws.EntriesVeiled
set_option maxRecDepth 100000
set_option maxHeartbeats 4000000
namespace Go.Proofs.YtglncfkoohgdaaaGreatDoor
open Go.RowKit Go.Shelf
open Go.Lib (decDigits itoa nDigits)
open Go.Lib (hid)
theorem U4 (q:Rat × Rat):xm q=.agg #[.string (tx q.1),.string (tx q.2)]:=rfl
theorem De {w:World} (vg va vt:Value) (P:bQ) (k:Nat) (d:Rat) (Bp Bk:Nat) (hk:k<P.lg.length) (hO:dm P) (hP:l9 w vg va vt P) (hbp:w.heap[Bp]?=some (UI vg va vt P.cs)) (hbk:w.heap[Bk]?=some (dO k)) (hd:Sz 1000 d) (hw:Good w) :
  Calls Tryz.prog 102 #[.string (tx d),.pointer (some ⟨Bp,0,none⟩),.pointer (some ⟨Bk,0,none⟩)] w (RV (xm (aG P k d)) w):=by
 have HS:=hid (fun w' (hg:Good w')=>jX (bG P k) d ((kK ((hO.tp k hk).ok (by decide))).mono (by decide)) (hd.mono (by decide)) w' hg)
 obtain ⟨ba,oa,ca,rfl,ET,ma,la,hac⟩:=jL hP.a (by rw [hO.nx];have:=hO.n2;omega)
 obtain ⟨bt,ot,ct,rfl,hct,mf,lt,htc⟩:=jL hP.t (by rw [hO.nt];have:=hO.n2;omega)
 have c0:w.cell? ⟨ba,oa+k,none⟩=some (.string (tx (cZ P k))):=hac k (by rw [hO.nx];exact hk)
 have c1:w.cell? ⟨bt,ot+k,none⟩=some (.string (tx (bG P k))):=htc k (by rw [hO.nt];exact hk)
 have xE:=hO.n20
 rw [hO.nx] at hbp ET
 rw [hO.nt] at hbp hct
 obtain ⟨pg,cg,rfl,hcg,jK⟩:=hP.g.slice
 unfold maxLen at ma mf jK
 have lp:=aa hbp
 have lk:=aa hbk
 obtain ⟨p0,p1,p2,p3,p4,p5,p6⟩:=au hbp
 have z0:=bL hbk
 rw [U4]
 unfold aG
 generalize tx (bG P k-d)=r at *
 generalize tx (cZ P k)=xa at *
 generalize tx (bG P k)=xt at *
 generalize tx d=td at *
 generalize P.lg.length=n at *
 have i1:(0:Int)≤(k:Int):=by omega
 have i2:(k:Int)<(n:Int):=by omega
 unfold RV at *
 clear hO hP hbp hbk hac htc p0 p3 p4 p5 p6 hd hk
 go_enter Tryz.func102,Tryz.ntmps102
 go_wp2_with fail
 obtain ⟨wA,aS⟩ : ∃ wA,wA=w.alloc (Obj.cells #[.string ⟨#[]⟩,.string ⟨#[]⟩] 113):=⟨_,rfl⟩
 have aP:Below w.heap.size w wA:=by rw [aS];exact ae _ _
 have vN:wA.heap[w.heap.size]?=some (Obj.cells #[.string ⟨#[]⟩,.string ⟨#[]⟩] 113 (0,0)):=by rw [aS];exact World.alloc_heap_new _ _
 rw [←aS]
 clear aS
 have p1:=(aP.cell (p:=⟨Bp,1,none⟩) lp).trans p1
 have p2:=(aP.cell (p:=⟨Bp,2,none⟩) lp).trans p2
 have z0:=(aP.cell (p:=⟨Bk,0,none⟩) lk).trans z0
 have c0:=(aP.cell (p:=⟨ba,oa+k,none⟩) la).trans c0
 have c1:=(aP.cell (p:=⟨bt,ot+k,none⟩) lt).trans c1
 have lp:=Nat.lt_of_lt_of_le lp aP.size
 have lk:=Nat.lt_of_lt_of_le lk aP.size
 have la:=Nat.lt_of_lt_of_le la aP.size
 have lt:=Nat.lt_of_lt_of_le lt aP.size
 have yN:=hid vN
 have eF:=hid aP
 clear vN aP
 refine aN (fun W'=>Below wA.heap.size wA W') [0,1,2,3,4,5,6,7,8,9,10] [11] 12 (by kernel_rfl) (by kernel_rfl) ⟨rfl,rfl,rfl,Nat.le_refl _,fun _ _=>rfl⟩ ?_
 iterate 11
  refine aL rfl ?_ rfl ?_ ?_
  rotate_left
  ·intro W' hS'
   have s0:=(hS'.cell (p:=⟨Bp,1,none⟩) lp).trans p1
   have s1:=(hS'.cell (p:=⟨Bp,2,none⟩) lp).trans p2
   have s2:=(hS'.cell (p:=⟨Bk,0,none⟩) lk).trans z0
   have s3:=(hS'.cell (p:=⟨ba,oa+k,none⟩) la).trans c0
   have s4:=(hS'.cell (p:=⟨bt,ot+k,none⟩) lt).trans c1
   go_simp
   try with_reducible rfl
  try simp only [zA,zB,zC,Act.put,zD,zE,zF]
 have hH0:Below wA.heap.size wA wA.drew:=⟨rfl,rfl,rfl,Nat.le_refl _,fun _ _=>rfl⟩
 refine aD rfl rfl (fun K hK=>?_)
 go_simp
 refine (HS.out _ (hw.below (eF.out.trans (hH0.mono eF.out.size)))).mono ?_
 rintro e v1 ⟨rfl,rC⟩
 have hH1:=hH0.trans (rC.mono hH0.size)
 refine hK _ _ ⟨hH1,?_⟩
 clear hK K
 try simp only [zA,zB,zC,Act.put,zD,zE,zF]
 unfold bE
 simp only [List.drop_succ_cons,List.drop_zero]
 try simp only [zA,zB,zC,Act.put,zD,zE,zF]
 have hrv:=(hH1.block _ (aa yN.out)).trans yN.out
 have HBV:=hid (eF.out.trans (hH1.mono eF.out.size))
 obtain ⟨_,_,_,_⟩:=aj hrv
 have HZ:=hid (aV (.string r) (aU (.string xa) hrv))
 clear p1 p2 z0 c0 c1 hH0 hH1 rC hrv
 refine aB rfl (fun K hK=>?_)
 go_simp
 refine hK _ _ ⟨trivial,?_⟩
 clear hK K
 try simp only [zA,zB,zC,Act.put,zD,zE,zF]
 refine aB rfl (fun K hK=>?_)
 go_simp
 refine hK _ _ ⟨trivial,aQ ?_⟩
 clear hK K
 refine ag.mk ?_
 go_wp2
 obtain ⟨q0,q1,_,_⟩:=aj HZ.out
 refine bodyPost_ret (v:=.agg #[.string xa,.string r]) (by simp [results,Tryz.results102,go_sem,q0,q1]) rfl ⟨rfl,?_⟩
 exact (HBV.out.setCell (p:=⟨w.heap.size,0,none⟩) (Nat.le_refl _) _).setCell (p:=⟨w.heap.size,1,none⟩) (Nat.le_refl _) _
theorem Df {w:World} (vg va vt:Value) (P:bQ) (k:Nat) (d:Rat) (Bp Bk:Nat) (hk:k+1<P.lg.length) (hO:dm P) (hP:l9 w vg va vt P) (hbp:w.heap[Bp]?=some (UI vg va vt P.cs)) (hbk:w.heap[Bk]?=some (dO k)) (hd:Sz 1000 d) (hw:Good w) :
  Calls Tryz.prog 103 #[.string (tx d),.pointer (some ⟨Bp,0,none⟩),.pointer (some ⟨Bk,0,none⟩)] w (RV (xm (aG P (k+1) d)) w):=by
 have HS:=hid (fun w' (hg:Good w')=>jX (bG P (k+1)) d ((kK ((hO.tp (k+1) hk).ok (by decide))).mono (by decide)) (hd.mono (by decide)) w' hg)
 obtain ⟨ba,oa,ca,rfl,ET,ma,la,hac⟩:=jL hP.a (by rw [hO.nx];have:=hO.n2;omega)
 obtain ⟨bt,ot,ct,rfl,hct,mf,lt,htc⟩:=jL hP.t (by rw [hO.nt];have:=hO.n2;omega)
 have c0:w.cell? ⟨ba,oa+(k+1),none⟩=some (.string (tx (cZ P (k+1)))):=hac (k+1) (by rw [hO.nx];exact hk)
 have c1:w.cell? ⟨bt,ot+(k+1),none⟩=some (.string (tx (bG P (k+1)))):=htc (k+1) (by rw [hO.nt];exact hk)
 have xE:=hO.n20
 rw [hO.nx] at hbp ET
 rw [hO.nt] at hbp hct
 obtain ⟨pg,cg,rfl,hcg,jK⟩:=hP.g.slice
 unfold maxLen at ma mf jK
 have lp:=aa hbp
 have lk:=aa hbk
 obtain ⟨p0,p1,p2,p3,p4,p5,p6⟩:=au hbp
 have z0:=bL hbk
 rw [U4]
 unfold aG
 generalize tx (bG P (k+1)-d)=r at *
 generalize tx (cZ P (k+1))=xa at *
 generalize tx (bG P (k+1))=xt at *
 generalize tx d=td at *
 generalize P.lg.length=n at *
 have i1:(0:Int)≤(k:Int)+1:=by omega
 have i2:(k:Int)+1<(n:Int):=by omega
 have i3:IntKind.i64.wrap ((k:Int)+1)=(k:Int)+1:=IntWalk.i64_in _ (by omega)
 have i4:((k:Int)+1).toNat=k+1:=by omega
 unfold RV at *
 clear hO hP hbp hbk hac htc p0 p3 p4 p5 p6 hd hk
 go_enter Tryz.func103,Tryz.ntmps103
 go_wp2_with fail
 obtain ⟨wA,aS⟩ : ∃ wA,wA=w.alloc (Obj.cells #[.string ⟨#[]⟩,.string ⟨#[]⟩] 113):=⟨_,rfl⟩
 have aP:Below w.heap.size w wA:=by rw [aS];exact ae _ _
 have vN:wA.heap[w.heap.size]?=some (Obj.cells #[.string ⟨#[]⟩,.string ⟨#[]⟩] 113 (0,0)):=by rw [aS];exact World.alloc_heap_new _ _
 rw [←aS]
 clear aS
 have p1:=(aP.cell (p:=⟨Bp,1,none⟩) lp).trans p1
 have p2:=(aP.cell (p:=⟨Bp,2,none⟩) lp).trans p2
 have z0:=(aP.cell (p:=⟨Bk,0,none⟩) lk).trans z0
 have c0:=(aP.cell (p:=⟨ba,oa+(k+1),none⟩) la).trans c0
 have c1:=(aP.cell (p:=⟨bt,ot+(k+1),none⟩) lt).trans c1
 have lp:=Nat.lt_of_lt_of_le lp aP.size
 have lk:=Nat.lt_of_lt_of_le lk aP.size
 have la:=Nat.lt_of_lt_of_le la aP.size
 have lt:=Nat.lt_of_lt_of_le lt aP.size
 have yN:=hid vN
 have eF:=hid aP
 clear vN aP
 refine aN (fun W'=>Below wA.heap.size wA W') [0,1,2,3,4,5,6,7,8,9,10,11,12] [13] 14 (by kernel_rfl) (by kernel_rfl) ⟨rfl,rfl,rfl,Nat.le_refl _,fun _ _=>rfl⟩ ?_
 iterate 13
  refine aL rfl ?_ rfl ?_ ?_
  rotate_left
  ·intro W' hS'
   have s0:=(hS'.cell (p:=⟨Bp,1,none⟩) lp).trans p1
   have s1:=(hS'.cell (p:=⟨Bp,2,none⟩) lp).trans p2
   have s2:=(hS'.cell (p:=⟨Bk,0,none⟩) lk).trans z0
   have s3:=(hS'.cell (p:=⟨ba,oa+(k+1),none⟩) la).trans c0
   have s4:=(hS'.cell (p:=⟨bt,ot+(k+1),none⟩) lt).trans c1
   go_simp
   try with_reducible rfl
  try simp only [zA,zB,zC,Act.put,zD,zE,zF]
 have hH0:Below wA.heap.size wA wA.drew:=⟨rfl,rfl,rfl,Nat.le_refl _,fun _ _=>rfl⟩
 refine aD rfl rfl (fun K hK=>?_)
 go_simp
 refine (HS.out _ (hw.below (eF.out.trans (hH0.mono eF.out.size)))).mono ?_
 rintro e v1 ⟨rfl,rC⟩
 have hH1:=hH0.trans (rC.mono hH0.size)
 refine hK _ _ ⟨hH1,?_⟩
 clear hK K
 try simp only [zA,zB,zC,Act.put,zD,zE,zF]
 unfold bE
 simp only [List.drop_succ_cons,List.drop_zero]
 try simp only [zA,zB,zC,Act.put,zD,zE,zF]
 have hrv:=(hH1.block _ (aa yN.out)).trans yN.out
 have HBV:=hid (eF.out.trans (hH1.mono eF.out.size))
 obtain ⟨_,_,_,_⟩:=aj hrv
 have HZ:=hid (aV (.string r) (aU (.string xa) hrv))
 clear p1 p2 z0 c0 c1 hH0 hH1 rC hrv
 refine aB rfl (fun K hK=>?_)
 go_simp
 refine hK _ _ ⟨trivial,?_⟩
 clear hK K
 try simp only [zA,zB,zC,Act.put,zD,zE,zF]
 refine aB rfl (fun K hK=>?_)
 go_simp
 refine hK _ _ ⟨trivial,aQ ?_⟩
 clear hK K
 refine ag.mk ?_
 go_wp2
 obtain ⟨q0,q1,_,_⟩:=aj HZ.out
 refine bodyPost_ret (v:=.agg #[.string xa,.string r]) (by simp [results,Tryz.results103,go_sem,q0,q1]) rfl ⟨rfl,?_⟩
 exact (HBV.out.setCell (p:=⟨w.heap.size,0,none⟩) (Nat.le_refl _) _).setCell (p:=⟨w.heap.size,1,none⟩) (Nat.le_refl _) _
theorem FK {w:World} (v:Value) (L:List Iv) (n:Nat) (hn:n≤L.length) (hl:L.length≤1000) (hv:gm w v L):Calls Tryz.prog 106 #[v,.int .i64 (n:Int)] w (RV (.string (tx (dZ L n))) w):=by
 have hb:=Below.refl w.heap.size w
 obtain ⟨p,c,rfl,hcl,hcm⟩:=hv.slice
 unfold maxLen at hcm
 unfold RV
 rcases Nat.eq_zero_or_pos n with h0 | h0
 ·subst h0
  rcases Nat.eq_zero_or_pos L.length with h1 | h1
  ·have e:tx (dZ L 0)=⟨#[48]⟩:=by unfold dZ;rw [if_neg (by omega),if_neg (by omega),tx0]
   have HE:=hid e
   rw [h1] at hcl ⊢
   clear e h1 hv hl hn
   go_enter Tryz.func106,Tryz.ntmps106
   go_wp2
   go_ret
   exact ⟨by rw [HE.out];rfl,hb⟩
  ·obtain ⟨B,off,rfl,hbl,_,c1,_⟩:=hv.at (i:=0) h1
   have e:dZ L 0=(ah L 0).a:=by unfold dZ;rw [if_neg (by omega),if_pos h1]
   rw [←e] at c1
   rw [Nat.zero_mul,Nat.add_zero] at c1
   have d1:decide ((0:Int)<(L.length:Int))=true:=decide_eq_true (by omega)
   have d2:decide (0<L.length)=true:=decide_eq_true h1
   have i2:(0:Int)<(L.length:Int):=by omega
   generalize tx (dZ L 0)=r at *
   generalize L.length=m at *
   clear hv e hn
   go_enter Tryz.func106,Tryz.ntmps106
   go_wp2
   go_ret
   exact ⟨rfl,hb⟩
 ·obtain ⟨j,rfl⟩ : ∃ j,n=j+1:=⟨n-1,by omega⟩
  obtain ⟨B,off,rfl,hbl,_,_,c1⟩:=hv.at (i:=j) (by omega)
  have e:dZ L (j+1)=(ah L j).b:=by unfold dZ;rw [if_pos (by omega),Nat.add_sub_cancel]
  rw [←e] at c1
  have d1:decide ((0:Int)<(j:Int)+1)=true:=decide_eq_true (by omega)
  have t1:IntKind.i64.wrap ((j:Int)+1-1)=(j:Int):=(IntWalk.i64_in _ (by omega)).trans (by omega)
  have t2:IntKind.i64.wrap (j:Int)=(j:Int):=IntWalk.i64_in _ (by omega)
  have j1:(0:Int)≤(j:Int):=by omega
  have j2:(j:Int)<(L.length:Int):=by omega
  generalize tx (dZ L (j+1))=r at *
  generalize L.length=m at *
  clear hv e
  go_enter Tryz.func106,Tryz.ntmps106
  go_wp2
  go_ret
  exact ⟨rfl,hb⟩
theorem KJ (p q:Rat) (hp:Sz 200000000 p) (hq:Sz 200000000 q) (hs:Sz 200000000 (p+q)) (w:World) (hw:Good w):Calls Tryz.prog 174 #[.string (tx p),.string (tx q)] w (RV (.string (tx ((p+q)*(1/2)))) w):=
 (Av (tx p) (tx q) p q (bU p) (bU q) hp hq hs w hw).mono fun e w' ⟨r,he,hr,hb⟩=>⟨by rw [he,hr.unique (bU ((p+q)*(1/2)))],hb⟩
theorem FL (a b:QP) (ha:rf 1000000 a) (hb:rf 1000000 b) (w:World) (hw:Good w) :
  Calls Tryz.prog 105 #[xm a,xm b] w (RV (xm (l8 a b)) w):=by
 have M1:=hid (fun w' (hg:Good w')=>KJ a.1 b.1 ha.1.sm hb.1.sm (ha.1.add hb.1).sm w' hg)
 have M2:=hid (fun w' (hg:Good w')=>KJ a.2 b.2 ha.2.sm hb.2.sm (ha.2.add hb.2).sm w' hg)
 unfold RV at M1 M2
 clear ha hb
 unfold xm l8
 dsimp only
 generalize tx ((a.1+b.1)*(1/2))=r1 at *
 generalize tx ((a.2+b.2)*(1/2))=r2 at *
 generalize tx a.1=a1 at *
 generalize tx a.2=a2 at *
 generalize tx b.1=b1 at *
 generalize tx b.2=b2 at *
 go_enter Tryz.func105,Tryz.ntmps105
 go_wp2_with fail
 obtain ⟨wA,aS⟩ : ∃ wA,wA=(((w.alloc (Obj.cells #[.string a1,.string a2] 113)).alloc (Obj.cells #[.string b1,.string b2] 113)).alloc (Obj.cells #[.string ⟨#[]⟩,.string ⟨#[]⟩] 113)):=⟨_,rfl⟩
 obtain ⟨aP,x1,x2,x3⟩:=MF aS
 rw [←aS]
 clear aS
 have l1:=aa x1
 obtain ⟨c10,c11,_,_⟩:=aj x1
 have l2:=aa x2
 obtain ⟨c20,c21,_,_⟩:=aj x2
 have l3:=aa x3
 have X3:=hid x3
 clear x1 x2 x3
 refine aN (fun W'=>Below wA.heap.size wA W') [0,1,2,3,5,6,7,8] [4,9] 10 (by kernel_rfl) (by kernel_rfl) ⟨rfl,rfl,rfl,Nat.le_refl _,fun _ _=>rfl⟩ ?_
 iterate 8
  refine aL rfl ?_ rfl ?_ ?_
  rotate_left
  ·intro W' hS'
   have s0:=(hS'.cell (p:=⟨w.heap.size,0,none⟩) l1).trans c10
   have s1:=(hS'.cell (p:=⟨w.heap.size,1,none⟩) l1).trans c11
   have s2:=(hS'.cell (p:=⟨w.heap.size+1,0,none⟩) l2).trans c20
   have s3:=(hS'.cell (p:=⟨w.heap.size+1,1,none⟩) l2).trans c21
   go_simp
   try with_reducible rfl
  try simp only [zA,zB,zC,Act.put,zD,zE,zF]
 have Ci:Below wA.heap.size wA wA.drew:=⟨rfl,rfl,rfl,Nat.le_refl _,fun _ _=>rfl⟩
 refine aD rfl rfl (fun K hK=>?_)
 go_simp
 refine (M1.out _ (hw.below (aP.trans (Ci.mono aP.size)))).mono ?_
 rintro e v1 ⟨rfl,rC⟩
 have xu:=Ci.trans (rC.mono Ci.size)
 refine hK _ _ ⟨xu,?_⟩
 clear hK K
 try simp only [zA,zB,zC,Act.put,zD,zE,zF]
 refine aD rfl rfl (fun K hK=>?_)
 go_simp
 refine (M2.out _ (hw.below (aP.trans (xu.mono aP.size)))).mono ?_
 rintro e v2 ⟨rfl,tV⟩
 have iG:=xu.trans (tV.mono xu.size)
 refine hK _ _ ⟨iG,?_⟩
 clear hK K
 try simp only [zA,zB,zC,Act.put,zD,zE,zF]
 have tV:=aP.trans (iG.mono aP.size)
 have zU:=Nat.lt_of_lt_of_le l1 iG.size
 have Cj:=(iG.cell (p:=⟨w.heap.size,0,none⟩) l1).trans c10
 have Ck:=(iG.cell (p:=⟨w.heap.size,1,none⟩) l1).trans c11
 have zV:=Nat.lt_of_lt_of_le l2 iG.size
 have Cm:=(iG.cell (p:=⟨w.heap.size+1,0,none⟩) l2).trans c20
 have Cn:=(iG.cell (p:=⟨w.heap.size+1,1,none⟩) l2).trans c21
 have ael:=hid ((iG.block _ (aa X3.out)).trans X3.out)
 clear c10 c11 c20 c21 l1 l2
 have hp3:=ael.out
 obtain ⟨_,_,_,_⟩:=aj hp3
 have hpz:=aV (.string r2) (aU (.string r1) hp3)
 obtain ⟨q0,q1,_,_⟩:=aj hpz
 have Q0:=hid q0
 have Q1:=hid q1
 clear hpz hp3 q0 q1
 unfold bE
 simp only [List.drop_succ_cons,List.drop_zero]
 try simp only [zA,zB,zC,Act.put,zD,zE,zF]
 refine aB rfl (fun K hK=>?_)
 go_simp
 refine hK _ _ ⟨trivial,?_⟩
 clear hK K
 try simp only [zA,zB,zC,Act.put,zD,zE,zF]
 refine aB rfl (fun K hK=>?_)
 go_simp
 refine hK _ _ ⟨trivial,aQ ?_⟩
 clear hK K
 try simp only [zA,zB,zC,Act.put,zD,zE,zF]
 refine ag.mk ?_
 go_wp2
 have q0:=Q0.out
 have q1:=Q1.out
 refine bodyPost_ret (v:=.agg #[.string r1,.string r2]) (by simp [results,Tryz.results105,go_sem,q0,q1]) rfl ⟨rfl,?_⟩
 exact (tV.setCell (p:=⟨w.heap.size+1+1,0,none⟩) (by simp <;> omega) _).setCell (p:=⟨w.heap.size+1+1,1,none⟩) (by simp <;> omega) _
theorem aad {W:World} {b:Nat} {L:List QP} {cs:Array Value} {t:TypeId} (h:W.heap[b]?=some (.cells cs t (0,0))) (hcs:cs.toList=cellsS (L.map aR)) (hm:L.length≤maxLen):qp W (.slice (some ⟨b,0,none⟩) L.length L.length) L:=by
 refine ⟨some ⟨b,0,none⟩,L.length,by rw [List.length_map],by rw [List.length_map];exact Nat.le_refl _,hm,fun _=>⟨b,0,rfl,lt_of_some h,fun i hi=>?_⟩⟩
 have hc:∀ k:Nat,W.cell? ⟨b,k,none⟩=cs.toList[k]?:=fun k=>by simp [World.cell?,h]
 have g0:=eQ (L.map aR) i hi 0 (by decide)
 have g1:=eQ (L.map aR) i hi 1 (by decide)
 rw [hc,hc,hcs]
 rw [Nat.zero_add]
 exact ⟨g0,g1⟩
structure lF (N0:Nat) (vg va vt:Value) (P:bQ) (k:Nat) (s:Stp) (Bs Bl Br B1 B2 Bk Bp:Nat) (vl vr:Value) (W:World):Prop where
 hs:W.heap[Bs]?=some (.cells #[.int .i64 (s.k:Int),.int .i64 (s.i:Int),.int .i64 (s.j:Int)] 57 (0,0))
 hl:W.heap[Bl]?=some (.cells #[vl] 66 (0,0))
 hr:W.heap[Br]?=some (.cells #[vr] 66 (0,0))
 h1:W.heap[B1]?=some (.cells #[.func (.func 102) #[] #[.pointer (some ⟨Bp,0,none⟩),.pointer (some ⟨Bk,0,none⟩)]] 171 (0,0))
 h2:W.heap[B2]?=some (.cells #[.func (.func 103) #[] #[.pointer (some ⟨Bp,0,none⟩),.pointer (some ⟨Bk,0,none⟩)]] 171 (0,0))
 hk:W.heap[Bk]?=some (dO k)
 hp:W.heap[Bp]?=some (UI vg va vt P.cs)
 ge:N0≤Bs∧N0≤Bl∧N0≤Br∧N0≤B1∧N0≤B2∧N0≤Bk∧N0≤Bp
 vL:gm W vl (ai P k)
 vR:gm W vr (ai P (k+1))
 pm:l9 W vg va vt P
theorem lF.below {N0:Nat} {vg va vt:Value} {P:bQ} {k:Nat} {s:Stp} {Bs Bl Br B1 B2 Bk Bp:Nat} {vl vr:Value} {W W':World} (h:lF N0 vg va vt P k s Bs Bl Br B1 B2 Bk Bp vl vr W) (hb:Below W.heap.size W W'):lF N0 vg va vt P k s Bs Bl Br B1 B2 Bk Bp vl vr W':=
 ⟨(hb.block _ (aa h.hs)).trans h.hs,(hb.block _ (aa h.hl)).trans h.hl,(hb.block _ (aa h.hr)).trans h.hr,(hb.block _ (aa h.h1)).trans h.h1,(hb.block _ (aa h.h2)).trans h.h2,(hb.block _ (aa h.hk)).trans h.hk,(hb.block _ (aa h.hp)).trans h.hp,h.ge,h.vL.below hb,h.vR.below hb,h.pm.below hb⟩
def iM (N:Nat) (W W':World):Prop:=∀ (b:Nat) (o:Obj),N≤b→W.heap[b]?=some o→o.isCells=true→W'.heap[b]?=some o
def qx (x:nW × Bool) (v:Value) (W:World):Prop:=∃ sl,v=.agg #[.int .i64 (x.1.k:Int),.string (us x.1.u),sl,.bool x.2]∧qp W sl x.1.pg
theorem one_set {W:World} {B:Nat} {t:TypeId} {a:Value} (v:Value) (h:W.heap[B]?=some (.cells #[a] t (0,0))):(W.setCell ⟨B,0,none⟩ v).heap[B]?=some (.cells #[v] t (0,0)):=aJ v h
def Hm (wA:World) (v7 v8:Value) (b7 b8:Nat) (W:World):Prop:=W.heap[b7]?=some (.cells #[v7] 66 (0,0))∧W.heap[b8]?=some (.cells #[v8] 66 (0,0))∧wA.heap.size≤b7∧wA.heap.size≤b8∧Below wA.heap.size wA W
theorem OT {wA W:World} {b7 b8:Nat} {u7 u8:Value} (v7 v8:Value) (hn:b7≠b8) (h7:wA.heap.size≤b7) (h8:wA.heap.size≤b8) (x7:W.heap[b7]?=some (.cells #[u7] 66 (0,0))) (x8:W.heap[b8]?=some (.cells #[u8] 66 (0,0))) (hb:Below wA.heap.size wA W):Hm wA v7 v8 b7 b8 ((W.setCell ⟨b7,0,none⟩ v7).setCell ⟨b8,0,none⟩ v8):=by
 refine ⟨?_,?_,h7,h8,(hb.setCell (p:=⟨b7,0,none⟩) h7 _).setCell (p:=⟨b8,0,none⟩) h8 _⟩
 ·rw [Below.heap_setCell _ _ _ _ hn]
  exact one_set _ x7
 ·refine one_set (a:=u8) _ ?_
  rw [Below.heap_setCell _ _ _ _ (Ne.symm hn)]
  exact x8
theorem KL {w:World} (vg va vt:Value) (P:bQ) (k:Nat) (s:Stp) (hk:k+1<P.lg.length) (hO:dm P) (hP:l9 w vg va vt P) :
  Calls Tryz.prog 47 #[iX vg va vt P.cs,.int .i64 (k:Int),oF s.k s.i s.j] w fun e w'=>∃ Bs Bl Br B1 B2 Bk Bp vl vr,e=.returned (.func (.func 104) #[] #[.pointer (some ⟨Bs,0,none⟩),.pointer (some ⟨Bl,0,none⟩),.pointer (some ⟨Br,0,none⟩),.pointer (some ⟨B1,0,none⟩),.pointer (some ⟨B2,0,none⟩),.pointer (some ⟨Bk,0,none⟩)])∧lF w.heap.size vg va vt P k s Bs Bl Br B1 B2 Bk Bp vl vr w'∧Below w.heap.size w w':=by
 have QY:=hid hP
 obtain ⟨pg,cg,rfl,hcg,jK⟩:=hP.g.slice
 obtain ⟨pa,ca,rfl,ET,ma⟩:=hP.a.slice
 obtain ⟨oQ,ct,rfl,hct,mf⟩:=hP.t.slice
 obtain ⟨b,off,vl,rfl,hbl,c0,hvl⟩:=hP.g.at (k:=k) (by omega)
 obtain ⟨b',off',vr,e,_,c1,eO⟩:=hP.g.at (k:=k+1) hk
 cases e
 have xE:=hO.n20
 unfold maxLen at jK
 have HL:=hid hvl
 have HR:=hid eO
 obtain ⟨pl,cl,rfl,_,_⟩:=hvl.slice
 obtain ⟨pr,cr,rfl,_,_⟩:=eO.slice
 generalize (P.lg.getD k []).length=nl at *
 generalize (P.lg.getD (k+1) []).length=nr at *
 have i1:(0:Int)≤(k:Int):=by omega
 have i2:(k:Int)<(P.lg.length:Int):=by omega
 have i3:IntKind.i64.wrap ((k:Int)+1)=(k:Int)+1:=IntWalk.i64_in _ (by omega)
 have i4:(0:Int)≤(k:Int)+1:=by omega
 have i5:(k:Int)+1<(P.lg.length:Int):=by omega
 have i6:((k:Int)+1).toNat=k+1:=by omega
 unfold iX oF
 obtain ⟨wA,aS⟩ : ∃ wA,wA=((w.alloc (UI (.slice (some ⟨b,off,none⟩) P.lg.length cg) (.slice pa (P.xs.map tx).length ca) (.slice oQ (P.tp.map tx).length ct) P.cs)).alloc (dO k)).alloc (Obj.cells #[.int .i64 (s.k:Int),.int .i64 (s.i:Int),.int .i64 (s.j:Int)] 57):=⟨_,rfl⟩
 obtain ⟨aP,hsA,x0,x1,x2⟩:=dU aS
 have HX:=hid (And.intro x0 (And.intro x1 x2))
 have LF:=hid aS
 unfold UI at x0 aS
 unfold dO at aS
 clear hP hvl eO hO hk
 generalize tx P.cs.ch=t1 at *
 generalize tx P.cs.mi=t2 at *
 generalize tx P.cs.ga=t3 at *
 generalize tx P.cs.re=t4 at *
 generalize P.lg.length=n at *
 generalize (P.xs.map tx).length=na at *
 generalize (P.tp.map tx).length=nt at *
 obtain ⟨p0,_,_,_,_,_,_⟩:=au x0
 have z0:=bL x1
 have l0:=aa x0
 have l1:=aa x1
 have lb:=Nat.lt_of_lt_of_le hbl aP.size
 have c0:=(aP.cell (p:=⟨b,off+k,none⟩) hbl).trans c0
 have c1:=(aP.cell (p:=⟨b,off+(k+1),none⟩) hbl).trans c1
 have eF:=hid aP
 have J7:=hid hsA
 clear x0 x1 x2 aP hsA
 generalize hsk:s.k=sk at *
 generalize hsi:s.i=si at *
 generalize hsj:s.j=sj at *
 go_enter Tryz.func47,Tryz.ntmps47
 go_wp2_with fail
 rw [←aS]
 clear aS
 go_cut [7,8] from 11 (fun s7 s8 wx=>∃ b7 b8,s7=.pointer (some ⟨b7,0,none⟩)∧s8=.pointer (some ⟨b8,0,none⟩)∧Hm wA (.slice pl nl cl) (.slice pr nr cr) b7 b8 wx)
 case first =>
  refine fK (fun W'=>Below wA.heap.size wA W') (.take 0 (.take 1 (.take 2 (.take 3 (.take 4 (.take 5 (.take 6 (.take 7 (.take 8 (.take 9 (.take 10 (.two 11 (.one 12 (.one 13 .fin)) 12 (.one 11 (.one 13 .fin)))))))))))))) 14 (by kernel_rfl) (by kernel_rfl) ⟨rfl,rfl,rfl,Nat.le_refl _,fun _ _=>rfl⟩ ?_
  have bZ:Below wA.heap.size wA wA.drew:=⟨rfl,rfl,rfl,Nat.le_refl _,fun _ _=>rfl⟩
  generalize wA.drew=dW at *
  iterate 11
   refine aF rfl ?_ rfl ?_ ?_
   rotate_left
   ·intro W' hS'
    have s0:=(hS'.cell (p:=⟨w.heap.size,0,none⟩) l0).trans p0
    have s1:=(hS'.cell (p:=⟨w.heap.size+1,0,none⟩) l1).trans z0
    have s2:=(hS'.cell (p:=⟨b,off+k,none⟩) lb).trans c0
    have s3:=(hS'.cell (p:=⟨b,off+(k+1),none⟩) lb).trans c1
    go_simp
    try with_reducible rfl
   try simp only [zA,zB,zC,Act.put,zD,zE,zF]
  refine dE ?_ ?_
  ·refine af rfl rfl (fun K hK=>?_)
   go_simp
   obtain ⟨gK,mZ⟩ : ∃ q,q=dW.alloc (Obj.cells #[.slice none 0 0] 66):=⟨_,rfl⟩
   have U5:gK.heap[dW.heap.size]?=some (Obj.cells #[.slice none 0 0] 66 (0,0)):=by rw [mZ];exact World.alloc_heap_new _ _
   have cK:Below dW.heap.size dW gK:=by rw [mZ];exact ae _ _
   have hP1:=bZ.trans (cK.mono bZ.size)
   rw [←mZ]
   clear mZ
   refine hK _ _ ⟨hP1,?_⟩
   clear hK K
   try simp only [zA,zB,zC,Act.put,zD,zE,zF]
   refine af rfl rfl (fun K hK=>?_)
   go_simp
   obtain ⟨sW,jo⟩ : ∃ q,q=gK.alloc (Obj.cells #[.slice none 0 0] 66):=⟨_,rfl⟩
   have U6:sW.heap[gK.heap.size]?=some (Obj.cells #[.slice none 0 0] 66 (0,0)):=by rw [jo];exact World.alloc_heap_new _ _
   have dK:Below gK.heap.size gK sW:=by rw [jo];exact ae _ _
   have hP2:=hP1.trans (dK.mono hP1.size)
   rw [←jo]
   clear jo
   have Ho:=(dK.block _ (lt_of_some U5)).trans U5
   refine hK _ _ ⟨hP2,?_⟩
   clear hK K
   try simp only [zA,zB,zC,Act.put,zD,zE,zF]
   obtain ⟨_,_⟩:=one_cell Ho
   refine af rfl rfl (fun K hK=>?_)
   go_simp
   refine hK _ _ ⟨hP2.setCell (p:=⟨_,0,none⟩) bZ.size _,?_⟩
   clear hK K
   try simp only [zA,zB,zC,Act.put,zD,zE,zF]
   unfold bR
   simp only [List.drop_succ_cons,List.drop_zero]
   have U7:dW.heap.size≠gK.heap.size:=by
    have h1:=lt_of_some U5
    have h2:=lt_of_some U6
    omega
   have hg7:wA.heap.size≤dW.heap.size:=(by have:=bZ.size;have:=bZ.size;omega)
   have hg8:wA.heap.size≤gK.heap.size:=(by have:=bZ.size;have:=hP1.size;omega)
   obtain ⟨e7,g7⟩:=one_cell Ho
   obtain ⟨e8,g8⟩:=one_cell U6
   have HF:=hid (show ∃ x7 x8,Value.pointer (some ⟨dW.heap.size,0,none⟩)=.pointer (some ⟨x7,0,none⟩)∧Value.pointer (some ⟨gK.heap.size,0,none⟩)=.pointer (some ⟨x8,0,none⟩)∧Hm wA (.slice pl nl cl) (.slice pr nr cr) x7 x8 _ from ⟨_,_,rfl,rfl,OT (.slice pl nl cl) (.slice pr nr cr) U7 hg7 hg8 Ho U6 hP2⟩)
   have agi:=Ne.symm U7
   clear c0 c1 p0 z0
   go_wp2
   refine ag.mk ?_
   go_wp2_with fail
   go_meet
   exact HF.out
  ·refine af rfl rfl (fun K hK=>?_)
   go_simp
   obtain ⟨iW,gq⟩ : ∃ q,q=dW.alloc (Obj.cells #[.slice none 0 0] 66):=⟨_,rfl⟩
   have U8:iW.heap[dW.heap.size]?=some (Obj.cells #[.slice none 0 0] 66 (0,0)):=by rw [gq];exact World.alloc_heap_new _ _
   have jq:Below dW.heap.size dW iW:=by rw [gq];exact ae _ _
   have lY:=bZ.trans (jq.mono bZ.size)
   rw [←gq]
   clear gq
   refine hK _ _ ⟨lY,?_⟩
   clear hK K
   try simp only [zA,zB,zC,Act.put,zD,zE,zF]
   refine af rfl rfl (fun K hK=>?_)
   go_simp
   obtain ⟨pQ,dL⟩ : ∃ q,q=iW.alloc (Obj.cells #[.slice none 0 0] 66):=⟨_,rfl⟩
   have OU:pQ.heap[iW.heap.size]?=some (Obj.cells #[.slice none 0 0] 66 (0,0)):=by rw [dL];exact World.alloc_heap_new _ _
   have jr:Below iW.heap.size iW pQ:=by rw [dL];exact ae _ _
   have yK:=lY.trans (jr.mono lY.size)
   rw [←dL]
   clear dL
   have OV:=(jr.block _ (lt_of_some U8)).trans U8
   refine hK _ _ ⟨yK,?_⟩
   clear hK K
   try simp only [zA,zB,zC,Act.put,zD,zE,zF]
   obtain ⟨_,_⟩:=one_cell OU
   refine af rfl rfl (fun K hK=>?_)
   go_simp
   refine hK _ _ ⟨yK.setCell (p:=⟨_,0,none⟩) lY.size _,?_⟩
   clear hK K
   try simp only [zA,zB,zC,Act.put,zD,zE,zF]
   unfold bR
   simp only [List.drop_succ_cons,List.drop_zero]
   have U7:iW.heap.size≠dW.heap.size:=by
    have h1:=lt_of_some OU
    have h2:=lt_of_some U8
    omega
   have hg7:wA.heap.size≤iW.heap.size:=(by have:=bZ.size;have:=lY.size;omega)
   have hg8:wA.heap.size≤dW.heap.size:=(by have:=bZ.size;have:=bZ.size;omega)
   obtain ⟨e7,g7⟩:=one_cell OU
   obtain ⟨e8,g8⟩:=one_cell OV
   have HF:=hid (show ∃ x7 x8,Value.pointer (some ⟨iW.heap.size,0,none⟩)=.pointer (some ⟨x7,0,none⟩)∧Value.pointer (some ⟨dW.heap.size,0,none⟩)=.pointer (some ⟨x8,0,none⟩)∧Hm wA (.slice pl nl cl) (.slice pr nr cr) x7 x8 _ from ⟨_,_,rfl,rfl,OT (.slice pl nl cl) (.slice pr nr cr) U7 hg7 hg8 OU OV yK⟩)
   have agi:=Ne.symm U7
   clear c0 c1 p0 z0
   go_wp2
   refine ag.mk ?_
   go_wp2_with fail
   go_meet
   exact HF.out
 case rest =>
 obtain ⟨b7,b8,rfl,rfl,hput⟩:=hcut
 have HPT:=hid hput
 clear hput p0 z0 c0 c1
 go_wp2
 go_ret
 obtain ⟨hb2,hs2,y1,y2⟩:=jJ (W:=wc) (a:=Obj.cells #[.func (.func 102) #[] #[.pointer (some ⟨w.heap.size,0,none⟩),.pointer (some ⟨w.heap.size+1,0,none⟩)]] 171) (b:=Obj.cells #[.func (.func 103) #[] #[.pointer (some ⟨w.heap.size,0,none⟩),.pointer (some ⟨w.heap.size+1,0,none⟩)]] 171) rfl
 obtain ⟨u7,u8,g7,g8,hbc⟩:=HPT.out
 have hbw:=hbc.trans (hb2.mono hbc.size)
 have R5:=eF.out.trans (hbw.mono eF.out.size)
 have hsz:=eF.out.size
 have hsc:=hbc.size
 refine ⟨w.heap.size+2,b7,b8,wc.heap.size,wc.heap.size+1,w.heap.size+1,w.heap.size,_,_,rfl,⟨?_,(hb2.block _ (aa u7)).trans u7,(hb2.block _ (aa u8)).trans u8,y1,y2,(hbw.block _ (aa HX.out.2.1)).trans HX.out.2.1,(hbw.block _ (aa HX.out.1)).trans HX.out.1,by omega,HL.out.below R5,HR.out.below R5,QY.out.below R5⟩,R5⟩
 rw [hsk,hsi,hsj]
 exact (hbw.block _ (aa HX.out.2.2)).trans HX.out.2.2
end Go.Proofs.YtglncfkoohgdaaaGreatDoor
