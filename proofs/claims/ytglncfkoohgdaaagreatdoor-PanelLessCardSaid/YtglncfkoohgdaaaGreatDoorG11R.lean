import Derived.Test.YtglncfkoohgdaaaGreatDoorG8R
set_option maxRecDepth 100000
set_option maxHeartbeats 8000000
namespace Go.Proofs.YtglncfkoohgdaaaGreatDoor
open Go.RowKit Go.Shelf
open Go.Lib (decDigits itoa nDigits)
open Go.Lib (hid)
attribute [local go_sem] Oper.semAt_some
theorem mh {x:lH} {sec:Bool} {k:Nat} {u:ByteArray} {cs:Array Value} {b n:Nat} {t:TypeId} {W:World} (hk:x.k=k) (hu:us x.u=u) (hn:x.pg.length=n) (hcs:cs.toList=cellsS (x.pg.map aQ)) (h:W.heap[b]?=some (.cells cs t (0,0))) (hm:n≤100):ql (x,sec) (.agg #[.int .i64 (k:Int),.string u,.slice (some ⟨b,0,none⟩) n n,.bool sec]) W:=by
 refine ⟨.slice (some ⟨b,0,none⟩) n n,by rw [hk,hu],?_⟩
 have h1:=ZF h hcs (by rw [hn];unfold maxLen;omega)
 rw [hn] at h1
 exact h1
theorem vw {P:dB} {k:Nat} {s:Stp} (h:s.k=2∨s.k=4):aA P k s=[(⟨k,(ah (ai P k) s.i).u,[aC P k (ah (ai P k) s.i).b,aC P (k+1) (eu (ai P (k+1)) s.j),aC P k (ah (ai P k) s.i).a]⟩,false)]:=by
 unfold aA
 rw [if_neg (by omega),if_pos h]
theorem rF {P:dB} {k:Nat} {s:Stp} (h:s.k=3∨s.k=5):aA P k s=[(⟨k,(ah (ai P (k+1)) s.j).u,[aC P k (eu (ai P k) s.i),aC P (k+1) (ah (ai P (k+1)) s.j).b,aC P (k+1) (ah (ai P (k+1)) s.j).a]⟩,false)]:=by
 unfold aA
 rw [if_neg (by omega),if_neg (by omega)]
theorem OV {P:dB} (hO:dw P) (k:Nat) (hk:k<P.lg.length) (n:Nat) (hn:n≤(ai P k).length):Sz 1000 (eu (ai P k) n):=by
 unfold eu
 split
 ·exact kI ((hO.iv k (n-1) hk (by omega)).2.ok (by decide))
 ·split
  ·exact kI ((hO.iv k 0 hk (by omega)).1.ok (by decide))
  ·exact kI (show om 0 from Q4.zero.ok (by decide))
theorem uA {N0:Nat} {vg va vt:Value} {P:dB} {k:Nat} {s:Stp} {Bs Bl Br B1 B2 Bk Bp:Nat} {vl vr:Value} (hk:k+1<P.lg.length) (hO:dw P) (hs:s.k=2∨s.k=4) (hi:s.i<(ai P k).length) (hj:s.j≤(ai P (k+1)).length) (l:Nat) (J Jx:Nat→World→Prop) (W:World) (hw:Good W) (hE:lv N0 vg va vt P k s Bs Bl Br B1 B2 Bk Bp vl vr W)
  (hJ:kN 97 W.heap.size J)
  (hY:∀ i (_:i<(aA P k s).length) v W1,J i W1→(∃ x,(aA P k s)[i]?=some x∧ql x v W1)→YieldAt Fence.wide 8 Tryz.prog l #[v] W1 fun e W'=>(e=.returned (.bool true)∧J (i+1) W'∧(i+1<(aA P k s).length→iM N0 W1 W'))∨(e=.returned (.bool false)∧Jx i W')) (h0:J 0 W) :
  CallsIn Fence.wide 9 Tryz.prog 104 #[.func (.yield l) #[] #[],.pointer (some ⟨Bs,0,none⟩),.pointer (some ⟨Bl,0,none⟩),.pointer (some ⟨Br,0,none⟩),.pointer (some ⟨B1,0,none⟩),.pointer (some ⟨B2,0,none⟩),.pointer (some ⟨Bk,0,none⟩)] W fun e W'=>(∃ v,e=.returned v)∧(J (aA P k s).length W'∨∃ i,i<(aA P k s).length∧Jx i W'):=by
 have hpq:(aA P k s)[0]?=some (⟨k,(ah (ai P k) s.i).u,[aC P k (ah (ai P k) s.i).b,aC P (k+1) (eu (ai P (k+1)) s.j),aC P k (ah (ai P k) s.i).a]⟩,false)∧(aA P k s).length=1:=by rw [vw hs];exact ⟨rfl,rfl⟩
 have sH:=hid hpq.1
 have Ym:=hid hpq.2
 have Kc:=hid (show 0<(aA P k s).length by rw [hpq.2];decide)
 have DI:=hO.iv k s.i (by omega) hi
 have HZX:=hid (And.intro (kI (DI.1.ok (by decide))) (kI (DI.2.ok (by decide))))
 have HZP:=hid (show Sz 1000 (eu (ai P (k+1)) s.j) from OV hO (k+1) hk s.j hj)
 have HJR:=hid hj
 have HJ:=hid hJ
 have HY:=hid hY
 have Zd:=hid h0
 obtain ⟨pl,cl,rfl,hcl,gZ⟩:=hE.vL.slice
 obtain ⟨pr,cr,rfl,hcr,ad3⟩:=hE.vR.slice
 obtain ⟨b,off,hpe,hbl,c0,c1,c2⟩:=hE.vL.at hi
 subst hpe
 have RQ:=(hO.log k (by omega)).2
 have hsk:(s.k:Int)=2∨(s.k:Int)=4:=by omega
 obtain ⟨wB,jD⟩ : ∃ wB,wB=W.alloc (Obj.cells #[.string (us (ah (ai P k) s.i).u),.string (tx (ah (ai P k) s.i).a),.string (tx (ah (ai P k) s.i).b)] 89):=⟨_,rfl⟩
 obtain ⟨ja,lx,x0,x1,x2⟩:=bn jD
 have eZ:=hid ja
 have yF:=hid (show Below W.heap.size W wB from ja)
 have Au:=hid (hE.below ja)
 have nT:=hid jD
 have U0:=hid (fun W' (hb:Below wB.heap.size wB W')=>Fw (w:=W') (.slice pr (ai P (k+1)).length cr) (ai P (k+1)) s.j HJR.out (by have:=hO.log (k+1) hk;omega) ((hE.vR.below eZ.out).below hb))
 have HT1:=hid (fun W' (hb:Below wB.heap.size wB W')=>CX (w:=W') vg va vt P k (ah (ai P k) s.i).b Bp Bk (by omega) hO ((hE.pm.below eZ.out).below hb) ((hb.block _ (aa Au.out.hp)).trans Au.out.hp) ((hb.block _ (aa Au.out.hk)).trans Au.out.hk) HZX.out.2 (hw.below (yF.out.trans (hb.mono yF.out.size))))
 have HT2:=hid (fun W' (hb:Below wB.heap.size wB W')=>CY (w:=W') vg va vt P k (eu (ai P (k+1)) s.j) Bp Bk hk hO ((hE.pm.below eZ.out).below hb) ((hb.block _ (aa Au.out.hp)).trans Au.out.hp) ((hb.block _ (aa Au.out.hk)).trans Au.out.hk) HZP.out (hw.below (yF.out.trans (hb.mono yF.out.size))))
 have HT3:=hid (fun W' (hb:Below wB.heap.size wB W')=>CX (w:=W') vg va vt P k (ah (ai P k) s.i).a Bp Bk (by omega) hO ((hE.pm.below eZ.out).below hb) ((hb.block _ (aa Au.out.hp)).trans Au.out.hp) ((hb.block _ (aa Au.out.hk)).trans Au.out.hk) HZX.out.1 (hw.below (yF.out.trans (hb.mono yF.out.size))))
 have Eg:=hid (show (#[.string (tx (cZ P k)),.string (tx (bF P k-(ah (ai P k) s.i).b)),.string (tx (cZ P (k+1))),.string (tx (bF P (k+1)-(eu (ai P (k+1)) s.j))),.string (tx (cZ P k)),.string (tx (bF P k-(ah (ai P k) s.i).a))]:Array Value).toList=cellsS (([aC P k (ah (ai P k) s.i).b,aC P (k+1) (eu (ai P (k+1)) s.j),aC P k (ah (ai P k) s.i).a]:List QP).map aQ) from rfl)
 generalize hnl:(ai P k).length=nl at *
 generalize hnr:(ai P (k+1)).length=nr at *
 unfold RV at U0
 unfold RV wR aC at HT1 HT2 HT3
 dsimp only at HT1 HT2 HT3
 obtain ⟨g0,g1,g2⟩:=av hE.hs
 have Fy:=(one_cell hE.hl).1
 have Fz:=(one_cell hE.hr).1
 have f1:=(one_cell hE.h1).1
 have f2:=(one_cell hE.h2).1
 have k0:=bK hE.hk
 have ls:=aa hE.hs
 have ll:=aa hE.hl
 have lr:=aa hE.hr
 have l1:=aa hE.h1
 have l2:=aa hE.h2
 have lk:=aa hE.hk
 have ad4:=enters_of Tryz.func102 (by kernel_rfl) rfl
 have ad5:=enters_of Tryz.func103 (by kernel_rfl) rfl
 generalize hu:us (ah (ai P k) s.i).u=u at *
 have HU:=hid hu
 generalize tx (cZ P k)=tA at *
 generalize tx (bF P k-(ah (ai P k) s.i).b)=tB at *
 generalize tx (cZ P (k+1))=tC at *
 generalize tx (bF P (k+1)-(eu (ai P (k+1)) s.j))=tD at *
 generalize tx (bF P k-(ah (ai P k) s.i).a)=tE at *
 generalize tx (ah (ai P k) s.i).a=ta at *
 generalize tx (ah (ai P k) s.i).b=tb at *
 generalize tx (eu (ai P (k+1)) s.j)=tp at *
 generalize hgk:s.k=sk at *
 generalize hgi:s.i=si at *
 generalize hgj:s.j=sj at *
 have i1:(0:Int)≤(si:Int):=by omega
 have i2:(si:Int)<(nl:Int):=by omega
 clear hpq DI hE hJ hY h0 hj hu jD ja hO hw hgi hgj hgk hnl hnr hk
 refine callsIn_of_wp Tryz.func104 rfl trivial ?_ rfl
 simp only [Tryz.ntmps104,List.size_toArray,List.length_cons,List.length_nil,Nat.reduceAdd,Nat.reduceSub,Array.replicate_succ,Array.replicate_zero,List.push_toArray,List.append_toArray,List.nil_append,List.cons_append]
 rcases hsk with hsk | hsk
 ·rw [hsk] at g0
  clear hs hsk
  gi_upto_region 14 with fail
  rw [←nT.out]
  have g1:=(eZ.out.cell (p:=⟨Bs,1,none⟩) ls).trans g1
  have g2:=(eZ.out.cell (p:=⟨Bs,2,none⟩) ls).trans g2
  have Fy:=(eZ.out.cell (p:=⟨Bl,0,none⟩) ll).trans Fy
  have Fz:=(eZ.out.cell (p:=⟨Br,0,none⟩) lr).trans Fz
  have f1:=(eZ.out.cell (p:=⟨B1,0,none⟩) l1).trans f1
  have f2:=(eZ.out.cell (p:=⟨B2,0,none⟩) l2).trans f2
  have k0:=(eZ.out.cell (p:=⟨Bk,0,none⟩) lk).trans k0
  have ls:=Nat.lt_of_lt_of_le ls eZ.out.size
  have ll:=Nat.lt_of_lt_of_le ll eZ.out.size
  have lr:=Nat.lt_of_lt_of_le lr eZ.out.size
  have l1:=Nat.lt_of_lt_of_le l1 eZ.out.size
  have l2:=Nat.lt_of_lt_of_le l2 eZ.out.size
  have lk:=Nat.lt_of_lt_of_le lk eZ.out.size
  clear c0 c1 c2 g0
  have mG:=hid (fun W' (hS':Below wB.heap.size wB W')=>And.intro ((hS'.cell (p:=⟨Bs,1,none⟩) ls).trans g1) (And.intro ((hS'.cell (p:=⟨Bs,2,none⟩) ls).trans g2) (And.intro ((hS'.cell (p:=⟨Bl,0,none⟩) ll).trans Fy) (And.intro ((hS'.cell (p:=⟨Br,0,none⟩) lr).trans Fz) (And.intro ((hS'.cell (p:=⟨B1,0,none⟩) l1).trans f1) (And.intro ((hS'.cell (p:=⟨B2,0,none⟩) l2).trans f2) (And.intro ((hS'.cell (p:=⟨Bk,0,none⟩) lk).trans k0) (And.intro ((hS'.cell (p:=⟨W.heap.size,0,none⟩) lx).trans x0) (And.intro ((hS'.cell (p:=⟨W.heap.size,1,none⟩) lx).trans x1) ((hS'.cell (p:=⟨W.heap.size,2,none⟩) lx).trans x2))))))))))
  refine bN bW (fun W'=>Below wB.heap.size wB W') (.take 0 (.take 1 (.take 2 (.take 3 (.take 4 (.take 5 (.take 6 (.take 8 (.take 9 (.take 10 (.take 11 (.take 14 (.take 15 (.take 16 (.one 7 (.one 12 (.one 13 (.one 17 (.one 18 (.take 19 (.take 20 .fin))))))))))))))))))))) 21 (by kernel_rfl) (by kernel_rfl) (by kernel_rfl) ⟨rfl,rfl,rfl,Nat.le_refl _,fun _ _=>rfl⟩ ?_
  have cO:Below wB.heap.size wB wB.drew:=⟨rfl,rfl,rfl,Nat.le_refl _,fun _ _=>rfl⟩
  generalize wB.drew=dP at *
  iterate 14
   refine aD rfl ?_ rfl ?_ ?_
   rotate_left
   ·intro W' hS'
    obtain ⟨s0,s1,s2,s3,s4,s5,s6,s7,s8,s9⟩:=mG.out _ hS'
    go_simp
    try with_reducible rfl
   try simp only [zA,zB,zC,Act.put,zD,zE,zF]
  refine af rfl rfl (fun K hK=>?_)
  go_simp
  refine (HT1.out _ (cO)).mono ?_
  rintro e gy ⟨rfl,bR⟩
  have hP1:=cO.trans (bR.mono cO.size)
  refine hK _ _ ⟨hP1,?_⟩
  clear hK K
  try simp only [zA,zB,zC,Act.put,zD,zE,zF]
  refine af rfl rfl (fun K hK=>?_)
  go_simp
  refine (U0.out _ (hP1)).mono ?_
  rintro e sI ⟨rfl,dL⟩
  have hP2:=hP1.trans (dL.mono hP1.size)
  refine hK _ _ ⟨hP2,?_⟩
  clear hK K
  try simp only [zA,zB,zC,Act.put,zD,zE,zF]
  refine af rfl rfl (fun K hK=>?_)
  go_simp
  refine (HT2.out _ (hP2)).mono ?_
  rintro e Yt ⟨rfl,rG⟩
  have hP3:=hP2.trans (rG.mono hP2.size)
  refine hK _ _ ⟨hP3,?_⟩
  clear hK K
  try simp only [zA,zB,zC,Act.put,zD,zE,zF]
  refine af rfl rfl (fun K hK=>?_)
  go_simp
  refine (HT3.out _ (hP3)).mono ?_
  rintro e iV ⟨rfl,jq⟩
  have lY:=hP3.trans (jq.mono hP3.size)
  refine hK _ _ ⟨lY,?_⟩
  clear hK K
  try simp only [zA,zB,zC,Act.put,zD,zE,zF]
  refine af rfl rfl (fun K hK=>?_)
  go_simp
  obtain ⟨pK,dM⟩ : ∃ q,q=iV.alloc (Obj.cells #[.string tA,.string tB,.string tC,.string tD,.string tA,.string tE] 113):=⟨_,rfl⟩
  have CZ:pK.heap[iV.heap.size]?=some (Obj.cells #[.string tA,.string tB,.string tC,.string tD,.string tA,.string tE] 113 (0,0)):=by rw [dM];exact World.alloc_heap_new _ _
  have jr:Below iV.heap.size iV pK:=by rw [dM];exact ae _ _
  have yw:=lY.trans (jr.mono lY.size)
  rw [←dM]
  clear dM
  refine hK _ _ ⟨yw,?_⟩
  clear hK K
  try simp only [zA,zB,zC,Act.put,zD,zE,zF]
  iterate 2
   refine aD rfl ?_ rfl ?_ ?_
   rotate_left
   ·intro W' hS'
    obtain ⟨s0,s1,s2,s3,s4,s5,s6,s7,s8,s9⟩:=mG.out _ hS'
    go_simp
    try with_reducible rfl
   try simp only [zA,zB,zC,Act.put,zD,zE,zF]
  unfold bU
  simp only [List.drop_succ_cons,List.drop_zero]
  have Lv:Below W.heap.size W pK:=eZ.out.trans (yw.mono eZ.out.size)
  have QY:=hid (show ∃ x,(aA P k s)[0]?=some x∧ql x (.agg #[.int .i64 (k:Int),.string u,.slice (some ⟨iV.heap.size,0,none⟩) 3 3,.bool false]) pK from ⟨_,sH.out,mh rfl HU.out rfl Eg.out CZ (by decide)⟩)
  have hJv:J 0 pK:=di HJ.out Zd.out Lv
  obtain ⟨fn,tmps,assign,body,hy,hR⟩:=HY.out 0 Kc.out _ pK hJv QY.out
  clear hJv Lv g1 g2 Fy Fz f1 f2 k0 x0 x1 x2
  gi_wp2
  refine hR.mono ?_
  rintro e W9 (⟨rfl,Cu,_⟩ | ⟨rfl,pM⟩)
  ·have Ap:=hid Cu
   clear Cu
   gi_wp2
   go_end0
   exact ⟨⟨_,rfl⟩,.inl (by rw [Ym.out];exact Ap.out)⟩
  ·have Ap:=hid pM
   clear pM
   gi_wp2
   go_end0
   exact ⟨⟨_,rfl⟩,.inr ⟨0,Kc.out,Ap.out⟩⟩
 ·rw [hsk] at g0
  clear hs hsk
  gi_upto_region 14 with fail
  rw [←nT.out]
  have g1:=(eZ.out.cell (p:=⟨Bs,1,none⟩) ls).trans g1
  have g2:=(eZ.out.cell (p:=⟨Bs,2,none⟩) ls).trans g2
  have Fy:=(eZ.out.cell (p:=⟨Bl,0,none⟩) ll).trans Fy
  have Fz:=(eZ.out.cell (p:=⟨Br,0,none⟩) lr).trans Fz
  have f1:=(eZ.out.cell (p:=⟨B1,0,none⟩) l1).trans f1
  have f2:=(eZ.out.cell (p:=⟨B2,0,none⟩) l2).trans f2
  have k0:=(eZ.out.cell (p:=⟨Bk,0,none⟩) lk).trans k0
  have ls:=Nat.lt_of_lt_of_le ls eZ.out.size
  have ll:=Nat.lt_of_lt_of_le ll eZ.out.size
  have lr:=Nat.lt_of_lt_of_le lr eZ.out.size
  have l1:=Nat.lt_of_lt_of_le l1 eZ.out.size
  have l2:=Nat.lt_of_lt_of_le l2 eZ.out.size
  have lk:=Nat.lt_of_lt_of_le lk eZ.out.size
  clear c0 c1 c2 g0
  have mG:=hid (fun W' (hS':Below wB.heap.size wB W')=>And.intro ((hS'.cell (p:=⟨Bs,1,none⟩) ls).trans g1) (And.intro ((hS'.cell (p:=⟨Bs,2,none⟩) ls).trans g2) (And.intro ((hS'.cell (p:=⟨Bl,0,none⟩) ll).trans Fy) (And.intro ((hS'.cell (p:=⟨Br,0,none⟩) lr).trans Fz) (And.intro ((hS'.cell (p:=⟨B1,0,none⟩) l1).trans f1) (And.intro ((hS'.cell (p:=⟨B2,0,none⟩) l2).trans f2) (And.intro ((hS'.cell (p:=⟨Bk,0,none⟩) lk).trans k0) (And.intro ((hS'.cell (p:=⟨W.heap.size,0,none⟩) lx).trans x0) (And.intro ((hS'.cell (p:=⟨W.heap.size,1,none⟩) lx).trans x1) ((hS'.cell (p:=⟨W.heap.size,2,none⟩) lx).trans x2))))))))))
  refine bN bW (fun W'=>Below wB.heap.size wB W') (.take 0 (.take 1 (.take 2 (.take 3 (.take 4 (.take 5 (.take 6 (.take 8 (.take 9 (.take 10 (.take 11 (.take 14 (.take 15 (.take 16 (.one 7 (.one 12 (.one 13 (.one 17 (.one 18 (.take 19 (.take 20 .fin))))))))))))))))))))) 21 (by kernel_rfl) (by kernel_rfl) (by kernel_rfl) ⟨rfl,rfl,rfl,Nat.le_refl _,fun _ _=>rfl⟩ ?_
  have cO:Below wB.heap.size wB wB.drew:=⟨rfl,rfl,rfl,Nat.le_refl _,fun _ _=>rfl⟩
  generalize wB.drew=dP at *
  iterate 14
   refine aD rfl ?_ rfl ?_ ?_
   rotate_left
   ·intro W' hS'
    obtain ⟨s0,s1,s2,s3,s4,s5,s6,s7,s8,s9⟩:=mG.out _ hS'
    go_simp
    try with_reducible rfl
   try simp only [zA,zB,zC,Act.put,zD,zE,zF]
  refine af rfl rfl (fun K hK=>?_)
  go_simp
  refine (HT1.out _ (cO)).mono ?_
  rintro e gy ⟨rfl,bR⟩
  have hP1:=cO.trans (bR.mono cO.size)
  refine hK _ _ ⟨hP1,?_⟩
  clear hK K
  try simp only [zA,zB,zC,Act.put,zD,zE,zF]
  refine af rfl rfl (fun K hK=>?_)
  go_simp
  refine (U0.out _ (hP1)).mono ?_
  rintro e sI ⟨rfl,dL⟩
  have hP2:=hP1.trans (dL.mono hP1.size)
  refine hK _ _ ⟨hP2,?_⟩
  clear hK K
  try simp only [zA,zB,zC,Act.put,zD,zE,zF]
  refine af rfl rfl (fun K hK=>?_)
  go_simp
  refine (HT2.out _ (hP2)).mono ?_
  rintro e Yt ⟨rfl,rG⟩
  have hP3:=hP2.trans (rG.mono hP2.size)
  refine hK _ _ ⟨hP3,?_⟩
  clear hK K
  try simp only [zA,zB,zC,Act.put,zD,zE,zF]
  refine af rfl rfl (fun K hK=>?_)
  go_simp
  refine (HT3.out _ (hP3)).mono ?_
  rintro e iV ⟨rfl,jq⟩
  have lY:=hP3.trans (jq.mono hP3.size)
  refine hK _ _ ⟨lY,?_⟩
  clear hK K
  try simp only [zA,zB,zC,Act.put,zD,zE,zF]
  refine af rfl rfl (fun K hK=>?_)
  go_simp
  obtain ⟨pK,dM⟩ : ∃ q,q=iV.alloc (Obj.cells #[.string tA,.string tB,.string tC,.string tD,.string tA,.string tE] 113):=⟨_,rfl⟩
  have CZ:pK.heap[iV.heap.size]?=some (Obj.cells #[.string tA,.string tB,.string tC,.string tD,.string tA,.string tE] 113 (0,0)):=by rw [dM];exact World.alloc_heap_new _ _
  have jr:Below iV.heap.size iV pK:=by rw [dM];exact ae _ _
  have yw:=lY.trans (jr.mono lY.size)
  rw [←dM]
  clear dM
  refine hK _ _ ⟨yw,?_⟩
  clear hK K
  try simp only [zA,zB,zC,Act.put,zD,zE,zF]
  iterate 2
   refine aD rfl ?_ rfl ?_ ?_
   rotate_left
   ·intro W' hS'
    obtain ⟨s0,s1,s2,s3,s4,s5,s6,s7,s8,s9⟩:=mG.out _ hS'
    go_simp
    try with_reducible rfl
   try simp only [zA,zB,zC,Act.put,zD,zE,zF]
  unfold bU
  simp only [List.drop_succ_cons,List.drop_zero]
  have Lv:Below W.heap.size W pK:=eZ.out.trans (yw.mono eZ.out.size)
  have QY:=hid (show ∃ x,(aA P k s)[0]?=some x∧ql x (.agg #[.int .i64 (k:Int),.string u,.slice (some ⟨iV.heap.size,0,none⟩) 3 3,.bool false]) pK from ⟨_,sH.out,mh rfl HU.out rfl Eg.out CZ (by decide)⟩)
  have hJv:J 0 pK:=di HJ.out Zd.out Lv
  obtain ⟨fn,tmps,assign,body,hy,hR⟩:=HY.out 0 Kc.out _ pK hJv QY.out
  clear hJv Lv g1 g2 Fy Fz f1 f2 k0 x0 x1 x2
  gi_wp2
  refine hR.mono ?_
  rintro e W9 (⟨rfl,Cu,_⟩ | ⟨rfl,pM⟩)
  ·have Ap:=hid Cu
   clear Cu
   gi_wp2
   go_end0
   exact ⟨⟨_,rfl⟩,.inl (by rw [Ym.out];exact Ap.out)⟩
  ·have Ap:=hid pM
   clear pM
   gi_wp2
   go_end0
   exact ⟨⟨_,rfl⟩,.inr ⟨0,Kc.out,Ap.out⟩⟩
theorem uB {N0:Nat} {vg va vt:Value} {P:dB} {k:Nat} {s:Stp} {Bs Bl Br B1 B2 Bk Bp:Nat} {vl vr:Value} (hk:k+1<P.lg.length) (hO:dw P) (hs:s.k=3∨s.k=5) (hi:s.j<(ai P (k+1)).length) (hj:s.i≤(ai P k).length) (l:Nat) (J Jx:Nat→World→Prop) (W:World) (hw:Good W) (hE:lv N0 vg va vt P k s Bs Bl Br B1 B2 Bk Bp vl vr W)
  (hJ:kN 97 W.heap.size J)
  (hY:∀ i (_:i<(aA P k s).length) v W1,J i W1→(∃ x,(aA P k s)[i]?=some x∧ql x v W1)→YieldAt Fence.wide 8 Tryz.prog l #[v] W1 fun e W'=>(e=.returned (.bool true)∧J (i+1) W'∧(i+1<(aA P k s).length→iM N0 W1 W'))∨(e=.returned (.bool false)∧Jx i W')) (h0:J 0 W) :
  CallsIn Fence.wide 9 Tryz.prog 104 #[.func (.yield l) #[] #[],.pointer (some ⟨Bs,0,none⟩),.pointer (some ⟨Bl,0,none⟩),.pointer (some ⟨Br,0,none⟩),.pointer (some ⟨B1,0,none⟩),.pointer (some ⟨B2,0,none⟩),.pointer (some ⟨Bk,0,none⟩)] W fun e W'=>(∃ v,e=.returned v)∧(J (aA P k s).length W'∨∃ i,i<(aA P k s).length∧Jx i W'):=by
 have hpq:(aA P k s)[0]?=some (⟨k,(ah (ai P (k+1)) s.j).u,[aC P k (eu (ai P k) s.i),aC P (k+1) (ah (ai P (k+1)) s.j).b,aC P (k+1) (ah (ai P (k+1)) s.j).a]⟩,false)∧(aA P k s).length=1:=by rw [rF hs];exact ⟨rfl,rfl⟩
 have sH:=hid hpq.1
 have Ym:=hid hpq.2
 have Kc:=hid (show 0<(aA P k s).length by rw [hpq.2];decide)
 have DI:=hO.iv (k+1) s.j hk hi
 have HZX:=hid (And.intro (kI (DI.1.ok (by decide))) (kI (DI.2.ok (by decide))))
 have HZP:=hid (show Sz 1000 (eu (ai P k) s.i) from OV hO k (by omega) s.i hj)
 have HJR:=hid hj
 have HJ:=hid hJ
 have HY:=hid hY
 have Zd:=hid h0
 obtain ⟨pl,cl,rfl,hcl,gZ⟩:=hE.vL.slice
 obtain ⟨pr,cr,rfl,hcr,ad3⟩:=hE.vR.slice
 obtain ⟨b,off,hpe,hbl,c0,c1,c2⟩:=hE.vR.at hi
 subst hpe
 have RQ:=(hO.log (k+1) hk).2
 have hsk:(s.k:Int)=3∨(s.k:Int)=5:=by omega
 obtain ⟨wB,jD⟩ : ∃ wB,wB=W.alloc (Obj.cells #[.string (us (ah (ai P (k+1)) s.j).u),.string (tx (ah (ai P (k+1)) s.j).a),.string (tx (ah (ai P (k+1)) s.j).b)] 89):=⟨_,rfl⟩
 obtain ⟨ja,lx,x0,x1,x2⟩:=bn jD
 have eZ:=hid ja
 have yF:=hid (show Below W.heap.size W wB from ja)
 have Au:=hid (hE.below ja)
 have nT:=hid jD
 have U0:=hid (fun W' (hb:Below wB.heap.size wB W')=>Fw (w:=W') (.slice pl (ai P k).length cl) (ai P k) s.i HJR.out (by have:=hO.log k (by omega);omega) ((hE.vL.below eZ.out).below hb))
 have HT1:=hid (fun W' (hb:Below wB.heap.size wB W')=>CX (w:=W') vg va vt P k (eu (ai P k) s.i) Bp Bk (by omega) hO ((hE.pm.below eZ.out).below hb) ((hb.block _ (aa Au.out.hp)).trans Au.out.hp) ((hb.block _ (aa Au.out.hk)).trans Au.out.hk) HZP.out (hw.below (yF.out.trans (hb.mono yF.out.size))))
 have HT2:=hid (fun W' (hb:Below wB.heap.size wB W')=>CY (w:=W') vg va vt P k (ah (ai P (k+1)) s.j).b Bp Bk hk hO ((hE.pm.below eZ.out).below hb) ((hb.block _ (aa Au.out.hp)).trans Au.out.hp) ((hb.block _ (aa Au.out.hk)).trans Au.out.hk) HZX.out.2 (hw.below (yF.out.trans (hb.mono yF.out.size))))
 have HT3:=hid (fun W' (hb:Below wB.heap.size wB W')=>CY (w:=W') vg va vt P k (ah (ai P (k+1)) s.j).a Bp Bk hk hO ((hE.pm.below eZ.out).below hb) ((hb.block _ (aa Au.out.hp)).trans Au.out.hp) ((hb.block _ (aa Au.out.hk)).trans Au.out.hk) HZX.out.1 (hw.below (yF.out.trans (hb.mono yF.out.size))))
 have Eg:=hid (show (#[.string (tx (cZ P k)),.string (tx (bF P k-(eu (ai P k) s.i))),.string (tx (cZ P (k+1))),.string (tx (bF P (k+1)-(ah (ai P (k+1)) s.j).b)),.string (tx (cZ P (k+1))),.string (tx (bF P (k+1)-(ah (ai P (k+1)) s.j).a))]:Array Value).toList=cellsS (([aC P k (eu (ai P k) s.i),aC P (k+1) (ah (ai P (k+1)) s.j).b,aC P (k+1) (ah (ai P (k+1)) s.j).a]:List QP).map aQ) from rfl)
 generalize hnl:(ai P k).length=nl at *
 generalize hnr:(ai P (k+1)).length=nr at *
 unfold RV at U0
 unfold RV wR aC at HT1 HT2 HT3
 dsimp only at HT1 HT2 HT3
 obtain ⟨g0,g1,g2⟩:=av hE.hs
 have Fy:=(one_cell hE.hl).1
 have Fz:=(one_cell hE.hr).1
 have f1:=(one_cell hE.h1).1
 have f2:=(one_cell hE.h2).1
 have k0:=bK hE.hk
 have ls:=aa hE.hs
 have ll:=aa hE.hl
 have lr:=aa hE.hr
 have l1:=aa hE.h1
 have l2:=aa hE.h2
 have lk:=aa hE.hk
 have ad4:=enters_of Tryz.func102 (by kernel_rfl) rfl
 have ad5:=enters_of Tryz.func103 (by kernel_rfl) rfl
 generalize hu:us (ah (ai P (k+1)) s.j).u=u at *
 have HU:=hid hu
 generalize tx (cZ P k)=tA at *
 generalize tx (bF P k-(eu (ai P k) s.i))=tB at *
 generalize tx (cZ P (k+1))=tC at *
 generalize tx (bF P (k+1)-(ah (ai P (k+1)) s.j).b)=tD at *
 generalize tx (bF P (k+1)-(ah (ai P (k+1)) s.j).a)=tE at *
 generalize tx (ah (ai P (k+1)) s.j).a=ta at *
 generalize tx (ah (ai P (k+1)) s.j).b=tb at *
 generalize tx (eu (ai P k) s.i)=tp at *
 generalize hgk:s.k=sk at *
 generalize hgi:s.i=si at *
 generalize hgj:s.j=sj at *
 have i1:(0:Int)≤(sj:Int):=by omega
 have i2:(sj:Int)<(nr:Int):=by omega
 clear hpq DI hE hJ hY h0 hj hu jD ja hO hw hgi hgj hgk hnl hnr hk
 refine callsIn_of_wp Tryz.func104 rfl trivial ?_ rfl
 simp only [Tryz.ntmps104,List.size_toArray,List.length_cons,List.length_nil,Nat.reduceAdd,Nat.reduceSub,Array.replicate_succ,Array.replicate_zero,List.push_toArray,List.append_toArray,List.nil_append,List.cons_append]
 rcases hsk with hsk | hsk
 ·rw [hsk] at g0
  clear hs hsk
  gi_upto_region 2 with fail
  rw [←nT.out]
  have g1:=(eZ.out.cell (p:=⟨Bs,1,none⟩) ls).trans g1
  have g2:=(eZ.out.cell (p:=⟨Bs,2,none⟩) ls).trans g2
  have Fy:=(eZ.out.cell (p:=⟨Bl,0,none⟩) ll).trans Fy
  have Fz:=(eZ.out.cell (p:=⟨Br,0,none⟩) lr).trans Fz
  have f1:=(eZ.out.cell (p:=⟨B1,0,none⟩) l1).trans f1
  have f2:=(eZ.out.cell (p:=⟨B2,0,none⟩) l2).trans f2
  have k0:=(eZ.out.cell (p:=⟨Bk,0,none⟩) lk).trans k0
  have ls:=Nat.lt_of_lt_of_le ls eZ.out.size
  have ll:=Nat.lt_of_lt_of_le ll eZ.out.size
  have lr:=Nat.lt_of_lt_of_le lr eZ.out.size
  have l1:=Nat.lt_of_lt_of_le l1 eZ.out.size
  have l2:=Nat.lt_of_lt_of_le l2 eZ.out.size
  have lk:=Nat.lt_of_lt_of_le lk eZ.out.size
  clear c0 c1 c2 g0
  have mG:=hid (fun W' (hS':Below wB.heap.size wB W')=>And.intro ((hS'.cell (p:=⟨Bs,1,none⟩) ls).trans g1) (And.intro ((hS'.cell (p:=⟨Bs,2,none⟩) ls).trans g2) (And.intro ((hS'.cell (p:=⟨Bl,0,none⟩) ll).trans Fy) (And.intro ((hS'.cell (p:=⟨Br,0,none⟩) lr).trans Fz) (And.intro ((hS'.cell (p:=⟨B1,0,none⟩) l1).trans f1) (And.intro ((hS'.cell (p:=⟨B2,0,none⟩) l2).trans f2) (And.intro ((hS'.cell (p:=⟨Bk,0,none⟩) lk).trans k0) (And.intro ((hS'.cell (p:=⟨W.heap.size,0,none⟩) lx).trans x0) (And.intro ((hS'.cell (p:=⟨W.heap.size,1,none⟩) lx).trans x1) ((hS'.cell (p:=⟨W.heap.size,2,none⟩) lx).trans x2))))))))))
  refine bN bW (fun W'=>Below wB.heap.size wB W') (.take 0 (.take 1 (.take 2 (.take 3 (.take 4 (.take 5 (.take 6 (.take 7 (.take 10 (.take 11 (.take 12 (.take 14 (.take 15 (.take 16 (.one 8 (.one 9 (.one 13 (.one 17 (.one 18 (.take 19 (.take 20 .fin))))))))))))))))))))) 21 (by kernel_rfl) (by kernel_rfl) (by kernel_rfl) ⟨rfl,rfl,rfl,Nat.le_refl _,fun _ _=>rfl⟩ ?_
  have cO:Below wB.heap.size wB wB.drew:=⟨rfl,rfl,rfl,Nat.le_refl _,fun _ _=>rfl⟩
  generalize wB.drew=dP at *
  iterate 14
   refine aD rfl ?_ rfl ?_ ?_
   rotate_left
   ·intro W' hS'
    obtain ⟨s0,s1,s2,s3,s4,s5,s6,s7,s8,s9⟩:=mG.out _ hS'
    go_simp
    try with_reducible rfl
   try simp only [zA,zB,zC,Act.put,zD,zE,zF]
  refine af rfl rfl (fun K hK=>?_)
  go_simp
  refine (U0.out _ (cO)).mono ?_
  rintro e gy ⟨rfl,bR⟩
  have hP1:=cO.trans (bR.mono cO.size)
  refine hK _ _ ⟨hP1,?_⟩
  clear hK K
  try simp only [zA,zB,zC,Act.put,zD,zE,zF]
  refine af rfl rfl (fun K hK=>?_)
  go_simp
  refine (HT1.out _ (hP1)).mono ?_
  rintro e sI ⟨rfl,dL⟩
  have hP2:=hP1.trans (dL.mono hP1.size)
  refine hK _ _ ⟨hP2,?_⟩
  clear hK K
  try simp only [zA,zB,zC,Act.put,zD,zE,zF]
  refine af rfl rfl (fun K hK=>?_)
  go_simp
  refine (HT2.out _ (hP2)).mono ?_
  rintro e Yt ⟨rfl,rG⟩
  have hP3:=hP2.trans (rG.mono hP2.size)
  refine hK _ _ ⟨hP3,?_⟩
  clear hK K
  try simp only [zA,zB,zC,Act.put,zD,zE,zF]
  refine af rfl rfl (fun K hK=>?_)
  go_simp
  refine (HT3.out _ (hP3)).mono ?_
  rintro e iV ⟨rfl,jq⟩
  have lY:=hP3.trans (jq.mono hP3.size)
  refine hK _ _ ⟨lY,?_⟩
  clear hK K
  try simp only [zA,zB,zC,Act.put,zD,zE,zF]
  refine af rfl rfl (fun K hK=>?_)
  go_simp
  obtain ⟨pK,dM⟩ : ∃ q,q=iV.alloc (Obj.cells #[.string tA,.string tB,.string tC,.string tD,.string tC,.string tE] 113):=⟨_,rfl⟩
  have CZ:pK.heap[iV.heap.size]?=some (Obj.cells #[.string tA,.string tB,.string tC,.string tD,.string tC,.string tE] 113 (0,0)):=by rw [dM];exact World.alloc_heap_new _ _
  have jr:Below iV.heap.size iV pK:=by rw [dM];exact ae _ _
  have yw:=lY.trans (jr.mono lY.size)
  rw [←dM]
  clear dM
  refine hK _ _ ⟨yw,?_⟩
  clear hK K
  try simp only [zA,zB,zC,Act.put,zD,zE,zF]
  iterate 2
   refine aD rfl ?_ rfl ?_ ?_
   rotate_left
   ·intro W' hS'
    obtain ⟨s0,s1,s2,s3,s4,s5,s6,s7,s8,s9⟩:=mG.out _ hS'
    go_simp
    try with_reducible rfl
   try simp only [zA,zB,zC,Act.put,zD,zE,zF]
  unfold bU
  simp only [List.drop_succ_cons,List.drop_zero]
  have Lv:Below W.heap.size W pK:=eZ.out.trans (yw.mono eZ.out.size)
  have QY:=hid (show ∃ x,(aA P k s)[0]?=some x∧ql x (.agg #[.int .i64 (k:Int),.string u,.slice (some ⟨iV.heap.size,0,none⟩) 3 3,.bool false]) pK from ⟨_,sH.out,mh rfl HU.out rfl Eg.out CZ (by decide)⟩)
  have hJv:J 0 pK:=di HJ.out Zd.out Lv
  obtain ⟨fn,tmps,assign,body,hy,hR⟩:=HY.out 0 Kc.out _ pK hJv QY.out
  clear hJv Lv g1 g2 Fy Fz f1 f2 k0 x0 x1 x2
  gi_wp2
  refine hR.mono ?_
  rintro e W9 (⟨rfl,Cu,_⟩ | ⟨rfl,pM⟩)
  ·have Ap:=hid Cu
   clear Cu
   gi_wp2
   go_end0
   exact ⟨⟨_,rfl⟩,.inl (by rw [Ym.out];exact Ap.out)⟩
  ·have Ap:=hid pM
   clear pM
   gi_wp2
   go_end0
   exact ⟨⟨_,rfl⟩,.inr ⟨0,Kc.out,Ap.out⟩⟩
 ·rw [hsk] at g0
  clear hs hsk
  gi_upto_region 2 with fail
  rw [←nT.out]
  have g1:=(eZ.out.cell (p:=⟨Bs,1,none⟩) ls).trans g1
  have g2:=(eZ.out.cell (p:=⟨Bs,2,none⟩) ls).trans g2
  have Fy:=(eZ.out.cell (p:=⟨Bl,0,none⟩) ll).trans Fy
  have Fz:=(eZ.out.cell (p:=⟨Br,0,none⟩) lr).trans Fz
  have f1:=(eZ.out.cell (p:=⟨B1,0,none⟩) l1).trans f1
  have f2:=(eZ.out.cell (p:=⟨B2,0,none⟩) l2).trans f2
  have k0:=(eZ.out.cell (p:=⟨Bk,0,none⟩) lk).trans k0
  have ls:=Nat.lt_of_lt_of_le ls eZ.out.size
  have ll:=Nat.lt_of_lt_of_le ll eZ.out.size
  have lr:=Nat.lt_of_lt_of_le lr eZ.out.size
  have l1:=Nat.lt_of_lt_of_le l1 eZ.out.size
  have l2:=Nat.lt_of_lt_of_le l2 eZ.out.size
  have lk:=Nat.lt_of_lt_of_le lk eZ.out.size
  clear c0 c1 c2 g0
  have mG:=hid (fun W' (hS':Below wB.heap.size wB W')=>And.intro ((hS'.cell (p:=⟨Bs,1,none⟩) ls).trans g1) (And.intro ((hS'.cell (p:=⟨Bs,2,none⟩) ls).trans g2) (And.intro ((hS'.cell (p:=⟨Bl,0,none⟩) ll).trans Fy) (And.intro ((hS'.cell (p:=⟨Br,0,none⟩) lr).trans Fz) (And.intro ((hS'.cell (p:=⟨B1,0,none⟩) l1).trans f1) (And.intro ((hS'.cell (p:=⟨B2,0,none⟩) l2).trans f2) (And.intro ((hS'.cell (p:=⟨Bk,0,none⟩) lk).trans k0) (And.intro ((hS'.cell (p:=⟨W.heap.size,0,none⟩) lx).trans x0) (And.intro ((hS'.cell (p:=⟨W.heap.size,1,none⟩) lx).trans x1) ((hS'.cell (p:=⟨W.heap.size,2,none⟩) lx).trans x2))))))))))
  refine bN bW (fun W'=>Below wB.heap.size wB W') (.take 0 (.take 1 (.take 2 (.take 3 (.take 4 (.take 5 (.take 6 (.take 7 (.take 10 (.take 11 (.take 12 (.take 14 (.take 15 (.take 16 (.one 8 (.one 9 (.one 13 (.one 17 (.one 18 (.take 19 (.take 20 .fin))))))))))))))))))))) 21 (by kernel_rfl) (by kernel_rfl) (by kernel_rfl) ⟨rfl,rfl,rfl,Nat.le_refl _,fun _ _=>rfl⟩ ?_
  have cO:Below wB.heap.size wB wB.drew:=⟨rfl,rfl,rfl,Nat.le_refl _,fun _ _=>rfl⟩
  generalize wB.drew=dP at *
  iterate 14
   refine aD rfl ?_ rfl ?_ ?_
   rotate_left
   ·intro W' hS'
    obtain ⟨s0,s1,s2,s3,s4,s5,s6,s7,s8,s9⟩:=mG.out _ hS'
    go_simp
    try with_reducible rfl
   try simp only [zA,zB,zC,Act.put,zD,zE,zF]
  refine af rfl rfl (fun K hK=>?_)
  go_simp
  refine (U0.out _ (cO)).mono ?_
  rintro e gy ⟨rfl,bR⟩
  have hP1:=cO.trans (bR.mono cO.size)
  refine hK _ _ ⟨hP1,?_⟩
  clear hK K
  try simp only [zA,zB,zC,Act.put,zD,zE,zF]
  refine af rfl rfl (fun K hK=>?_)
  go_simp
  refine (HT1.out _ (hP1)).mono ?_
  rintro e sI ⟨rfl,dL⟩
  have hP2:=hP1.trans (dL.mono hP1.size)
  refine hK _ _ ⟨hP2,?_⟩
  clear hK K
  try simp only [zA,zB,zC,Act.put,zD,zE,zF]
  refine af rfl rfl (fun K hK=>?_)
  go_simp
  refine (HT2.out _ (hP2)).mono ?_
  rintro e Yt ⟨rfl,rG⟩
  have hP3:=hP2.trans (rG.mono hP2.size)
  refine hK _ _ ⟨hP3,?_⟩
  clear hK K
  try simp only [zA,zB,zC,Act.put,zD,zE,zF]
  refine af rfl rfl (fun K hK=>?_)
  go_simp
  refine (HT3.out _ (hP3)).mono ?_
  rintro e iV ⟨rfl,jq⟩
  have lY:=hP3.trans (jq.mono hP3.size)
  refine hK _ _ ⟨lY,?_⟩
  clear hK K
  try simp only [zA,zB,zC,Act.put,zD,zE,zF]
  refine af rfl rfl (fun K hK=>?_)
  go_simp
  obtain ⟨pK,dM⟩ : ∃ q,q=iV.alloc (Obj.cells #[.string tA,.string tB,.string tC,.string tD,.string tC,.string tE] 113):=⟨_,rfl⟩
  have CZ:pK.heap[iV.heap.size]?=some (Obj.cells #[.string tA,.string tB,.string tC,.string tD,.string tC,.string tE] 113 (0,0)):=by rw [dM];exact World.alloc_heap_new _ _
  have jr:Below iV.heap.size iV pK:=by rw [dM];exact ae _ _
  have yw:=lY.trans (jr.mono lY.size)
  rw [←dM]
  clear dM
  refine hK _ _ ⟨yw,?_⟩
  clear hK K
  try simp only [zA,zB,zC,Act.put,zD,zE,zF]
  iterate 2
   refine aD rfl ?_ rfl ?_ ?_
   rotate_left
   ·intro W' hS'
    obtain ⟨s0,s1,s2,s3,s4,s5,s6,s7,s8,s9⟩:=mG.out _ hS'
    go_simp
    try with_reducible rfl
   try simp only [zA,zB,zC,Act.put,zD,zE,zF]
  unfold bU
  simp only [List.drop_succ_cons,List.drop_zero]
  have Lv:Below W.heap.size W pK:=eZ.out.trans (yw.mono eZ.out.size)
  have QY:=hid (show ∃ x,(aA P k s)[0]?=some x∧ql x (.agg #[.int .i64 (k:Int),.string u,.slice (some ⟨iV.heap.size,0,none⟩) 3 3,.bool false]) pK from ⟨_,sH.out,mh rfl HU.out rfl Eg.out CZ (by decide)⟩)
  have hJv:J 0 pK:=di HJ.out Zd.out Lv
  obtain ⟨fn,tmps,assign,body,hy,hR⟩:=HY.out 0 Kc.out _ pK hJv QY.out
  clear hJv Lv g1 g2 Fy Fz f1 f2 k0 x0 x1 x2
  gi_wp2
  refine hR.mono ?_
  rintro e W9 (⟨rfl,Cu,_⟩ | ⟨rfl,pM⟩)
  ·have Ap:=hid Cu
   clear Cu
   gi_wp2
   go_end0
   exact ⟨⟨_,rfl⟩,.inl (by rw [Ym.out];exact Ap.out)⟩
  ·have Ap:=hid pM
   clear pM
   gi_wp2
   go_end0
   exact ⟨⟨_,rfl⟩,.inr ⟨0,Kc.out,Ap.out⟩⟩
end Go.Proofs.YtglncfkoohgdaaaGreatDoor
