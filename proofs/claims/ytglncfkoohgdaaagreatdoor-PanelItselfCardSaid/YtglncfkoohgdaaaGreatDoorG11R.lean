import Derived.Test.YtglncfkoohgdaaaGreatDoorG8R
set_option maxRecDepth 100000
set_option maxHeartbeats 8000000
namespace Go.Proofs.YtglncfkoohgdaaaGreatDoor
open Go.RowKit Go.Shelf
open Go.Lib (decDigits itoa nDigits)
open Go.Lib (hid)
attribute [local go_sem] Oper.semAt_some
theorem mh {x:nW} {sec:Bool} {k:Nat} {u:ByteArray} {cs:Array Value} {b n:Nat} {t:TypeId} {W:World} (hk:x.k=k) (hu:us x.u=u) (hn:x.pg.length=n) (hcs:cs.toList=cellsS (x.pg.map aR)) (h:W.heap[b]?=some (.cells cs t (0,0))) (hm:n≤100):qx (x,sec) (.agg #[.int .i64 (k:Int),.string u,.slice (some ⟨b,0,none⟩) n n,.bool sec]) W:=by
 refine ⟨.slice (some ⟨b,0,none⟩) n n,by rw [hk,hu],?_⟩
 have h1:=aad h hcs (by rw [hn];unfold maxLen;omega)
 rw [hn] at h1
 exact h1
theorem vJ {P:bQ} {k:Nat} {s:Stp} (h:s.k=2∨s.k=4):aC P k s=[(⟨k,(ah (ai P k) s.i).u,[aG P k (ah (ai P k) s.i).b,aG P (k+1) (dZ (ai P (k+1)) s.j),aG P k (ah (ai P k) s.i).a]⟩,false)]:=by
 unfold aC
 rw [if_neg (by omega),if_pos h]
theorem rT {P:bQ} {k:Nat} {s:Stp} (h:s.k=3∨s.k=5):aC P k s=[(⟨k,(ah (ai P (k+1)) s.j).u,[aG P k (dZ (ai P k) s.i),aG P (k+1) (ah (ai P (k+1)) s.j).b,aG P (k+1) (ah (ai P (k+1)) s.j).a]⟩,false)]:=by
 unfold aC
 rw [if_neg (by omega),if_neg (by omega)]
theorem OW {P:bQ} (hO:dm P) (k:Nat) (hk:k<P.lg.length) (n:Nat) (hn:n≤(ai P k).length):Sz 1000 (dZ (ai P k) n):=by
 unfold dZ
 split
 ·exact kK ((hO.iv k (n-1) hk (by omega)).2.ok (by decide))
 ·split
  ·exact kK ((hO.iv k 0 hk (by omega)).1.ok (by decide))
  ·exact kK (show oz 0 from Q4.zero.ok (by decide))
theorem uK {N0:Nat} {vg va vt:Value} {P:bQ} {k:Nat} {s:Stp} {Bs Bl Br B1 B2 Bk Bp:Nat} {vl vr:Value} (hk:k+1<P.lg.length) (hO:dm P) (hs:s.k=2∨s.k=4) (hi:s.i<(ai P k).length) (hj:s.j≤(ai P (k+1)).length) (l:Nat) (J Jx:Nat→World→Prop) (W:World) (hw:Good W) (hE:lF N0 vg va vt P k s Bs Bl Br B1 B2 Bk Bp vl vr W)
  (hJ:kP 97 W.heap.size J)
  (hY:∀ i (_:i<(aC P k s).length) v W1,J i W1→(∃ x,(aC P k s)[i]?=some x∧qx x v W1)→YieldAt Fence.wide 8 Tryz.prog l #[v] W1 fun e W'=>(e=.returned (.bool true)∧J (i+1) W'∧(i+1<(aC P k s).length→iM N0 W1 W'))∨(e=.returned (.bool false)∧Jx i W')) (h0:J 0 W) :
  CallsIn Fence.wide 9 Tryz.prog 104 #[.func (.yield l) #[] #[],.pointer (some ⟨Bs,0,none⟩),.pointer (some ⟨Bl,0,none⟩),.pointer (some ⟨Br,0,none⟩),.pointer (some ⟨B1,0,none⟩),.pointer (some ⟨B2,0,none⟩),.pointer (some ⟨Bk,0,none⟩)] W fun e W'=>(∃ v,e=.returned v)∧(J (aC P k s).length W'∨∃ i,i<(aC P k s).length∧Jx i W'):=by
 have hpq:(aC P k s)[0]?=some (⟨k,(ah (ai P k) s.i).u,[aG P k (ah (ai P k) s.i).b,aG P (k+1) (dZ (ai P (k+1)) s.j),aG P k (ah (ai P k) s.i).a]⟩,false)∧(aC P k s).length=1:=by rw [vJ hs];exact ⟨rfl,rfl⟩
 have mG:=hid hpq.1
 have Ue:=hid hpq.2
 have Eu:=hid (show 0<(aC P k s).length by rw [hpq.2];decide)
 have DY:=hO.iv k s.i (by omega) hi
 have HZX:=hid (And.intro (kK (DY.1.ok (by decide))) (kK (DY.2.ok (by decide))))
 have HZP:=hid (show Sz 1000 (dZ (ai P (k+1)) s.j) from OW hO (k+1) hk s.j hj)
 have HJR:=hid hj
 have HJ:=hid hJ
 have HY:=hid hY
 have ZM:=hid h0
 obtain ⟨pl,cl,rfl,hcl,gZ⟩:=hE.vL.slice
 obtain ⟨pr,cr,rfl,hcr,aem⟩:=hE.vR.slice
 obtain ⟨b,off,hpe,hbl,c0,c1,c2⟩:=hE.vL.at hi
 subst hpe
 have R4:=(hO.log k (by omega)).2
 have hsk:(s.k:Int)=2∨(s.k:Int)=4:=by omega
 obtain ⟨wB,iy⟩ : ∃ wB,wB=W.alloc (Obj.cells #[.string (us (ah (ai P k) s.i).u),.string (tx (ah (ai P k) s.i).a),.string (tx (ah (ai P k) s.i).b)] 89):=⟨_,rfl⟩
 obtain ⟨il,lx,x0,x1,x2⟩:=aY iy
 have dY:=hid il
 have xJ:=hid (show Below W.heap.size W wB from il)
 have AA:=hid (hE.below il)
 have nX:=hid iy
 have U9:=hid (fun W' (hb:Below wB.heap.size wB W')=>FK (w:=W') (.slice pr (ai P (k+1)).length cr) (ai P (k+1)) s.j HJR.out (by have:=hO.log (k+1) hk;omega) ((hE.vR.below dY.out).below hb))
 have HT1:=hid (fun W' (hb:Below wB.heap.size wB W')=>De (w:=W') vg va vt P k (ah (ai P k) s.i).b Bp Bk (by omega) hO ((hE.pm.below dY.out).below hb) ((hb.block _ (aa AA.out.hp)).trans AA.out.hp) ((hb.block _ (aa AA.out.hk)).trans AA.out.hk) HZX.out.2 (hw.below (xJ.out.trans (hb.mono xJ.out.size))))
 have HT2:=hid (fun W' (hb:Below wB.heap.size wB W')=>Df (w:=W') vg va vt P k (dZ (ai P (k+1)) s.j) Bp Bk hk hO ((hE.pm.below dY.out).below hb) ((hb.block _ (aa AA.out.hp)).trans AA.out.hp) ((hb.block _ (aa AA.out.hk)).trans AA.out.hk) HZP.out (hw.below (xJ.out.trans (hb.mono xJ.out.size))))
 have HT3:=hid (fun W' (hb:Below wB.heap.size wB W')=>De (w:=W') vg va vt P k (ah (ai P k) s.i).a Bp Bk (by omega) hO ((hE.pm.below dY.out).below hb) ((hb.block _ (aa AA.out.hp)).trans AA.out.hp) ((hb.block _ (aa AA.out.hk)).trans AA.out.hk) HZX.out.1 (hw.below (xJ.out.trans (hb.mono xJ.out.size))))
 have CB:=hid (show (#[.string (tx (cZ P k)),.string (tx (bG P k-(ah (ai P k) s.i).b)),.string (tx (cZ P (k+1))),.string (tx (bG P (k+1)-(dZ (ai P (k+1)) s.j))),.string (tx (cZ P k)),.string (tx (bG P k-(ah (ai P k) s.i).a))]:Array Value).toList=cellsS (([aG P k (ah (ai P k) s.i).b,aG P (k+1) (dZ (ai P (k+1)) s.j),aG P k (ah (ai P k) s.i).a]:List QP).map aR) from rfl)
 generalize hnl:(ai P k).length=nl at *
 generalize hnr:(ai P (k+1)).length=nr at *
 unfold RV at U9
 unfold RV xm aG at HT1 HT2 HT3
 dsimp only at HT1 HT2 HT3
 obtain ⟨g0,g1,g2⟩:=az hE.hs
 have FM:=(one_cell hE.hl).1
 have FN:=(one_cell hE.hr).1
 have f1:=(one_cell hE.h1).1
 have f2:=(one_cell hE.h2).1
 have k0:=bL hE.hk
 have ls:=aa hE.hs
 have ll:=aa hE.hl
 have lr:=aa hE.hr
 have l1:=aa hE.h1
 have l2:=aa hE.h2
 have lk:=aa hE.hk
 have aen:=enters_of Tryz.func102 (by kernel_rfl) rfl
 have aeo:=enters_of Tryz.func103 (by kernel_rfl) rfl
 generalize hu:us (ah (ai P k) s.i).u=u at *
 have HU:=hid hu
 generalize tx (cZ P k)=tA at *
 generalize tx (bG P k-(ah (ai P k) s.i).b)=tB at *
 generalize tx (cZ P (k+1))=tC at *
 generalize tx (bG P (k+1)-(dZ (ai P (k+1)) s.j))=tD at *
 generalize tx (bG P k-(ah (ai P k) s.i).a)=tE at *
 generalize tx (ah (ai P k) s.i).a=ta at *
 generalize tx (ah (ai P k) s.i).b=tb at *
 generalize tx (dZ (ai P (k+1)) s.j)=tp at *
 generalize hgk:s.k=sk at *
 generalize hgi:s.i=si at *
 generalize hgj:s.j=sj at *
 have i1:(0:Int)≤(si:Int):=by omega
 have i2:(si:Int)<(nl:Int):=by omega
 clear hpq DY hE hJ hY h0 hj hu iy il hO hw hgi hgj hgk hnl hnr hk
 refine callsIn_of_wp Tryz.func104 rfl trivial ?_ rfl
 simp only [Tryz.ntmps104,List.size_toArray,List.length_cons,List.length_nil,Nat.reduceAdd,Nat.reduceSub,Array.replicate_succ,Array.replicate_zero,List.push_toArray,List.append_toArray,List.nil_append,List.cons_append]
 rcases hsk with hsk | hsk
 iterate 2
  ·rw [hsk] at g0
   clear hs hsk
   gi_upto_region 14 with fail
   rw [←nX.out]
   have g1:=(dY.out.cell (p:=⟨Bs,1,none⟩) ls).trans g1
   have g2:=(dY.out.cell (p:=⟨Bs,2,none⟩) ls).trans g2
   have FM:=(dY.out.cell (p:=⟨Bl,0,none⟩) ll).trans FM
   have FN:=(dY.out.cell (p:=⟨Br,0,none⟩) lr).trans FN
   have f1:=(dY.out.cell (p:=⟨B1,0,none⟩) l1).trans f1
   have f2:=(dY.out.cell (p:=⟨B2,0,none⟩) l2).trans f2
   have k0:=(dY.out.cell (p:=⟨Bk,0,none⟩) lk).trans k0
   have ls:=Nat.lt_of_lt_of_le ls dY.out.size
   have ll:=Nat.lt_of_lt_of_le ll dY.out.size
   have lr:=Nat.lt_of_lt_of_le lr dY.out.size
   have l1:=Nat.lt_of_lt_of_le l1 dY.out.size
   have l2:=Nat.lt_of_lt_of_le l2 dY.out.size
   have lk:=Nat.lt_of_lt_of_le lk dY.out.size
   clear c0 c1 c2 g0
   have kL:=hid (fun W' (hS':Below wB.heap.size wB W')=>And.intro ((hS'.cell (p:=⟨Bs,1,none⟩) ls).trans g1) (And.intro ((hS'.cell (p:=⟨Bs,2,none⟩) ls).trans g2) (And.intro ((hS'.cell (p:=⟨Bl,0,none⟩) ll).trans FM) (And.intro ((hS'.cell (p:=⟨Br,0,none⟩) lr).trans FN) (And.intro ((hS'.cell (p:=⟨B1,0,none⟩) l1).trans f1) (And.intro ((hS'.cell (p:=⟨B2,0,none⟩) l2).trans f2) (And.intro ((hS'.cell (p:=⟨Bk,0,none⟩) lk).trans k0) (And.intro ((hS'.cell (p:=⟨W.heap.size,0,none⟩) lx).trans x0) (And.intro ((hS'.cell (p:=⟨W.heap.size,1,none⟩) lx).trans x1) ((hS'.cell (p:=⟨W.heap.size,2,none⟩) lx).trans x2))))))))))
   refine bN bT (fun W'=>Below wB.heap.size wB W') (.take 0 (.take 1 (.take 2 (.take 3 (.take 4 (.take 5 (.take 6 (.take 8 (.take 9 (.take 10 (.take 11 (.take 14 (.take 15 (.take 16 (.one 7 (.one 12 (.one 13 (.one 17 (.one 18 (.take 19 (.take 20 .fin))))))))))))))))))))) 21 (by kernel_rfl) (by kernel_rfl) (by kernel_rfl) ⟨rfl,rfl,rfl,Nat.le_refl _,fun _ _=>rfl⟩ ?_
   have bZ:Below wB.heap.size wB wB.drew:=⟨rfl,rfl,rfl,Nat.le_refl _,fun _ _=>rfl⟩
   generalize wB.drew=dW at *
   iterate 14
    refine aF rfl ?_ rfl ?_ ?_
    rotate_left
    ·intro W' hS'
     obtain ⟨s0,s1,s2,s3,s4,s5,s6,s7,s8,s9⟩:=kL.out _ hS'
     go_simp
     try with_reducible rfl
    try simp only [zA,zB,zC,Act.put,zD,zE,zF]
   refine af rfl rfl (fun K hK=>?_)
   go_simp
   refine (HT1.out _ (bZ)).mono ?_
   rintro e gK ⟨rfl,cK⟩
   have hP1:=bZ.trans (cK.mono bZ.size)
   refine hK _ _ ⟨hP1,?_⟩
   clear hK K
   try simp only [zA,zB,zC,Act.put,zD,zE,zF]
   refine af rfl rfl (fun K hK=>?_)
   go_simp
   refine (U9.out _ (hP1)).mono ?_
   rintro e sW ⟨rfl,dK⟩
   have hP2:=hP1.trans (dK.mono hP1.size)
   refine hK _ _ ⟨hP2,?_⟩
   clear hK K
   try simp only [zA,zB,zC,Act.put,zD,zE,zF]
   refine af rfl rfl (fun K hK=>?_)
   go_simp
   refine (HT2.out _ (hP2)).mono ?_
   rintro e YX ⟨rfl,rU⟩
   have hP3:=hP2.trans (rU.mono hP2.size)
   refine hK _ _ ⟨hP3,?_⟩
   clear hK K
   try simp only [zA,zB,zC,Act.put,zD,zE,zF]
   refine af rfl rfl (fun K hK=>?_)
   go_simp
   refine (HT3.out _ (hP3)).mono ?_
   rintro e iW ⟨rfl,jq⟩
   have lY:=hP3.trans (jq.mono hP3.size)
   refine hK _ _ ⟨lY,?_⟩
   clear hK K
   try simp only [zA,zB,zC,Act.put,zD,zE,zF]
   refine af rfl rfl (fun K hK=>?_)
   go_simp
   obtain ⟨pQ,dL⟩ : ∃ q,q=iW.alloc (Obj.cells #[.string tA,.string tB,.string tC,.string tD,.string tA,.string tE] 113):=⟨_,rfl⟩
   have Dg:pQ.heap[iW.heap.size]?=some (Obj.cells #[.string tA,.string tB,.string tC,.string tD,.string tA,.string tE] 113 (0,0)):=by rw [dL];exact World.alloc_heap_new _ _
   have jr:Below iW.heap.size iW pQ:=by rw [dL];exact ae _ _
   have yK:=lY.trans (jr.mono lY.size)
   rw [←dL]
   clear dL
   refine hK _ _ ⟨yK,?_⟩
   clear hK K
   try simp only [zA,zB,zC,Act.put,zD,zE,zF]
   iterate 2
    refine aF rfl ?_ rfl ?_ ?_
    rotate_left
    ·intro W' hS'
     obtain ⟨s0,s1,s2,s3,s4,s5,s6,s7,s8,s9⟩:=kL.out _ hS'
     go_simp
     try with_reducible rfl
    try simp only [zA,zB,zC,Act.put,zD,zE,zF]
   unfold bR
   simp only [List.drop_succ_cons,List.drop_zero]
   have LG:Below W.heap.size W pQ:=dY.out.trans (yK.mono dY.out.size)
   have QZ:=hid (show ∃ x,(aC P k s)[0]?=some x∧qx x (.agg #[.int .i64 (k:Int),.string u,.slice (some ⟨iW.heap.size,0,none⟩) 3 3,.bool false]) pQ from ⟨_,mG.out,mh rfl HU.out rfl CB.out Dg (by decide)⟩)
   have hJv:J 0 pQ:=dh HJ.out ZM.out LG
   obtain ⟨fn,tmps,assign,body,hy,hR⟩:=HY.out 0 Eu.out _ pQ hJv QZ.out
   clear hJv LG g1 g2 FM FN f1 f2 k0 x0 x1 x2
   gi_wp2
   refine hR.mono ?_
   rintro e W9 (⟨rfl,CE,_⟩ | ⟨rfl,pR⟩)
   ·have Ay:=hid CE
    clear CE
    gi_wp2
    go_end0
    exact ⟨⟨_,rfl⟩,.inl (by rw [Ue.out];exact Ay.out)⟩
   ·have Ay:=hid pR
    clear pR
    gi_wp2
    go_end0
    exact ⟨⟨_,rfl⟩,.inr ⟨0,Eu.out,Ay.out⟩⟩
theorem uL {N0:Nat} {vg va vt:Value} {P:bQ} {k:Nat} {s:Stp} {Bs Bl Br B1 B2 Bk Bp:Nat} {vl vr:Value} (hk:k+1<P.lg.length) (hO:dm P) (hs:s.k=3∨s.k=5) (hi:s.j<(ai P (k+1)).length) (hj:s.i≤(ai P k).length) (l:Nat) (J Jx:Nat→World→Prop) (W:World) (hw:Good W) (hE:lF N0 vg va vt P k s Bs Bl Br B1 B2 Bk Bp vl vr W)
  (hJ:kP 97 W.heap.size J)
  (hY:∀ i (_:i<(aC P k s).length) v W1,J i W1→(∃ x,(aC P k s)[i]?=some x∧qx x v W1)→YieldAt Fence.wide 8 Tryz.prog l #[v] W1 fun e W'=>(e=.returned (.bool true)∧J (i+1) W'∧(i+1<(aC P k s).length→iM N0 W1 W'))∨(e=.returned (.bool false)∧Jx i W')) (h0:J 0 W) :
  CallsIn Fence.wide 9 Tryz.prog 104 #[.func (.yield l) #[] #[],.pointer (some ⟨Bs,0,none⟩),.pointer (some ⟨Bl,0,none⟩),.pointer (some ⟨Br,0,none⟩),.pointer (some ⟨B1,0,none⟩),.pointer (some ⟨B2,0,none⟩),.pointer (some ⟨Bk,0,none⟩)] W fun e W'=>(∃ v,e=.returned v)∧(J (aC P k s).length W'∨∃ i,i<(aC P k s).length∧Jx i W'):=by
 have hpq:(aC P k s)[0]?=some (⟨k,(ah (ai P (k+1)) s.j).u,[aG P k (dZ (ai P k) s.i),aG P (k+1) (ah (ai P (k+1)) s.j).b,aG P (k+1) (ah (ai P (k+1)) s.j).a]⟩,false)∧(aC P k s).length=1:=by rw [rT hs];exact ⟨rfl,rfl⟩
 have mG:=hid hpq.1
 have Ue:=hid hpq.2
 have Eu:=hid (show 0<(aC P k s).length by rw [hpq.2];decide)
 have DY:=hO.iv (k+1) s.j hk hi
 have HZX:=hid (And.intro (kK (DY.1.ok (by decide))) (kK (DY.2.ok (by decide))))
 have HZP:=hid (show Sz 1000 (dZ (ai P k) s.i) from OW hO k (by omega) s.i hj)
 have HJR:=hid hj
 have HJ:=hid hJ
 have HY:=hid hY
 have ZM:=hid h0
 obtain ⟨pl,cl,rfl,hcl,gZ⟩:=hE.vL.slice
 obtain ⟨pr,cr,rfl,hcr,aem⟩:=hE.vR.slice
 obtain ⟨b,off,hpe,hbl,c0,c1,c2⟩:=hE.vR.at hi
 subst hpe
 have R4:=(hO.log (k+1) hk).2
 have hsk:(s.k:Int)=3∨(s.k:Int)=5:=by omega
 obtain ⟨wB,iy⟩ : ∃ wB,wB=W.alloc (Obj.cells #[.string (us (ah (ai P (k+1)) s.j).u),.string (tx (ah (ai P (k+1)) s.j).a),.string (tx (ah (ai P (k+1)) s.j).b)] 89):=⟨_,rfl⟩
 obtain ⟨il,lx,x0,x1,x2⟩:=aY iy
 have dY:=hid il
 have xJ:=hid (show Below W.heap.size W wB from il)
 have AA:=hid (hE.below il)
 have nX:=hid iy
 have U9:=hid (fun W' (hb:Below wB.heap.size wB W')=>FK (w:=W') (.slice pl (ai P k).length cl) (ai P k) s.i HJR.out (by have:=hO.log k (by omega);omega) ((hE.vL.below dY.out).below hb))
 have HT1:=hid (fun W' (hb:Below wB.heap.size wB W')=>De (w:=W') vg va vt P k (dZ (ai P k) s.i) Bp Bk (by omega) hO ((hE.pm.below dY.out).below hb) ((hb.block _ (aa AA.out.hp)).trans AA.out.hp) ((hb.block _ (aa AA.out.hk)).trans AA.out.hk) HZP.out (hw.below (xJ.out.trans (hb.mono xJ.out.size))))
 have HT2:=hid (fun W' (hb:Below wB.heap.size wB W')=>Df (w:=W') vg va vt P k (ah (ai P (k+1)) s.j).b Bp Bk hk hO ((hE.pm.below dY.out).below hb) ((hb.block _ (aa AA.out.hp)).trans AA.out.hp) ((hb.block _ (aa AA.out.hk)).trans AA.out.hk) HZX.out.2 (hw.below (xJ.out.trans (hb.mono xJ.out.size))))
 have HT3:=hid (fun W' (hb:Below wB.heap.size wB W')=>Df (w:=W') vg va vt P k (ah (ai P (k+1)) s.j).a Bp Bk hk hO ((hE.pm.below dY.out).below hb) ((hb.block _ (aa AA.out.hp)).trans AA.out.hp) ((hb.block _ (aa AA.out.hk)).trans AA.out.hk) HZX.out.1 (hw.below (xJ.out.trans (hb.mono xJ.out.size))))
 have CB:=hid (show (#[.string (tx (cZ P k)),.string (tx (bG P k-(dZ (ai P k) s.i))),.string (tx (cZ P (k+1))),.string (tx (bG P (k+1)-(ah (ai P (k+1)) s.j).b)),.string (tx (cZ P (k+1))),.string (tx (bG P (k+1)-(ah (ai P (k+1)) s.j).a))]:Array Value).toList=cellsS (([aG P k (dZ (ai P k) s.i),aG P (k+1) (ah (ai P (k+1)) s.j).b,aG P (k+1) (ah (ai P (k+1)) s.j).a]:List QP).map aR) from rfl)
 generalize hnl:(ai P k).length=nl at *
 generalize hnr:(ai P (k+1)).length=nr at *
 unfold RV at U9
 unfold RV xm aG at HT1 HT2 HT3
 dsimp only at HT1 HT2 HT3
 obtain ⟨g0,g1,g2⟩:=az hE.hs
 have FM:=(one_cell hE.hl).1
 have FN:=(one_cell hE.hr).1
 have f1:=(one_cell hE.h1).1
 have f2:=(one_cell hE.h2).1
 have k0:=bL hE.hk
 have ls:=aa hE.hs
 have ll:=aa hE.hl
 have lr:=aa hE.hr
 have l1:=aa hE.h1
 have l2:=aa hE.h2
 have lk:=aa hE.hk
 have aen:=enters_of Tryz.func102 (by kernel_rfl) rfl
 have aeo:=enters_of Tryz.func103 (by kernel_rfl) rfl
 generalize hu:us (ah (ai P (k+1)) s.j).u=u at *
 have HU:=hid hu
 generalize tx (cZ P k)=tA at *
 generalize tx (bG P k-(dZ (ai P k) s.i))=tB at *
 generalize tx (cZ P (k+1))=tC at *
 generalize tx (bG P (k+1)-(ah (ai P (k+1)) s.j).b)=tD at *
 generalize tx (bG P (k+1)-(ah (ai P (k+1)) s.j).a)=tE at *
 generalize tx (ah (ai P (k+1)) s.j).a=ta at *
 generalize tx (ah (ai P (k+1)) s.j).b=tb at *
 generalize tx (dZ (ai P k) s.i)=tp at *
 generalize hgk:s.k=sk at *
 generalize hgi:s.i=si at *
 generalize hgj:s.j=sj at *
 have i1:(0:Int)≤(sj:Int):=by omega
 have i2:(sj:Int)<(nr:Int):=by omega
 clear hpq DY hE hJ hY h0 hj hu iy il hO hw hgi hgj hgk hnl hnr hk
 refine callsIn_of_wp Tryz.func104 rfl trivial ?_ rfl
 simp only [Tryz.ntmps104,List.size_toArray,List.length_cons,List.length_nil,Nat.reduceAdd,Nat.reduceSub,Array.replicate_succ,Array.replicate_zero,List.push_toArray,List.append_toArray,List.nil_append,List.cons_append]
 rcases hsk with hsk | hsk
 iterate 2
  ·rw [hsk] at g0
   clear hs hsk
   gi_upto_region 2 with fail
   rw [←nX.out]
   have g1:=(dY.out.cell (p:=⟨Bs,1,none⟩) ls).trans g1
   have g2:=(dY.out.cell (p:=⟨Bs,2,none⟩) ls).trans g2
   have FM:=(dY.out.cell (p:=⟨Bl,0,none⟩) ll).trans FM
   have FN:=(dY.out.cell (p:=⟨Br,0,none⟩) lr).trans FN
   have f1:=(dY.out.cell (p:=⟨B1,0,none⟩) l1).trans f1
   have f2:=(dY.out.cell (p:=⟨B2,0,none⟩) l2).trans f2
   have k0:=(dY.out.cell (p:=⟨Bk,0,none⟩) lk).trans k0
   have ls:=Nat.lt_of_lt_of_le ls dY.out.size
   have ll:=Nat.lt_of_lt_of_le ll dY.out.size
   have lr:=Nat.lt_of_lt_of_le lr dY.out.size
   have l1:=Nat.lt_of_lt_of_le l1 dY.out.size
   have l2:=Nat.lt_of_lt_of_le l2 dY.out.size
   have lk:=Nat.lt_of_lt_of_le lk dY.out.size
   clear c0 c1 c2 g0
   have kL:=hid (fun W' (hS':Below wB.heap.size wB W')=>And.intro ((hS'.cell (p:=⟨Bs,1,none⟩) ls).trans g1) (And.intro ((hS'.cell (p:=⟨Bs,2,none⟩) ls).trans g2) (And.intro ((hS'.cell (p:=⟨Bl,0,none⟩) ll).trans FM) (And.intro ((hS'.cell (p:=⟨Br,0,none⟩) lr).trans FN) (And.intro ((hS'.cell (p:=⟨B1,0,none⟩) l1).trans f1) (And.intro ((hS'.cell (p:=⟨B2,0,none⟩) l2).trans f2) (And.intro ((hS'.cell (p:=⟨Bk,0,none⟩) lk).trans k0) (And.intro ((hS'.cell (p:=⟨W.heap.size,0,none⟩) lx).trans x0) (And.intro ((hS'.cell (p:=⟨W.heap.size,1,none⟩) lx).trans x1) ((hS'.cell (p:=⟨W.heap.size,2,none⟩) lx).trans x2))))))))))
   refine bN bT (fun W'=>Below wB.heap.size wB W') (.take 0 (.take 1 (.take 2 (.take 3 (.take 4 (.take 5 (.take 6 (.take 7 (.take 10 (.take 11 (.take 12 (.take 14 (.take 15 (.take 16 (.one 8 (.one 9 (.one 13 (.one 17 (.one 18 (.take 19 (.take 20 .fin))))))))))))))))))))) 21 (by kernel_rfl) (by kernel_rfl) (by kernel_rfl) ⟨rfl,rfl,rfl,Nat.le_refl _,fun _ _=>rfl⟩ ?_
   have bZ:Below wB.heap.size wB wB.drew:=⟨rfl,rfl,rfl,Nat.le_refl _,fun _ _=>rfl⟩
   generalize wB.drew=dW at *
   iterate 14
    refine aF rfl ?_ rfl ?_ ?_
    rotate_left
    ·intro W' hS'
     obtain ⟨s0,s1,s2,s3,s4,s5,s6,s7,s8,s9⟩:=kL.out _ hS'
     go_simp
     try with_reducible rfl
    try simp only [zA,zB,zC,Act.put,zD,zE,zF]
   refine af rfl rfl (fun K hK=>?_)
   go_simp
   refine (U9.out _ (bZ)).mono ?_
   rintro e gK ⟨rfl,cK⟩
   have hP1:=bZ.trans (cK.mono bZ.size)
   refine hK _ _ ⟨hP1,?_⟩
   clear hK K
   try simp only [zA,zB,zC,Act.put,zD,zE,zF]
   refine af rfl rfl (fun K hK=>?_)
   go_simp
   refine (HT1.out _ (hP1)).mono ?_
   rintro e sW ⟨rfl,dK⟩
   have hP2:=hP1.trans (dK.mono hP1.size)
   refine hK _ _ ⟨hP2,?_⟩
   clear hK K
   try simp only [zA,zB,zC,Act.put,zD,zE,zF]
   refine af rfl rfl (fun K hK=>?_)
   go_simp
   refine (HT2.out _ (hP2)).mono ?_
   rintro e YX ⟨rfl,rU⟩
   have hP3:=hP2.trans (rU.mono hP2.size)
   refine hK _ _ ⟨hP3,?_⟩
   clear hK K
   try simp only [zA,zB,zC,Act.put,zD,zE,zF]
   refine af rfl rfl (fun K hK=>?_)
   go_simp
   refine (HT3.out _ (hP3)).mono ?_
   rintro e iW ⟨rfl,jq⟩
   have lY:=hP3.trans (jq.mono hP3.size)
   refine hK _ _ ⟨lY,?_⟩
   clear hK K
   try simp only [zA,zB,zC,Act.put,zD,zE,zF]
   refine af rfl rfl (fun K hK=>?_)
   go_simp
   obtain ⟨pQ,dL⟩ : ∃ q,q=iW.alloc (Obj.cells #[.string tA,.string tB,.string tC,.string tD,.string tC,.string tE] 113):=⟨_,rfl⟩
   have Dg:pQ.heap[iW.heap.size]?=some (Obj.cells #[.string tA,.string tB,.string tC,.string tD,.string tC,.string tE] 113 (0,0)):=by rw [dL];exact World.alloc_heap_new _ _
   have jr:Below iW.heap.size iW pQ:=by rw [dL];exact ae _ _
   have yK:=lY.trans (jr.mono lY.size)
   rw [←dL]
   clear dL
   refine hK _ _ ⟨yK,?_⟩
   clear hK K
   try simp only [zA,zB,zC,Act.put,zD,zE,zF]
   iterate 2
    refine aF rfl ?_ rfl ?_ ?_
    rotate_left
    ·intro W' hS'
     obtain ⟨s0,s1,s2,s3,s4,s5,s6,s7,s8,s9⟩:=kL.out _ hS'
     go_simp
     try with_reducible rfl
    try simp only [zA,zB,zC,Act.put,zD,zE,zF]
   unfold bR
   simp only [List.drop_succ_cons,List.drop_zero]
   have LG:Below W.heap.size W pQ:=dY.out.trans (yK.mono dY.out.size)
   have QZ:=hid (show ∃ x,(aC P k s)[0]?=some x∧qx x (.agg #[.int .i64 (k:Int),.string u,.slice (some ⟨iW.heap.size,0,none⟩) 3 3,.bool false]) pQ from ⟨_,mG.out,mh rfl HU.out rfl CB.out Dg (by decide)⟩)
   have hJv:J 0 pQ:=dh HJ.out ZM.out LG
   obtain ⟨fn,tmps,assign,body,hy,hR⟩:=HY.out 0 Eu.out _ pQ hJv QZ.out
   clear hJv LG g1 g2 FM FN f1 f2 k0 x0 x1 x2
   gi_wp2
   refine hR.mono ?_
   rintro e W9 (⟨rfl,CE,_⟩ | ⟨rfl,pR⟩)
   ·have Ay:=hid CE
    clear CE
    gi_wp2
    go_end0
    exact ⟨⟨_,rfl⟩,.inl (by rw [Ue.out];exact Ay.out)⟩
   ·have Ay:=hid pR
    clear pR
    gi_wp2
    go_end0
    exact ⟨⟨_,rfl⟩,.inr ⟨0,Eu.out,Ay.out⟩⟩
end Go.Proofs.YtglncfkoohgdaaaGreatDoor
