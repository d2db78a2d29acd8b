import Derived.Test.YtgohnjdgoglcfaaGreatDoorU5Z
import Derived.Test.YtgohnjdgoglcfaaGreatDoorBxZ
namespace Go.Proofs.YtgohnjdgoglcfaaGreatDoor
open Go.RowKit Go.Shelf
open Go.Lib (decDigits itoa nDigits)
def mnTo (f:QP→Rat) (P:List QP):Nat→Rat
 | 0=>f (pt P 0)
 | k+1=>if f (pt P k)<mnTo f P k then f (pt P k) else mnTo f P k
def mxTo (f:QP→Rat) (P:List QP):Nat→Rat
 | 0=>f (pt P 0)
 | k+1=>if mxTo f P k<f (pt P k) then f (pt P k) else mxTo f P k
theorem mnTo_sz {f:QP→Rat} {P:List QP} {n:Nat} (h0:0<P.length) (h:∀ p∈P,Sz n (f p)):∀ k,k≤P.length→Sz n (mnTo f P k)
 | 0,_=>h _ (pt_mem h0)
 | k+1,hk=>by
  unfold mnTo
  split
  ·exact h _ (pt_mem hk)
  ·exact mnTo_sz h0 h k (by omega)
theorem mxTo_sz {f:QP→Rat} {P:List QP} {n:Nat} (h0:0<P.length) (h:∀ p∈P,Sz n (f p)):∀ k,k≤P.length→Sz n (mxTo f P k)
 | 0,_=>h _ (pt_mem h0)
 | k+1,hk=>by
  unfold mxTo
  split
  ·exact h _ (pt_mem hk)
  ·exact mxTo_sz h0 h k (by omega)
structure BxC (b:Nat) (l1 l2 h1 h2:ByteArray) (W:World):Prop where
 lo:W.heap[b]?=some (.cells #[.string l1,.string l2] 31 (0,0))
 hi:W.heap[b+1]?=some (.cells #[.string h1,.string h2] 31 (0,0))
theorem BxC.below {b:Nat} {l1 l2 h1 h2:ByteArray} {W W':World} (h:BxC b l1 l2 h1 h2 W) (hb:Below (b+2) W W'):BxC b l1 l2 h1 h2 W':=
 ⟨(hb.block _ (by omega)).trans h.lo,(hb.block _ (by omega)).trans h.hi⟩
theorem BxC.setLo {b:Nat} {l1 l2 h1 h2:ByteArray} {W:World} (h:BxC b l1 l2 h1 h2 W) (x y:ByteArray):BxC b x y h1 h2 ((W.setCell ⟨b,0,none⟩ (.string x)).setCell ⟨b,1,none⟩ (.string y)):=
 ⟨two_set1 _ (two_set0 _ h.lo),by rw [Below.heap_setCell _ _ _ _ (by show b+1≠b;omega),Below.heap_setCell _ _ _ _ (by show b+1≠b;omega)];exact h.hi⟩
theorem BxC.setHi {b:Nat} {l1 l2 h1 h2:ByteArray} {W:World} (h:BxC b l1 l2 h1 h2 W) (x y:ByteArray):BxC b l1 l2 x y ((W.setCell ⟨b+1,0,none⟩ (.string x)).setCell ⟨b+1,1,none⟩ (.string y)):=
 ⟨by rw [Below.heap_setCell _ _ _ _ (by show b≠b+1;omega),Below.heap_setCell _ _ _ _ (by show b≠b+1;omega)];exact h.lo,two_set1 _ (two_set0 _ h.hi)⟩
theorem below_two {n b:Nat} {A W:World} (h:Below n A W) (hn:n≤b) (x y:Value):Below n A ((W.setCell ⟨b,0,none⟩ x).setCell ⟨b,1,none⟩ y):=
 (h.setCell (p:=⟨b,0,none⟩) hn x).setCell (p:=⟨b,1,none⟩) hn y
theorem boxes_box {w wA:World} (hwA:wA=(w.alloc (Obj.cells #[.string ⟨#[]⟩,.string ⟨#[]⟩] 31)).alloc (Obj.cells #[.string ⟨#[]⟩,.string ⟨#[]⟩] 31)) :
  Below w.heap.size w wA∧wA.heap.size=w.heap.size+2∧BxC w.heap.size ⟨#[]⟩ ⟨#[]⟩ ⟨#[]⟩ ⟨#[]⟩ wA:=by
 obtain ⟨hb,x1,x2⟩:=boxes2 hwA
 exact ⟨hb,by rw [hwA];simp,x1,x2⟩
def BoxV (P:List QP):Value:=.tuple #[.agg #[.string (tx (mnTo (·.1) P P.length)),.string (tx (mnTo (·.2) P P.length))],.agg #[.string (tx (mxTo (·.1) P P.length)),.string (tx (mxTo (·.2) P P.length))],.int .i64 0]
set_option maxRecDepth 100000 in
set_option maxHeartbeats 8000000 in
theorem pg_Box (v:Value) (P:List QP) (hP:Poly P) (h60:P.length≤60) (hz:∀ p∈P,OkB p.1∧OkB p.2) (w:World) (hw:Good w) (hv:Pts w v P) :
  Calls Tryz.prog 25 #[v] w (RV (BoxV P) w):=by
 have h3:=hP.1.1
 have hz2:∀ p∈P,Sz2 402 p:=fun p hp=>okP_sz (hz p hp)
 have HCK:=Lib.hid (fun w' (hg:Good w') (hp:Pts w' v P)=>pg_checkP v P h3 h60 hz w' hg hp)
 rw [polyC_poly hP] at HCK
 have hnx:∀ k,k≤P.length→Sz 402 (mnTo (·.1) P k):=mnTo_sz (by omega) (fun p hp=>(hz2 p hp).1)
 have hny:∀ k,k≤P.length→Sz 402 (mnTo (·.2) P k):=mnTo_sz (by omega) (fun p hp=>(hz2 p hp).2)
 have hxx:∀ k,k≤P.length→Sz 402 (mxTo (·.1) P k):=mxTo_sz (by omega) (fun p hp=>(hz2 p hp).1)
 have hxy:∀ k,k≤P.length→Sz 402 (mxTo (·.2) P k):=mxTo_sz (by omega) (fun p hp=>(hz2 p hp).2)
 have HN1:=Lib.hid (fun k (hk:k<P.length) w' (hg:Good w')=>k_min (mnTo (·.1) P k) (pt P k).1 ((hnx k (by omega)).mono (by decide)) ((hz2 _ (pt_mem hk)).1.mono (by decide)) w' hg)
 have HN2:=Lib.hid (fun k (hk:k<P.length) w' (hg:Good w')=>k_min (mnTo (·.2) P k) (pt P k).2 ((hny k (by omega)).mono (by decide)) ((hz2 _ (pt_mem hk)).2.mono (by decide)) w' hg)
 have HX1:=Lib.hid (fun k (hk:k<P.length) w' (hg:Good w')=>k_max (mxTo (·.1) P k) (pt P k).1 ((hxx k (by omega)).mono (by decide)) ((hz2 _ (pt_mem hk)).1.mono (by decide)) w' hg)
 have HX2:=Lib.hid (fun k (hk:k<P.length) w' (hg:Good w')=>k_max (mxTo (·.2) P k) (pt P k).2 ((hxy k (by omega)).mono (by decide)) ((hz2 _ (pt_mem hk)).2.mono (by decide)) w' hg)
 unfold RV at HCK HN1 HN2 HX1 HX2
 obtain ⟨p,c,rfl,hcl,hcm⟩:=hv.slice
 unfold maxLen at hcm
 have HV:=Lib.hid hv
 obtain ⟨b,off,rfl,hbl,hcell⟩:=Pts.cells hv (by omega)
 have HCL:=Lib.hid (fun i (hi:i<P.length) wx (h:Below w.heap.size w wx)=>And.intro ((h.cell (p:=⟨b,off+i*2,none⟩) hbl).trans (hcell i hi).1) ((h.cell (p:=⟨b,off+i*2+1,none⟩) hbl).trans (hcell i hi).2))
 clear hv hz hz2 hnx hny hxx hxy hP hcell
 unfold BoxV
 obtain ⟨wA,hwA⟩ : ∃ wA,wA=(w.alloc (Obj.cells #[.string ⟨#[]⟩,.string ⟨#[]⟩] 31)).alloc (Obj.cells #[.string ⟨#[]⟩,.string ⟨#[]⟩] 31):=⟨_,rfl⟩
 have HWA:=Lib.hid hwA
 obtain ⟨hbA,hsA,hBX⟩:=boxes_box hwA
 have HBX:=Lib.hid hBX
 have hsA':w.heap.size+2≤wA.heap.size:=by omega
 clear hwA hsA hBX
 go_enter Tryz.func25,Tryz.ntmps25
 go_upto_region 1 with fail
 rw [←HWA.out]
 go_wp2_with fail
 refine (HCK.out _ (hw.below hbA) (HV.out.below hbA)).mono ?_
 rintro e w1 ⟨rfl,hb1⟩
 have hb01:=hbA.trans (hb1.mono hbA.size)
 have HBX1:=Lib.hid (HBX.out.below (hb1.mono hsA'))
 have hs1:w.heap.size+2≤w1.heap.size:=Nat.le_trans hsA' hb1.size
 have hbl1:b<w1.heap.size:=Nat.lt_of_lt_of_le hbl hb01.size
 obtain ⟨c0,c1⟩:=HCL.out 0 (by omega) w1 hb01
 simp only [Nat.zero_mul,Nat.add_zero] at c0 c1
 have i0:(0:Int)<(P.length:Int):=by omega
 have i0n:0<P.length:=by omega
 clear HCK HBX HWA
 generalize hp1:tx (pt P 0).1=p1 at *
 generalize hp2:tx (pt P 0).2=p2 at *
 have HPE:=Lib.hid (And.intro hp1 hp2)
 clear hp1 hp2
 go_wp2_with fail
 have hR0:Below w1.heap.size w1 w1.drew:=⟨rfl,rfl,rfl,Nat.le_refl _,fun _ _=>rfl⟩
 have HB2:=Lib.hid (((HBX1.out.below (hR0.mono hs1)).setLo p1 p2).setHi p1 p2)
 have hb2:=below_two (b:=w.heap.size+1) (below_two (b:=w.heap.size) (hb01.trans (hR0.mono hb01.size)) (Nat.le_refl _) (.string p1) (.string p2)) (Nat.le_succ _) (.string p1) (.string p2)
 obtain ⟨y0,y1,y2,y3⟩:=two_cells HBX1.out.lo
 obtain ⟨y4,y5,y6,y7⟩:=two_cells HBX1.out.hi
 go_region
 obtain ⟨u2,hu2⟩ : ∃ u2,u2=((((w1.setCell ⟨w.heap.size,0,none⟩ (.string p1)).setCell ⟨w.heap.size,1,none⟩ (.string p2)).setCell ⟨w.heap.size+1,0,none⟩ (.string p1)).setCell ⟨w.heap.size+1,1,none⟩ (.string p2)).drew:=⟨_,rfl⟩
 rw [←hu2]
 replace HB2:Hid (BxC w.heap.size p1 p2 p1 p2 u2):=Lib.hid (by rw [hu2];exact HB2.out)
 replace hb2:Below w.heap.size w u2:=by rw [hu2];exact hb2
 have hs2:w.heap.size+2≤u2.heap.size:=by rw [hu2];simpa [World.setCell,World.drew] using hs1
 have HST:=Lib.hid (And.intro (show mnTo (·.1) P 0=(pt P 0).1 from rfl) (And.intro (show mnTo (·.2) P 0=(pt P 0).2 from rfl) (And.intro (show mxTo (·.1) P 0=(pt P 0).1 from rfl) (show mxTo (·.2) P 0=(pt P 0).2 from rfl))))
 clear hu2 c0 c1 hbl1 y0 y1 y2 y3 y4 y5 y6 y7
 go_wp2_with fail
 go_loopw [23] (fun iv wr=>∃ k:Nat,k≤P.length∧iv=.int .i64 (k:Int)∧BxC w.heap.size (tx (mnTo (·.1) P k)) (tx (mnTo (·.2) P k)) (tx (mxTo (·.1) P k)) (tx (mxTo (·.2) P k)) wr∧Below w.heap.size w wr∧w.heap.size+2≤wr.heap.size) (fun iv _=>P.length-(intOf iv).toNat)
 case atStart=>exact ⟨0,Nat.zero_le _,rfl,by rw [HST.out.1,HST.out.2.1,HST.out.2.2.1,HST.out.2.2.2,HPE.out.1,HPE.out.2];exact HB2.out,hb2,hs2⟩
 case round =>
  clear hb2 hs2 HB2 HST
  obtain ⟨k,hkl,rfl,hbx,hbr,hsr⟩:=hrel
  have HBX:=Lib.hid hbx
  clear hbx
  by_cases hk:k<P.length
  ·have hkn:decide ((k:Int)<(P.length:Int))=true:=decide_eq_true (by omega)
   have i1:(0:Int)≤(k:Int):=by omega
   have i2:(k:Int)<(P.length:Int):=by omega
   obtain ⟨c0,c1⟩:=HCL.out k hk wr hbr
   have N1:=Lib.hid (HN1.out k hk)
   have N2:=Lib.hid (HN2.out k hk)
   have X1:=Lib.hid (HX1.out k hk)
   have X2:=Lib.hid (HX2.out k hk)
   have S1:=Lib.hid (show mnTo (·.1) P (k+1)=if (pt P k).1<mnTo (·.1) P k then (pt P k).1 else mnTo (·.1) P k from rfl)
   have S2:=Lib.hid (show mnTo (·.2) P (k+1)=if (pt P k).2<mnTo (·.2) P k then (pt P k).2 else mnTo (·.2) P k from rfl)
   have S3:=Lib.hid (show mxTo (·.1) P (k+1)=if mxTo (·.1) P k<(pt P k).1 then (pt P k).1 else mxTo (·.1) P k from rfl)
   have S4:=Lib.hid (show mxTo (·.2) P (k+1)=if mxTo (·.2) P k<(pt P k).2 then (pt P k).2 else mxTo (·.2) P k from rfl)
   rw [←S1.out] at N1
   rw [←S2.out] at N2
   rw [←S3.out] at X1
   rw [←S4.out] at X2
   clear S1 S2 S3 S4
   generalize tx (pt P k).1=p1 at *
   generalize tx (pt P k).2=p2 at *
   generalize tx (mnTo (·.1) P k)=a1 at *
   generalize tx (mnTo (·.2) P k)=a2 at *
   generalize tx (mxTo (·.1) P k)=b1 at *
   generalize tx (mxTo (·.2) P k)=b2 at *
   generalize hn1:tx (mnTo (·.1) P (k+1))=a1' at *
   generalize hn2:tx (mnTo (·.2) P (k+1))=a2' at *
   generalize hx1:tx (mxTo (·.1) P (k+1))=b1' at *
   generalize hx2:tx (mxTo (·.2) P (k+1))=b2' at *
   have HNM:=Lib.hid (And.intro hn1 (And.intro hn2 (And.intro hx1 hx2)))
   clear hn1 hn2 hx1 hx2
   go_upto_region 8 with fail
   obtain ⟨wC,hwwC⟩ : ∃ wC,wC=wr.alloc (Obj.cells #[.string p1,.string p2] 31):=⟨_,rfl⟩
   have hsC:wC.heap.size=wr.heap.size+1:=by rw [hwwC];simp
   obtain ⟨hbwC,hxC⟩:=box_any hwwC
   rw [←hwwC]
   clear hwwC c0 c1
   have hbC:=hbr.trans (hbwC.mono hbr.size)
   have HBC:=Lib.hid (HBX.out.below (hbwC.mono hsr))
   have hsC':w.heap.size+2≤wC.heap.size:=by omega
   have lA:w.heap.size<wC.heap.size:=by omega
   have lB:w.heap.size+1<wC.heap.size:=by omega
   have lC:wr.heap.size<wC.heap.size:=by omega
   have hneq:wr.heap.size≠w.heap.size:=by omega
   have hneq1:wr.heap.size≠w.heap.size+1:=by omega
   have HXC:=Lib.hid hxC
   clear hsC hxC
   obtain ⟨g0,g1,_,_⟩:=two_cells HBC.out.lo
   obtain ⟨z0,z1,_,_⟩:=two_cells HXC.out
   have lQ:=lA
   go_wp2_with fail
   refine wp_held_list (fun W'=>Below wC.heap.size wC W') [0,1,2,3,5,6,7,8] [4,9] 10 (by kernel_rfl) (by kernel_rfl) ⟨rfl,rfl,rfl,Nat.le_refl _,fun _ _=>rfl⟩ ?_
   iterate 8
    refine wpTakeL_step rfl ?_ rfl ?_ ?_
    rotate_left
    ·intro W' hS'
     have s0:=(hS'.cell (p:=⟨w.heap.size,0,none⟩) lQ).trans g0
     have s1:=(hS'.cell (p:=⟨w.heap.size,1,none⟩) lQ).trans g1
     have s2:=(hS'.cell (p:=⟨wr.heap.size,0,none⟩) lC).trans z0
     have s3:=(hS'.cell (p:=⟨wr.heap.size,1,none⟩) lC).trans z1
     go_simp
     try with_reducible rfl
    try simp only [zA,zB,zC,Act.put,zD,zE,zF]
   have hwC0:Below wC.heap.size wC wC.drew:=⟨rfl,rfl,rfl,Nat.le_refl _,fun _ _=>rfl⟩
   refine wpKeepL_step rfl rfl (fun K hK=>?_)
   go_simp
   refine (N1.out _ (hw.below (hbC.trans (hwC0.mono hbC.size)))).mono ?_
   rintro e u81 ⟨rfl,hbu81⟩
   have hwC1:=hwC0.trans (hbu81.mono hwC0.size)
   refine hK _ _ ⟨hwC1,?_⟩
   clear hK K
   try simp only [zA,zB,zC,Act.put,zD,zE,zF]
   refine wpKeepL_step rfl rfl (fun K hK=>?_)
   go_simp
   refine (N2.out _ (hw.below (hbC.trans (hwC1.mono hbC.size)))).mono ?_
   rintro e u82 ⟨rfl,hbu82⟩
   have hwC2:=hwC1.trans (hbu82.mono hwC1.size)
   refine hK _ _ ⟨hwC2,?_⟩
   clear hK K
   try simp only [zA,zB,zC,Act.put,zD,zE,zF]
   have HBD:=Lib.hid ((HBC.out.below (hwC2.mono hsC')).setLo a1' a2')
   have HXD:=Lib.hid ((hwC2.block _ lC).trans HXC.out)
   have hbD:=below_two (b:=w.heap.size) (hbC.trans (hwC2.mono hbC.size)) (Nat.le_refl _) (.string a1') (.string a2')
   have hsD:u82.heap.size≥wC.heap.size:=hwC2.size
   obtain ⟨wD,hwD⟩ : ∃ wD,wD=(u82.setCell ⟨w.heap.size,0,none⟩ (.string a1')).setCell ⟨w.heap.size,1,none⟩ (.string a2'):=⟨_,rfl⟩
   have hsz:wD.heap.size=u82.heap.size:=by rw [hwD];simp [World.setCell]
   have HXD2:Hid (wD.heap[wr.heap.size]?=some (.cells #[.string p1,.string p2] 31 (0,0))):=Lib.hid (by rw [hwD,Below.heap_setCell _ _ _ _ hneq,Below.heap_setCell _ _ _ _ hneq];exact HXD.out)
   have HWD:=Lib.hid hwD
   rw [←hwD] at HBD hbD
   have hsD':wC.heap.size≤wD.heap.size:=by rw [hsz];exact hsD
   obtain ⟨y0,y1,y2,y3⟩:=two_cells (HBC.out.below (hwC2.mono hsC')).lo
   clear hwD hsz hsD HXD g0 g1 z0 z1
   unfold wpKeepL
   simp only [List.drop_succ_cons,List.drop_zero]
   try simp only [zA,zB,zC,Act.put,zD,zE,zF]
   refine wpKeep_step rfl (fun K hK=>?_)
   go_simp
   refine hK _ _ ⟨trivial,?_⟩
   clear hK K
   try simp only [zA,zB,zC,Act.put,zD,zE,zF]
   refine wpKeep_step rfl (fun K hK=>?_)
   go_simp
   refine hK _ _ ⟨trivial,wpKeep_nil ?_⟩
   clear hK K
   try simp only [zA,zB,zC,Act.put,zD,zE,zF]
   refine NormalOnly.mk ?_
   rw [←HWD.out]
   have lA2:w.heap.size+1<wD.heap.size:=by omega
   have lC2:wr.heap.size<wD.heap.size:=by omega
   have hsD2:w.heap.size+2≤wD.heap.size:=by omega
   clear HWD y0 y1 y2 y3 lQ lC
   have lQ:=lA2
   have lC:=lC2
   obtain ⟨g0,g1,_,_⟩:=two_cells HBD.out.hi
   obtain ⟨z0,z1,_,_⟩:=two_cells HXD2.out
   go_wp2_with fail
   refine wp_held_list (fun W'=>Below wD.heap.size wD W') [0,1,2,3,5,6,7,8] [4,9] 10 (by kernel_rfl) (by kernel_rfl) ⟨rfl,rfl,rfl,Nat.le_refl _,fun _ _=>rfl⟩ ?_
   iterate 8
    refine wpTakeL_step rfl ?_ rfl ?_ ?_
    rotate_left
    ·intro W' hS'
     have s0:=(hS'.cell (p:=⟨w.heap.size+1,0,none⟩) lQ).trans g0
     have s1:=(hS'.cell (p:=⟨w.heap.size+1,1,none⟩) lQ).trans g1
     have s2:=(hS'.cell (p:=⟨wr.heap.size,0,none⟩) lC).trans z0
     have s3:=(hS'.cell (p:=⟨wr.heap.size,1,none⟩) lC).trans z1
     go_simp
     try with_reducible rfl
    try simp only [zA,zB,zC,Act.put,zD,zE,zF]
   have hwD0:Below wD.heap.size wD wD.drew:=⟨rfl,rfl,rfl,Nat.le_refl _,fun _ _=>rfl⟩
   refine wpKeepL_step rfl rfl (fun K hK=>?_)
   go_simp
   refine (X1.out _ (hw.below (hbD.trans (hwD0.mono hbD.size)))).mono ?_
   rintro e u91 ⟨rfl,hbu91⟩
   have hwD1:=hwD0.trans (hbu91.mono hwD0.size)
   refine hK _ _ ⟨hwD1,?_⟩
   clear hK K
   try simp only [zA,zB,zC,Act.put,zD,zE,zF]
   refine wpKeepL_step rfl rfl (fun K hK=>?_)
   go_simp
   refine (X2.out _ (hw.below (hbD.trans (hwD1.mono hbD.size)))).mono ?_
   rintro e u92 ⟨rfl,hbu92⟩
   have hwD2:=hwD1.trans (hbu92.mono hwD1.size)
   refine hK _ _ ⟨hwD2,?_⟩
   clear hK K
   try simp only [zA,zB,zC,Act.put,zD,zE,zF]
   have HBE:=Lib.hid ((HBD.out.below (hwD2.mono hsD2)).setHi b1' b2')
   have hbE:=below_two (b:=w.heap.size+1) (hbD.trans (hwD2.mono hbD.size)) (Nat.le_succ _) (.string b1') (.string b2')
   obtain ⟨wE,hwE⟩ : ∃ wE,wE=(u92.setCell ⟨w.heap.size+1,0,none⟩ (.string b1')).setCell ⟨w.heap.size+1,1,none⟩ (.string b2'):=⟨_,rfl⟩
   have hsE:w.heap.size+2≤wE.heap.size:=by rw [hwE];simpa [World.setCell] using Nat.le_trans hsD2 hwD2.size
   have HWE:=Lib.hid hwE
   rw [←hwE] at HBE hbE
   obtain ⟨y0,y1,y2,y3⟩:=two_cells (HBD.out.below (hwD2.mono hsD2)).hi
   clear hwE g0 g1 z0 z1
   unfold wpKeepL
   simp only [List.drop_succ_cons,List.drop_zero]
   try simp only [zA,zB,zC,Act.put,zD,zE,zF]
   refine wpKeep_step rfl (fun K hK=>?_)
   go_simp
   refine hK _ _ ⟨trivial,?_⟩
   clear hK K
   try simp only [zA,zB,zC,Act.put,zD,zE,zF]
   refine wpKeep_step rfl (fun K hK=>?_)
   go_simp
   refine hK _ _ ⟨trivial,wpKeep_nil ?_⟩
   clear hK K
   try simp only [zA,zB,zC,Act.put,zD,zE,zF]
   refine NormalOnly.mk ?_
   rw [←HWE.out]
   clear y0 y1 y2 y3
   go_wp2
   refine ⟨⟨k+1,hk,int_succ k,by rw [HNM.out.1,HNM.out.2.1,HNM.out.2.2.1,HNM.out.2.2.2];exact HBE.out,hbE,hsE⟩,?_⟩
   show P.length-((k:Int)+1).toNat<P.length-((k:Int)).toNat
   omega
  ·have hkn:decide ((k:Int)<(P.length:Int))=false:=decide_eq_false (by omega)
   have e:k=P.length:=by omega
   subst e
   generalize hn1:tx (mnTo (·.1) P P.length)=a1 at *
   generalize hn2:tx (mnTo (·.2) P P.length)=a2 at *
   generalize hx1:tx (mxTo (·.1) P P.length)=b1 at *
   generalize hx2:tx (mxTo (·.2) P P.length)=b2 at *
   have HNM:=Lib.hid (And.intro hn1 (And.intro hn2 (And.intro hx1 hx2)))
   clear hn1 hn2 hx1 hx2
   have lA:w.heap.size<wr.heap.size:=by omega
   have lB:w.heap.size+1<wr.heap.size:=by omega
   obtain ⟨g0,g1,g2,g3⟩:=two_cells HBX.out.lo
   obtain ⟨z0,z1,z2,z3⟩:=two_cells HBX.out.hi
   go_wp2_with fail
   go_region
   go_wp2
   have HF:=Lib.hid ((HBX.out.setLo a1 a2).setHi b1 b2)
   have hbF:=below_two (b:=w.heap.size+1) (below_two (b:=w.heap.size) hbr (Nat.le_refl _) (.string a1) (.string a2)) (Nat.le_succ _) (.string b1) (.string b2)
   obtain ⟨g0,g1,g2,g3⟩:=two_cells HF.out.lo
   obtain ⟨z0,z1,z2,z3⟩:=two_cells HF.out.hi
   refine bodyPost_ret (v:=.tuple #[.agg #[.string a1,.string a2],.agg #[.string b1,.string b2],.int .i64 0]) (by simp [results,Tryz.results25,go_sem,g0,g1,z0,z1]) rfl ⟨?_,?_⟩
   ·rw [HNM.out.1,HNM.out.2.1,HNM.out.2.2.1,HNM.out.2.2.2]
   ·exact hbF.trans ⟨rfl,rfl,rfl,Nat.le_refl _,fun _ _=>rfl⟩
end Go.Proofs.YtgohnjdgoglcfaaGreatDoor
