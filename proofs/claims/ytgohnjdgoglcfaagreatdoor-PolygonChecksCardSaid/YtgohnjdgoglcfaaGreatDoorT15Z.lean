import Derived.Test.YtgohnjdgoglcfaaGreatDoorT13Z
set_option maxRecDepth 100000
set_option maxHeartbeats 8000000
namespace Go.Proofs.YtgohnjdgoglcfaaGreatDoor
open Go.RowKit Go.Shelf
open Go.Lib (decDigits itoa nDigits)
open Go.Lib (hid)
theorem pg_doubled (v:Value) (P:List QP) (h2:2≤P.length) (hn:P.length≤1000) (hz:∀ p∈P,Sz2 1000000 p) (hA:∀ k,k+2≤P.length→Sz 900000000 (areaTo P k)) (w:World) (hw:Good w) (hv:Pts w v P) :
  Calls Tryz.prog 78 #[v] w (RV (.string (tx (areaP P))) w):=by
 have HAR:=hid (fun i (hi:i<P.length) j (hj:j<P.length) k (hk:k<P.length) w' (hg:Good w')=>pg_area (pt P i) (pt P j) (pt P k) (hz _ (pt_mem hi)) (hz _ (pt_mem hj)) (hz _ (pt_mem hk)) w' hg)
 have HAD:=hid (fun k (hk:k+2<P.length) w' (hg:Good w')=>k_add (areaTo P k) (crs (pt P 0) (pt P (k+1)) (pt P (k+2))) ((hA k (by omega)).mono (by decide)) ((sz_crs (hz _ (pt_mem (show 0<P.length by omega))) (hz _ (pt_mem (show k+1<P.length by omega))) (hz _ (pt_mem hk))).mono (by decide)) w' hg)
 unfold RV at HAR HAD
 unfold ptV at HAR
 have HT0:=hid (show (⟨#[48]⟩ : ByteArray)=tx (areaTo P 0) from tx0.symm)
 obtain ⟨p,c,rfl,hcl,hcm⟩:=hv.slice
 unfold maxLen at hcm
 obtain ⟨B,off,rfl,hbl,hcell⟩:=Pts.cells hv (by omega)
 have HCL:=hid (fun i (hi:i<P.length) wx (h:Below w.heap.size w wx)=>And.intro ((h.cell (p:=⟨B,off+i*2,none⟩) hbl).trans (hcell i hi).1) ((h.cell (p:=⟨B,off+i*2+1,none⟩) hbl).trans (hcell i hi).2))
 have hbw:=Below.refl w.heap.size w
 clear hz hv hcell hA
 go_enter Tryz.func78,Tryz.ntmps78
 go_wp2_with fail
 go_loopw [3,4] (fun sv iv wr=>∃ (k:Nat) (s:ByteArray),k+2≤P.length∧s=tx (areaTo P k)∧sv=.string s∧iv=.int .i64 ((k+1:Nat):Int)∧Below w.heap.size w wr) (fun _ iv _=>P.length-(intOf iv).toNat)
 case atStart=>exact ⟨0,_,h2,HT0.out,rfl,rfl,hbw⟩
 case round =>
  obtain ⟨k,s,hk2,hs,rfl,rfl,hbr⟩:=hrel
  have HS:=hid hs
  clear hs
  have m1:IntKind.i64.wrap ((k:Int)+1+1)=(k:Int)+1+1:=IntWalk.i64_in _ (by omega)
  by_cases hk:k+1+1<P.length
  ·have hkn:decide ((k:Int)+1+1<(P.length:Int))=true:=decide_eq_true (by omega)
   obtain ⟨a0,a1⟩:=HCL.out 0 (by omega) wr hbr
   obtain ⟨b0,b1⟩:=HCL.out (k+1) (by omega) wr hbr
   obtain ⟨c0,c1⟩:=HCL.out (k+1+1) (by omega) wr hbr
   rw [Nat.zero_mul,Nat.add_zero] at a0 a1
   have hblr:B<wr.heap.size:=Nat.lt_of_lt_of_le hbl hbr.size
   have m1:IntKind.i64.wrap ((k:Int)+1+1)=(k:Int)+1+1:=IntWalk.i64_in _ (by omega)
   have m2:(0:Int)≤(k:Int)+1:=by omega
   have m3:(k:Int)+1<(P.length:Int):=by omega
   have m4:(0:Int)≤(k:Int)+1+1:=by omega
   have m5:(k:Int)+1+1<(P.length:Int):=by omega
   have m6:((k:Int)+1).toNat=k+1:=by omega
   have m7:((k:Int)+1+1).toNat=k+1+1:=by omega
   have m8:k+1<P.length:=by omega
   have m9:k+1+1<P.length:=by omega
   have m10:0<P.length:=by omega
   have H1:=hid (HAR.out 0 m10 (k+1) m8 (k+1+1) m9)
   have H2:=hid (HAD.out k hk)
   rw [←HS.out] at H2
   obtain ⟨s2,hs2⟩ : ∃ s2,s2=tx (areaTo P (k+1)):=⟨_,rfl⟩
   have HS2:=hid hs2
   rw [show areaTo P k+crs (pt P 0) (pt P (k+1)) (pt P (k+2))=areaTo P (k+1) from rfl,←hs2] at H2
   clear hs2
   rw [show k+2=k+1+1 from rfl] at H2
   generalize tx (crs (pt P 0) (pt P (k+1)) (pt P (k+1+1)))=t at *
   generalize tx (pt P 0).1=x1 at *
   generalize tx (pt P 0).2=x2 at *
   generalize tx (pt P (k+1)).1=y1 at *
   generalize tx (pt P (k+1)).2=y2 at *
   generalize tx (pt P (k+1+1)).1=z1 at *
   generalize tx (pt P (k+1+1)).2=z2 at *
   go_wp2_with fail
   refine wp_held_list (fun W'=>Below wr.heap.size wr W') [0,1,2,3,4,5,6,7,8,9,10,11,12] [13,14] 15 (by kernel_rfl) (by kernel_rfl) ⟨rfl,rfl,rfl,Nat.le_refl _,fun _ _=>rfl⟩ ?_
   iterate 13
    refine wpTakeL_step rfl ?_ rfl ?_ ?_
    rotate_left
    ·intro W' hS'
     have s0:=(hS'.cell (p:=⟨B,off,none⟩) hblr).trans a0
     have s1:=(hS'.cell (p:=⟨B,off+1,none⟩) hblr).trans a1
     have s2:=(hS'.cell (p:=⟨B,off+(k+1)*2,none⟩) hblr).trans b0
     have s3:=(hS'.cell (p:=⟨B,off+(k+1)*2+1,none⟩) hblr).trans b1
     have s4:=(hS'.cell (p:=⟨B,off+(k+1+1)*2,none⟩) hblr).trans c0
     have s5:=(hS'.cell (p:=⟨B,off+(k+1+1)*2+1,none⟩) hblr).trans c1
     go_simp
     try with_reducible rfl
    try simp only [zA,zB,zC,Act.put,zD,zE,zF]
   have hR0:Below wr.heap.size wr wr.drew:=⟨rfl,rfl,rfl,Nat.le_refl _,fun _ _=>rfl⟩
   refine wpKeepL_step rfl rfl (fun K hK=>?_)
   go_simp
   refine (H1.out _ (hw.below (hbr.trans (hR0.mono hbr.size)))).mono ?_
   rintro e u1 ⟨rfl,hbu1⟩
   have hR1:=hR0.trans (hbu1.mono hR0.size)
   refine hK _ _ ⟨hR1,?_⟩
   clear hK K
   try simp only [zA,zB,zC,Act.put,zD,zE,zF]
   refine wpKeepL_step rfl rfl (fun K hK=>?_)
   go_simp
   refine (H2.out _ (hw.below (hbr.trans (hR1.mono hbr.size)))).mono ?_
   rintro e u2 ⟨rfl,hbu2⟩
   have hR2:=hR1.trans (hbu2.mono hR1.size)
   refine hK _ _ ⟨hR2,?_⟩
   clear hK K
   try simp only [zA,zB,zC,Act.put,zD,zE,zF]
   unfold wpKeepL
   simp only [List.drop_succ_cons,List.drop_zero]
   try simp only [zA,zB,zC,Act.put,zD,zE,zF]
   refine wpKeep_step rfl (fun K hK=>?_)
   go_simp
   refine hK _ _ ⟨trivial,wpKeep_nil ?_⟩
   clear hK K
   try simp only [zA,zB,zC,Act.put,zD,zE,zF]
   refine NormalOnly.mk ?_
   have hbu:=hbr.trans (hR2.mono hbr.size)
   go_wp2
   refine ⟨⟨k+1,s2,hk,HS2.out,rfl,by simp,hbu⟩,?_⟩
   show P.length-((k:Int)+1+1).toNat<P.length-((k:Int)+1).toNat
   omega
  ·have hkn:decide ((k:Int)+1+1<(P.length:Int))=false:=decide_eq_false (by omega)
   have HR:=hid (show s=tx (areaP P) by rw [HS.out];unfold areaP;rw [show P.length-2=k by omega])
   go_wp2
   go_ret
   exact ⟨by rw [←HR.out];rfl,hbr⟩
theorem r9_area (v:Value) (P:List QP) (h2:2≤P.length) (hn:P.length≤1000) (hz:∀ p∈P,Sz2 10000 p) (hA:∀ k,k+2≤P.length→Sz 1000000 (areaTo P k)) (w:World) (hw:Good w) (hv:Pts w v P) :
  Calls Tryz.prog 27 #[v] w (RV (.string (tx (areaP P))) w):=by
 have HAR:=hid (fun i (hi:i<P.length) j (hj:j<P.length) k (hk:k<P.length) w' (hg:Good w')=>r5_area (pt P i) (pt P j) (pt P k) (hz _ (pt_mem hi)) (hz _ (pt_mem hj)) (hz _ (pt_mem hk)) w' hg)
 have HAD:=hid (fun k (hk:k+2<P.length) w' (hg:Good w')=>r_add (areaTo P k) (crs (pt P 0) (pt P (k+1)) (pt P (k+2))) ((hA k (by omega)).mono (by decide)) ((sz_crs (hz _ (pt_mem (show 0<P.length by omega))) (hz _ (pt_mem (show k+1<P.length by omega))) (hz _ (pt_mem hk))).mono (by decide)) w' hg)
 unfold RV at HAR HAD
 unfold ptV at HAR
 have HT0:=hid (show (⟨#[48]⟩ : ByteArray)=tx (areaTo P 0) from tx0.symm)
 obtain ⟨p,c,rfl,hcl,hcm⟩:=hv.slice
 unfold maxLen at hcm
 obtain ⟨B,off,rfl,hbl,hcell⟩:=Pts.cells hv (by omega)
 have HCL:=hid (fun i (hi:i<P.length) wx (h:Below w.heap.size w wx)=>And.intro ((h.cell (p:=⟨B,off+i*2,none⟩) hbl).trans (hcell i hi).1) ((h.cell (p:=⟨B,off+i*2+1,none⟩) hbl).trans (hcell i hi).2))
 have hbw:=Below.refl w.heap.size w
 clear hz hv hcell hA
 go_enter Tryz.func27,Tryz.ntmps27
 go_wp2_with fail
 go_loopw [3,4] (fun sv iv wr=>∃ (k:Nat) (s:ByteArray),k+2≤P.length∧s=tx (areaTo P k)∧sv=.string s∧iv=.int .i64 ((k+1:Nat):Int)∧Below w.heap.size w wr) (fun _ iv _=>P.length-(intOf iv).toNat)
 case atStart=>exact ⟨0,_,h2,HT0.out,rfl,rfl,hbw⟩
 case round =>
  obtain ⟨k,s,hk2,hs,rfl,rfl,hbr⟩:=hrel
  have HS:=hid hs
  clear hs
  have m1:IntKind.i64.wrap ((k:Int)+1+1)=(k:Int)+1+1:=IntWalk.i64_in _ (by omega)
  by_cases hk:k+1+1<P.length
  ·have hkn:decide ((k:Int)+1+1<(P.length:Int))=true:=decide_eq_true (by omega)
   obtain ⟨a0,a1⟩:=HCL.out 0 (by omega) wr hbr
   obtain ⟨b0,b1⟩:=HCL.out (k+1) (by omega) wr hbr
   obtain ⟨c0,c1⟩:=HCL.out (k+1+1) (by omega) wr hbr
   rw [Nat.zero_mul,Nat.add_zero] at a0 a1
   have hblr:B<wr.heap.size:=Nat.lt_of_lt_of_le hbl hbr.size
   have m1:IntKind.i64.wrap ((k:Int)+1+1)=(k:Int)+1+1:=IntWalk.i64_in _ (by omega)
   have m2:(0:Int)≤(k:Int)+1:=by omega
   have m3:(k:Int)+1<(P.length:Int):=by omega
   have m4:(0:Int)≤(k:Int)+1+1:=by omega
   have m5:(k:Int)+1+1<(P.length:Int):=by omega
   have m6:((k:Int)+1).toNat=k+1:=by omega
   have m7:((k:Int)+1+1).toNat=k+1+1:=by omega
   have m8:k+1<P.length:=by omega
   have m9:k+1+1<P.length:=by omega
   have m10:0<P.length:=by omega
   have H1:=hid (HAR.out 0 m10 (k+1) m8 (k+1+1) m9)
   have H2:=hid (HAD.out k hk)
   rw [←HS.out] at H2
   obtain ⟨s2,hs2⟩ : ∃ s2,s2=tx (areaTo P (k+1)):=⟨_,rfl⟩
   have HS2:=hid hs2
   rw [show areaTo P k+crs (pt P 0) (pt P (k+1)) (pt P (k+2))=areaTo P (k+1) from rfl,←hs2] at H2
   clear hs2
   rw [show k+2=k+1+1 from rfl] at H2
   generalize tx (crs (pt P 0) (pt P (k+1)) (pt P (k+1+1)))=t at *
   generalize tx (pt P 0).1=x1 at *
   generalize tx (pt P 0).2=x2 at *
   generalize tx (pt P (k+1)).1=y1 at *
   generalize tx (pt P (k+1)).2=y2 at *
   generalize tx (pt P (k+1+1)).1=z1 at *
   generalize tx (pt P (k+1+1)).2=z2 at *
   go_wp2_with fail
   refine wp_held_list (fun W'=>Below wr.heap.size wr W') [0,1,2,3,4,5,6,7,8,9,10,11,12] [13,14] 15 (by kernel_rfl) (by kernel_rfl) ⟨rfl,rfl,rfl,Nat.le_refl _,fun _ _=>rfl⟩ ?_
   iterate 13
    refine wpTakeL_step rfl ?_ rfl ?_ ?_
    rotate_left
    ·intro W' hS'
     have s0:=(hS'.cell (p:=⟨B,off,none⟩) hblr).trans a0
     have s1:=(hS'.cell (p:=⟨B,off+1,none⟩) hblr).trans a1
     have s2:=(hS'.cell (p:=⟨B,off+(k+1)*2,none⟩) hblr).trans b0
     have s3:=(hS'.cell (p:=⟨B,off+(k+1)*2+1,none⟩) hblr).trans b1
     have s4:=(hS'.cell (p:=⟨B,off+(k+1+1)*2,none⟩) hblr).trans c0
     have s5:=(hS'.cell (p:=⟨B,off+(k+1+1)*2+1,none⟩) hblr).trans c1
     go_simp
     try with_reducible rfl
    try simp only [zA,zB,zC,Act.put,zD,zE,zF]
   have hR0:Below wr.heap.size wr wr.drew:=⟨rfl,rfl,rfl,Nat.le_refl _,fun _ _=>rfl⟩
   refine wpKeepL_step rfl rfl (fun K hK=>?_)
   go_simp
   refine (H1.out _ (hw.below (hbr.trans (hR0.mono hbr.size)))).mono ?_
   rintro e u1 ⟨rfl,hbu1⟩
   have hR1:=hR0.trans (hbu1.mono hR0.size)
   refine hK _ _ ⟨hR1,?_⟩
   clear hK K
   try simp only [zA,zB,zC,Act.put,zD,zE,zF]
   refine wpKeepL_step rfl rfl (fun K hK=>?_)
   go_simp
   refine (H2.out _ (hw.below (hbr.trans (hR1.mono hbr.size)))).mono ?_
   rintro e u2 ⟨rfl,hbu2⟩
   have hR2:=hR1.trans (hbu2.mono hR1.size)
   refine hK _ _ ⟨hR2,?_⟩
   clear hK K
   try simp only [zA,zB,zC,Act.put,zD,zE,zF]
   unfold wpKeepL
   simp only [List.drop_succ_cons,List.drop_zero]
   try simp only [zA,zB,zC,Act.put,zD,zE,zF]
   refine wpKeep_step rfl (fun K hK=>?_)
   go_simp
   refine hK _ _ ⟨trivial,wpKeep_nil ?_⟩
   clear hK K
   try simp only [zA,zB,zC,Act.put,zD,zE,zF]
   refine NormalOnly.mk ?_
   have hbu:=hbr.trans (hR2.mono hbr.size)
   go_wp2
   refine ⟨⟨k+1,s2,hk,HS2.out,rfl,by simp,hbu⟩,?_⟩
   show P.length-((k:Int)+1+1).toNat<P.length-((k:Int)+1).toNat
   omega
  ·have hkn:decide ((k:Int)+1+1<(P.length:Int))=false:=decide_eq_false (by omega)
   have HR:=hid (show s=tx (areaP P) by rw [HS.out];unfold areaP;rw [show P.length-2=k by omega])
   go_wp2
   go_ret
   exact ⟨by rw [←HR.out];rfl,hbr⟩
theorem pg_Area (v:Value) (P:List QP) (hP:Poly P) (h60:P.length≤60) (hz:∀ p∈P,OkB p.1∧OkB p.2) (hA:∀ k,k+2≤P.length→Sz 900000000 (areaTo P k)) (hok:OkB (areaP P)) (w:World) (hw:Good w) (hv:Pts w v P) :
  Calls Tryz.prog 23 #[v] w (RV (.tuple #[.string (tx (areaP P)),.int .i64 0]) w):=by
 have h3:=hP.1.1
 have HC:=hid (pg_checkP v P h3 h60 hz w hw hv)
 rw [polyC_poly hP] at HC
 have HD:=hid (fun w' (hg:Good w') (hp:Pts w' v P)=>pg_doubled v P (by omega) (by omega) (fun p hp=>(okP_sz (hz p hp)).mono (by decide)) hA w' hg hp)
 have HN:=hid (fun w' (hg:Good w')=>pg_number (tx (areaP P)) (Nat.le_trans hok.sz (by decide)) w' hg)
 rw [show okS (tx (areaP P))=true from hok] at HN
 simp only [if_true] at HN
 unfold RV at HC HD HN
 have HV:=hid hv
 clear hz hv hA hok hP
 generalize tx (areaP P)=t at *
 go_enter Tryz.func23,Tryz.ntmps23
 go_wp2_with fail
 refine HC.out.mono ?_
 rintro e w1 ⟨rfl,hb1⟩
 go_wp2_with fail
 refine (HD.out _ (hw.below hb1) (HV.out.below hb1)).mono ?_
 rintro e w2 ⟨rfl,h2⟩
 have hb2:=hb1.trans (h2.mono hb1.size)
 go_wp2_with fail
 refine (HN.out _ (hw.below hb2)).mono ?_
 rintro e w3 ⟨rfl,h3⟩
 have hb3:=hb2.trans (h3.mono hb2.size)
 go_wp2
 go_ret2
 exact ⟨rfl,hb3⟩
theorem txs_three {w wa:World} (a b c:Rat) (hwa:wa=(w.alloc (Obj.cells #[.string (tx a),.string (tx b),.string (tx c)] 29)).drew):Below w.heap.size w wa∧Txs wa (.slice (some ⟨w.heap.size,0,none⟩) 3 3) [a,b,c]:=by
 rw [hwa]
 refine ⟨(alloc_below _ _).drew,_,_,rfl,Nat.le_refl _,by decide,by simp,fun i hi=>?_⟩
 match i,hi with
 | 0,_=>exact alloc_cells w #[_,_,_] _ 0 (by simp)
 | 1,_=>exact alloc_cells w #[_,_,_] _ 1 (by simp)
 | 2,_=>exact alloc_cells w #[_,_,_] _ 2 (by simp)
theorem sumR_three (a b c:Rat):sumR [a,b,c]=a+b+c:=by
 show ((0+a)+b)+c=_
 rw [Rat.zero_add]
theorem k_sum3 (a b c:Rat) (ha:Sz 1000000 a) (hb:Sz 1000000 b) (hc:Sz 1000000 c) (v:Value) (w:World) (hw:Good w) (hv:Txs w v [a,b,c]):Calls Tryz.prog 81 #[v] w (RV (.string (tx (a+b+c))) w):=by
 have h:=rat_Sum v [a,b,c] (by intro q hq;simp at hq;rcases hq with rfl | rfl | rfl <;> exact Sz.mono ‹_› (by decide)) (fun k hk=>?_) w hw hv
 ·rw [sumR_three] at h;exact h
 ·have z:Sz 1 (0:Rat):=by show (tx 0).size≤1;rw [tx0];decide
  match k,hk with
  | 0,_=>exact z.mono (by decide)
  | 1,_=>exact (z.add ha).mono (by decide)
  | 2,_=>exact ((z.add ha).add hb).mono (by decide)
  | 3,_=>exact (((z.add ha).add hb).add hc).mono (by decide)
theorem pg_Centroid (v:Value) (P:List QP) (hP:Poly P) (h60:P.length≤60) (hz:∀ p∈P,OkB p.1∧OkB p.2) (hA:∀ k,k+2≤P.length→Sz 100000000 (areaTo P k))
  (hX:∀ k,k+2≤P.length→Sz 100000000 (cenXTo P k)) (hY:∀ k,k+2≤P.length→Sz 100000000 (cenYTo P k)) (hok:OkB (cenP P).1∧OkB (cenP P).2) (w:World) (hw:Good w) (hv:Pts w v P) :
  Calls Tryz.prog 24 #[v] w (RV (.tuple #[ptV (cenP P),.int .i64 0]) w):=by
 have h3:=hP.1.1
 have hz2:∀ p∈P,Sz2 402 p:=fun p hp=>okP_sz (hz p hp)
 have hap:=hP.1.area_pos
 have hAA:Sz 100000000 (areaP P):=hA (P.length-2) (by omega)
 have hne:(3:Rat)*areaP P≠0:=by have:=Rat.mul_pos (show (0:Rat)<3 by decide) hap;grind
 have z3:Sz 1 (3:Rat):=by show (tx 3).size≤1;rw [tx_3];decide
 have z1:Sz 1 (1:Rat):=by show (tx 1).size≤1;rw [tx1];decide
 have HC:=hid (fun w' (hg:Good w') (hp:Pts w' v P)=>pg_checkP v P h3 h60 hz w' hg hp)
 rw [polyC_poly hP] at HC
 have HAR:=hid (fun i (hi:i<P.length) j (hj:j<P.length) k (hk:k<P.length) w' (hg:Good w')=>pg_area (pt P i) (pt P j) (pt P k) ((hz2 _ (pt_mem hi)).mono (by decide)) ((hz2 _ (pt_mem hj)).mono (by decide)) ((hz2 _ (pt_mem hk)).mono (by decide)) w' hg)
 have HS1:=hid (fun k (hk:k+1+1<P.length) vv w' (hg:Good w') (hx:Txs w' vv _)=>k_sum3 (pt P 0).1 (pt P (k+1)).1 (pt P (k+1+1)).1 ((hz2 _ (pt_mem (show 0<P.length by omega))).1.mono (by decide)) ((hz2 _ (pt_mem (show k+1<P.length by omega))).1.mono (by decide)) ((hz2 _ (pt_mem hk)).1.mono (by decide)) vv w' hg hx)
 have HS2:=hid (fun k (hk:k+1+1<P.length) vv w' (hg:Good w') (hx:Txs w' vv _)=>k_sum3 (pt P 0).2 (pt P (k+1)).2 (pt P (k+1+1)).2 ((hz2 _ (pt_mem (show 0<P.length by omega))).2.mono (by decide)) ((hz2 _ (pt_mem (show k+1<P.length by omega))).2.mono (by decide)) ((hz2 _ (pt_mem hk)).2.mono (by decide)) vv w' hg hx)
 have cz:∀ k (hk:k+1+1<P.length),Sz 20000 (crs (pt P 0) (pt P (k+1)) (pt P (k+1+1))):=fun k hk=>(sz_crs (hz2 _ (pt_mem (show 0<P.length by omega))) (hz2 _ (pt_mem (show k+1<P.length by omega))) (hz2 _ (pt_mem hk))).mono (by decide)
 have s1z:∀ k (hk:k+1+1<P.length),Sz 20000 ((pt P 0).1+(pt P (k+1)).1+(pt P (k+1+1)).1):=fun k hk=>(((hz2 _ (pt_mem (show 0<P.length by omega))).1.add (hz2 _ (pt_mem (show k+1<P.length by omega))).1).add (hz2 _ (pt_mem hk)).1).mono (by decide)
 have s2z:∀ k (hk:k+1+1<P.length),Sz 20000 ((pt P 0).2+(pt P (k+1)).2+(pt P (k+1+1)).2):=fun k hk=>(((hz2 _ (pt_mem (show 0<P.length by omega))).2.add (hz2 _ (pt_mem (show k+1<P.length by omega))).2).add (hz2 _ (pt_mem hk)).2).mono (by decide)
 have HM1:=hid (fun k (hk:k+1+1<P.length) w' (hg:Good w')=>k_mul (crs (pt P 0) (pt P (k+1)) (pt P (k+1+1))) ((pt P 0).1+(pt P (k+1)).1+(pt P (k+1+1)).1) ((cz k hk).mono (by decide)) ((s1z k hk).mono (by decide)) w' hg)
 have HM2:=hid (fun k (hk:k+1+1<P.length) w' (hg:Good w')=>k_mul (crs (pt P 0) (pt P (k+1)) (pt P (k+1+1))) ((pt P 0).2+(pt P (k+1)).2+(pt P (k+1+1)).2) ((cz k hk).mono (by decide)) ((s2z k hk).mono (by decide)) w' hg)
 have HA1:=hid (fun k (hk:k+1+1<P.length) w' (hg:Good w')=>k_add (cenXTo P k) (crs (pt P 0) (pt P (k+1)) (pt P (k+1+1))*((pt P 0).1+(pt P (k+1)).1+(pt P (k+1+1)).1)) ((hX k (by omega)).mono (by decide)) (((cz k hk).mul (s1z k hk)).mono (by decide)) w' hg)
 have HA2:=hid (fun k (hk:k+1+1<P.length) w' (hg:Good w')=>k_add (cenYTo P k) (crs (pt P 0) (pt P (k+1)) (pt P (k+1+1))*((pt P 0).2+(pt P (k+1)).2+(pt P (k+1+1)).2)) ((hY k (by omega)).mono (by decide)) (((cz k hk).mul (s2z k hk)).mono (by decide)) w' hg)
 have HD:=hid (fun w' (hg:Good w') (hp:Pts w' v P)=>pg_doubled v P (by omega) (by omega) (fun p hp=>(hz2 p hp).mono (by decide)) (fun k hk=>(hA k hk).mono (by decide)) w' hg hp)
 have HM3:=hid (fun w' (hg:Good w')=>k_mul 3 (areaP P) (z3.mono (by decide)) (hAA.mono (by decide)) w' hg)
 have HDV:=hid (fun w' (hg:Good w')=>k_div 1 (3*areaP P) hne (z1.mono (by decide)) ((z3.mul hAA).mono (by decide)) w' hg)
 have iz:Sz 200000000 (1*(3*areaP P)⁻¹):=(z1.div (z3.mul hAA)).mono (by decide)
 have e1:(1:Rat)*(3*areaP P)⁻¹=(3*areaP P)⁻¹:=Rat.one_mul _
 rw [e1] at HDV iz
 have HQX:=hid (fun w' (hg:Good w')=>k_mul (cenXTo P (P.length-2)) (3*areaP P)⁻¹ ((hX _ (by omega)).mono (by decide)) (iz.mono (by decide)) w' hg)
 have HQY:=hid (fun w' (hg:Good w')=>k_mul (cenYTo P (P.length-2)) (3*areaP P)⁻¹ ((hY _ (by omega)).mono (by decide)) (iz.mono (by decide)) w' hg)
 have HPO:=hid (fun w' (hg:Good w')=>pg_point (tx (cenP P).1) (tx (cenP P).2) (Nat.le_trans hok.1.sz (by decide)) (Nat.le_trans hok.2.sz (by decide)) w' hg)
 rw [OkB.two hok] at HPO
 simp only [if_true] at HPO
 rw [show tx (cenXTo P (P.length-2)*(3*areaP P)⁻¹)=tx (cenP P).1 from rfl] at HQX
 rw [show tx (cenYTo P (P.length-2)*(3*areaP P)⁻¹)=tx (cenP P).2 from rfl] at HQY
 unfold RV at HC HAR HS1 HS2 HM1 HM2 HA1 HA2 HD HM3 HDV HQX HQY HPO
 unfold ptV at HAR ⊢
 have HT0:=hid (show (⟨#[48]⟩ : ByteArray)=tx 0 from tx0.symm)
 have HT3:=hid (show tx 3=⟨#[51]⟩ from tx_3)
 have HT1:=hid (show tx 1=⟨#[49]⟩ from tx1)
 rw [HT3.out] at HM3
 rw [HT1.out] at HDV
 have HV:=hid hv
 obtain ⟨p,c,rfl,hcl,hcm⟩:=hv.slice
 unfold maxLen at hcm
 obtain ⟨B,off,rfl,hbl,hcell⟩:=Pts.cells hv (by omega)
 have HCL:=hid (fun i (hi:i<P.length) wx (h:Below w.heap.size w wx)=>And.intro ((h.cell (p:=⟨B,off+i*2,none⟩) hbl).trans (hcell i hi).1) ((h.cell (p:=⟨B,off+i*2+1,none⟩) hbl).trans (hcell i hi).2))
 clear hz hz2 hv hcell hA hX hY hok hP hap hAA hne z3 z1 cz s1z s2z iz e1
 generalize hg1:tx (cenP P).1=gx at *
 generalize hg2:tx (cenP P).2=gy at *
 generalize tx ((3*areaP P)⁻¹)=ti at *
 generalize tx (3*areaP P)=t3 at *
 generalize tx (areaP P)=ta at *
 go_enter Tryz.func24,Tryz.ntmps24
 go_upto_region 1 with fail
 obtain ⟨wA,hwA⟩ : ∃ wA,wA=w.alloc (Obj.cells #[.string ⟨#[]⟩,.string ⟨#[]⟩] 31):=⟨_,rfl⟩
 have hbA:Below w.heap.size w wA:=by rw [hwA];exact alloc_below _ _
 have hXA:wA.heap[w.heap.size]?=some (.cells #[.string ⟨#[]⟩,.string ⟨#[]⟩] 31 (0,0)):=by rw [hwA];exact World.alloc_heap_new _ _
 rw [←hwA]
 clear hwA
 go_wp2_with fail
 refine (HC.out _ (hw.below hbA) (HV.out.below hbA)).mono ?_
 rintro e w1 ⟨rfl,hb1⟩
 have hbA1:=hbA.trans (hb1.mono hbA.size)
 have hX1:=(hb1.block _ (lt_of_blk hXA)).trans hXA
 clear hXA HC
 go_wp2_with fail
 go_loopw [5,6,7] (fun xv yv iv wr=>∃ (k:Nat) (s t:ByteArray),k+2≤P.length∧s=tx (cenXTo P k)∧t=tx (cenYTo P k)∧xv=.string s∧yv=.string t∧iv=.int .i64 ((k+1:Nat):Int)∧Below w1.heap.size w1 wr) (fun _ _ iv _=>P.length-(intOf iv).toNat)
 case atStart=>exact ⟨0,_,_,by omega,HT0.out,HT0.out,rfl,rfl,rfl,Below.refl _ _⟩
 case round =>
  obtain ⟨k,s,t,hk2,hs,ht,rfl,rfl,rfl,hbr1⟩:=hrel
  have HS:=hid hs
  have HT:=hid ht
  have hbr:=hbA1.trans (hbr1.mono hbA1.size)
  clear hs ht
  have m1:IntKind.i64.wrap ((k:Int)+1+1)=(k:Int)+1+1:=IntWalk.i64_in _ (by omega)
  by_cases hk:k+1+1<P.length
  ·have hkn:decide ((k:Int)+1+1<(P.length:Int))=true:=decide_eq_true (by omega)
   obtain ⟨a0,a1⟩:=HCL.out 0 (by omega) wr hbr
   obtain ⟨b0,b1⟩:=HCL.out (k+1) (by omega) wr hbr
   obtain ⟨c0,c1⟩:=HCL.out (k+1+1) (by omega) wr hbr
   rw [Nat.zero_mul,Nat.add_zero] at a0 a1
   have hblr:B<wr.heap.size:=Nat.lt_of_lt_of_le hbl hbr.size
   have m1:IntKind.i64.wrap ((k:Int)+1+1)=(k:Int)+1+1:=IntWalk.i64_in _ (by omega)
   have m2:(0:Int)≤(k:Int)+1:=by omega
   have m3:(k:Int)+1<(P.length:Int):=by omega
   have m4:(0:Int)≤(k:Int)+1+1:=by omega
   have m5:(k:Int)+1+1<(P.length:Int):=by omega
   have m6:((k:Int)+1).toNat=k+1:=by omega
   have m7:((k:Int)+1+1).toNat=k+1+1:=by omega
   have m8:k+1<P.length:=by omega
   have m9:k+1+1<P.length:=by omega
   have m10:0<P.length:=by omega
   have H1:=hid (HAR.out 0 m10 (k+1) m8 (k+1+1) m9)
   obtain ⟨sx,hsx⟩ : ∃ sx,sx=tx (cenXTo P (k+1)):=⟨_,rfl⟩
   obtain ⟨sy,hsy⟩ : ∃ sy,sy=tx (cenYTo P (k+1)):=⟨_,rfl⟩
   have HAX:=hid (HA1.out k hk)
   have HAY:=hid (HA2.out k hk)
   rw [show cenXTo P k+crs (pt P 0) (pt P (k+1)) (pt P (k+1+1))*((pt P 0).1+(pt P (k+1)).1+(pt P (k+1+1)).1)=cenXTo P (k+1) from rfl,←hsx,←HS.out] at HAX
   rw [show cenYTo P k+crs (pt P 0) (pt P (k+1)) (pt P (k+1+1))*((pt P 0).2+(pt P (k+1)).2+(pt P (k+1+1)).2)=cenYTo P (k+1) from rfl,←hsy,←HT.out] at HAY
   have HSX:=hid (fun vv=>HS1.out k hk vv)
   have HSY:=hid (fun vv=>HS2.out k hk vv)
   have HMX:=hid (HM1.out k hk)
   have HMY:=hid (HM2.out k hk)
   have HTX:=hid (fun (wq wa:World)=>txs_three (w:=wq) (wa:=wa) (pt P 0).1 (pt P (k+1)).1 (pt P (k+1+1)).1)
   have HTY:=hid (fun (wq wa:World)=>txs_three (w:=wq) (wa:=wa) (pt P 0).2 (pt P (k+1)).2 (pt P (k+1+1)).2)
   have HNX:=hid (And.intro hsx hsy)
   clear hsx hsy
   generalize tx (crs (pt P 0) (pt P (k+1)) (pt P (k+1+1))*((pt P 0).1+(pt P (k+1)).1+(pt P (k+1+1)).1))=mx at *
   generalize tx (crs (pt P 0) (pt P (k+1)) (pt P (k+1+1))*((pt P 0).2+(pt P (k+1)).2+(pt P (k+1+1)).2))=my at *
   generalize tx ((pt P 0).1+(pt P (k+1)).1+(pt P (k+1+1)).1)=ax at *
   generalize tx ((pt P 0).2+(pt P (k+1)).2+(pt P (k+1+1)).2)=ay at *
   generalize tx (crs (pt P 0) (pt P (k+1)) (pt P (k+1+1)))=tc at *
   generalize tx (pt P 0).1=x1 at *
   generalize tx (pt P 0).2=x2 at *
   generalize tx (pt P (k+1)).1=y1 at *
   generalize tx (pt P (k+1)).2=y2 at *
   generalize tx (pt P (k+1+1)).1=z1 at *
   generalize tx (pt P (k+1+1)).2=z2 at *
   go_wp2_with fail
   refine wp_held_list (fun W'=>Below wr.heap.size wr W') [0,1,2,3,4,5,6,7,8,9,10,11] [12] 13 (by kernel_rfl) (by kernel_rfl) ⟨rfl,rfl,rfl,Nat.le_refl _,fun _ _=>rfl⟩ ?_
   iterate 12
    refine wpTakeL_step rfl ?_ rfl ?_ ?_
    rotate_left
    ·intro W' hS'
     have s0:=(hS'.cell (p:=⟨B,off,none⟩) hblr).trans a0
     have s1:=(hS'.cell (p:=⟨B,off+1,none⟩) hblr).trans a1
     have s2:=(hS'.cell (p:=⟨B,off+(k+1)*2,none⟩) hblr).trans b0
     have s3:=(hS'.cell (p:=⟨B,off+(k+1)*2+1,none⟩) hblr).trans b1
     have s4:=(hS'.cell (p:=⟨B,off+(k+1+1)*2,none⟩) hblr).trans c0
     have s5:=(hS'.cell (p:=⟨B,off+(k+1+1)*2+1,none⟩) hblr).trans c1
     go_simp
     try with_reducible rfl
    try simp only [zA,zB,zC,Act.put,zD,zE,zF]
   have hR0:Below wr.heap.size wr wr.drew:=⟨rfl,rfl,rfl,Nat.le_refl _,fun _ _=>rfl⟩
   refine wpKeepL_step rfl rfl (fun K hK=>?_)
   go_simp
   refine (H1.out _ (hw.below (hbr.trans (hR0.mono hbr.size)))).mono ?_
   rintro e u1 ⟨rfl,hbu1⟩
   have hR1:=hR0.trans (hbu1.mono hR0.size)
   refine hK _ _ ⟨hR1,?_⟩
   clear hK K
   try simp only [zA,zB,zC,Act.put,zD,zE,zF]
   unfold wpKeepL
   simp only [List.drop_succ_cons,List.drop_zero]
   try simp only [zA,zB,zC,Act.put,zD,zE,zF]
   refine wpKeep_step rfl (fun K hK=>?_)
   go_simp
   refine hK _ _ ⟨trivial,wpKeep_nil ?_⟩
   clear hK K
   try simp only [zA,zB,zC,Act.put,zD,zE,zF]
   refine NormalOnly.mk ?_
   have hblr_u1:=Nat.lt_of_lt_of_le hblr hR1.size
   have a0_u1:=(hR1.cell (p:=⟨B,off,none⟩) hblr).trans a0
   have a1_u1:=(hR1.cell (p:=⟨B,off+1,none⟩) hblr).trans a1
   have b0_u1:=(hR1.cell (p:=⟨B,off+(k+1)*2,none⟩) hblr).trans b0
   have b1_u1:=(hR1.cell (p:=⟨B,off+(k+1)*2+1,none⟩) hblr).trans b1
   have c0_u1:=(hR1.cell (p:=⟨B,off+(k+1+1)*2,none⟩) hblr).trans c0
   have c1_u1:=(hR1.cell (p:=⟨B,off+(k+1+1)*2+1,none⟩) hblr).trans c1
   clear a0 a1 b0 b1 c0 c1 hblr
   have hbu:=hbr.trans (hR1.mono hbr.size)
   go_wp2_with fail
   refine wp_held_list (fun W'=>Below u1.heap.size u1 W') [0,1,2,3,4,5,6,7,8,9,10,11,12,13,14,15,16] [17,18,19,20] 21 (by kernel_rfl) (by kernel_rfl) ⟨rfl,rfl,rfl,Nat.le_refl _,fun _ _=>rfl⟩ ?_
   iterate 17
    refine wpTakeL_step rfl ?_ rfl ?_ ?_
    rotate_left
    ·intro W' hS'
     have s0:=(hS'.cell (p:=⟨B,off,none⟩) hblr_u1).trans a0_u1
     have s1:=(hS'.cell (p:=⟨B,off+1,none⟩) hblr_u1).trans a1_u1
     have s2:=(hS'.cell (p:=⟨B,off+(k+1)*2,none⟩) hblr_u1).trans b0_u1
     have s3:=(hS'.cell (p:=⟨B,off+(k+1)*2+1,none⟩) hblr_u1).trans b1_u1
     have s4:=(hS'.cell (p:=⟨B,off+(k+1+1)*2,none⟩) hblr_u1).trans c0_u1
     have s5:=(hS'.cell (p:=⟨B,off+(k+1+1)*2+1,none⟩) hblr_u1).trans c1_u1
     go_simp
     try with_reducible rfl
    try simp only [zA,zB,zC,Act.put,zD,zE,zF]
   have xX0:Below u1.heap.size u1 u1.drew:=⟨rfl,rfl,rfl,Nat.le_refl _,fun _ _=>rfl⟩
   refine wpKeepL_step rfl rfl (fun K hK=>?_)
   go_simp
   obtain ⟨xXa,hwxXa⟩ : ∃ xXa,xXa=(u1.alloc (Obj.cells #[.string x1,.string y1,.string z1] 29)).drew:=⟨_,rfl⟩
   obtain ⟨hbxXa,htxxXa⟩:=HTX.out u1 xXa hwxXa
   rw [←hwxXa]
   refine hK _ _ ⟨hbxXa,?_⟩
   clear hK K hwxXa
   try simp only [zA,zB,zC,Act.put,zD,zE,zF]
   refine wpKeepL_step rfl rfl (fun K hK=>?_)
   go_simp
   refine (HSX.out _ _ (hw.below (hbu.trans (hbxXa.mono hbu.size))) htxxXa).mono ?_
   rintro e xXb ⟨rfl,hxxXb⟩
   have hbxXb:=hbxXa.trans (hxxXb.mono hbxXa.size)
   refine hK _ _ ⟨hbxXb,?_⟩
   clear hK K
   try simp only [zA,zB,zC,Act.put,zD,zE,zF]
   refine wpKeepL_step rfl rfl (fun K hK=>?_)
   go_simp
   refine (HMX.out _ (hw.below (hbu.trans (hbxXb.mono hbu.size)))).mono ?_
   rintro e xXc ⟨rfl,hxxXc⟩
   have hbxXc:=hbxXb.trans (hxxXc.mono hbxXb.size)
   refine hK _ _ ⟨hbxXc,?_⟩
   clear hK K
   try simp only [zA,zB,zC,Act.put,zD,zE,zF]
   refine wpKeepL_step rfl rfl (fun K hK=>?_)
   go_simp
   refine (HAX.out _ (hw.below (hbu.trans (hbxXc.mono hbu.size)))).mono ?_
   rintro e xXd ⟨rfl,hxxXd⟩
   have hbxXd:=hbxXc.trans (hxxXd.mono hbxXc.size)
   refine hK _ _ ⟨hbxXd,?_⟩
   clear hK K
   try simp only [zA,zB,zC,Act.put,zD,zE,zF]
   unfold wpKeepL
   simp only [List.drop_succ_cons,List.drop_zero]
   try simp only [zA,zB,zC,Act.put,zD,zE,zF]
   refine wpKeep_step rfl (fun K hK=>?_)
   go_simp
   refine hK _ _ ⟨trivial,wpKeep_nil ?_⟩
   clear hK K
   try simp only [zA,zB,zC,Act.put,zD,zE,zF]
   refine NormalOnly.mk ?_
   have hblr_xXd:=Nat.lt_of_lt_of_le hblr_u1 hbxXd.size
   have a0_xXd:=(hbxXd.cell (p:=⟨B,off,none⟩) hblr_u1).trans a0_u1
   have a1_xXd:=(hbxXd.cell (p:=⟨B,off+1,none⟩) hblr_u1).trans a1_u1
   have b0_xXd:=(hbxXd.cell (p:=⟨B,off+(k+1)*2,none⟩) hblr_u1).trans b0_u1
   have b1_xXd:=(hbxXd.cell (p:=⟨B,off+(k+1)*2+1,none⟩) hblr_u1).trans b1_u1
   have c0_xXd:=(hbxXd.cell (p:=⟨B,off+(k+1+1)*2,none⟩) hblr_u1).trans c0_u1
   have c1_xXd:=(hbxXd.cell (p:=⟨B,off+(k+1+1)*2+1,none⟩) hblr_u1).trans c1_u1
   clear a0_u1 a1_u1 b0_u1 b1_u1 c0_u1 c1_u1 hblr_u1
   have hbx:=hbu.trans (hbxXd.mono hbu.size)
   go_wp2_with fail
   refine wp_held_list (fun W'=>Below xXd.heap.size xXd W') [0,1,2,3,4,5,6,7,8,9,10,11,12,13,14,15,16] [17,18,19,20] 21 (by kernel_rfl) (by kernel_rfl) ⟨rfl,rfl,rfl,Nat.le_refl _,fun _ _=>rfl⟩ ?_
   iterate 17
    refine wpTakeL_step rfl ?_ rfl ?_ ?_
    rotate_left
    ·intro W' hS'
     have s0:=(hS'.cell (p:=⟨B,off,none⟩) hblr_xXd).trans a0_xXd
     have s1:=(hS'.cell (p:=⟨B,off+1,none⟩) hblr_xXd).trans a1_xXd
     have s2:=(hS'.cell (p:=⟨B,off+(k+1)*2,none⟩) hblr_xXd).trans b0_xXd
     have s3:=(hS'.cell (p:=⟨B,off+(k+1)*2+1,none⟩) hblr_xXd).trans b1_xXd
     have s4:=(hS'.cell (p:=⟨B,off+(k+1+1)*2,none⟩) hblr_xXd).trans c0_xXd
     have s5:=(hS'.cell (p:=⟨B,off+(k+1+1)*2+1,none⟩) hblr_xXd).trans c1_xXd
     go_simp
     try with_reducible rfl
    try simp only [zA,zB,zC,Act.put,zD,zE,zF]
   have xY0:Below xXd.heap.size xXd xXd.drew:=⟨rfl,rfl,rfl,Nat.le_refl _,fun _ _=>rfl⟩
   refine wpKeepL_step rfl rfl (fun K hK=>?_)
   go_simp
   obtain ⟨xYa,hwxYa⟩ : ∃ xYa,xYa=(xXd.alloc (Obj.cells #[.string x2,.string y2,.string z2] 29)).drew:=⟨_,rfl⟩
   obtain ⟨hbxYa,htxxYa⟩:=HTY.out xXd xYa hwxYa
   rw [←hwxYa]
   refine hK _ _ ⟨hbxYa,?_⟩
   clear hK K hwxYa
   try simp only [zA,zB,zC,Act.put,zD,zE,zF]
   refine wpKeepL_step rfl rfl (fun K hK=>?_)
   go_simp
   refine (HSY.out _ _ (hw.below (hbx.trans (hbxYa.mono hbx.size))) htxxYa).mono ?_
   rintro e xYb ⟨rfl,hxxYb⟩
   have hbxYb:=hbxYa.trans (hxxYb.mono hbxYa.size)
   refine hK _ _ ⟨hbxYb,?_⟩
   clear hK K
   try simp only [zA,zB,zC,Act.put,zD,zE,zF]
   refine wpKeepL_step rfl rfl (fun K hK=>?_)
   go_simp
   refine (HMY.out _ (hw.below (hbx.trans (hbxYb.mono hbx.size)))).mono ?_
   rintro e xYc ⟨rfl,hxxYc⟩
   have hbxYc:=hbxYb.trans (hxxYc.mono hbxYb.size)
   refine hK _ _ ⟨hbxYc,?_⟩
   clear hK K
   try simp only [zA,zB,zC,Act.put,zD,zE,zF]
   refine wpKeepL_step rfl rfl (fun K hK=>?_)
   go_simp
   refine (HAY.out _ (hw.below (hbx.trans (hbxYc.mono hbx.size)))).mono ?_
   rintro e xYd ⟨rfl,hxxYd⟩
   have hbxYd:=hbxYc.trans (hxxYd.mono hbxYc.size)
   refine hK _ _ ⟨hbxYd,?_⟩
   clear hK K
   try simp only [zA,zB,zC,Act.put,zD,zE,zF]
   unfold wpKeepL
   simp only [List.drop_succ_cons,List.drop_zero]
   try simp only [zA,zB,zC,Act.put,zD,zE,zF]
   refine wpKeep_step rfl (fun K hK=>?_)
   go_simp
   refine hK _ _ ⟨trivial,wpKeep_nil ?_⟩
   clear hK K
   try simp only [zA,zB,zC,Act.put,zD,zE,zF]
   refine NormalOnly.mk ?_
   have hby:=hbx.trans (hbxYd.mono hbx.size)
   have hall:=hbr1.trans ((hR1.trans ((hbxXd.trans (hbxYd.mono hbxXd.size)).mono hR1.size)).mono hbr1.size)
   go_wp2
   refine ⟨⟨k+1,sx,sy,hk,HNX.out.1,HNX.out.2,rfl,rfl,by simp,hall⟩,?_⟩
   show P.length-((k:Int)+1+1).toNat<P.length-((k:Int)+1).toNat
   omega
  ·have hkn:decide ((k:Int)+1+1<(P.length:Int))=false:=decide_eq_false (by omega)
   have hX2:=(hbr1.block _ (lt_of_blk hX1)).trans hX1
   have hs:=HS.out
   have ht:=HT.out
   rw [show k=P.length-2 by omega] at hs ht
   rw [←hs] at HQX
   rw [←ht] at HQY
   clear hs ht
   go_wp2_with fail
   refine (HD.out _ (hw.below hbr) (HV.out.below hbr)).mono ?_
   rintro e w2 ⟨rfl,h2⟩
   have hb2:=hbr.trans (h2.mono hbr.size)
   have hX3:=(h2.block _ (lt_of_blk hX2)).trans hX2
   go_wp2_with fail
   refine (HM3.out _ (hw.below hb2)).mono ?_
   rintro e w3 ⟨rfl,h3⟩
   have hb3:=hb2.trans (h3.mono hb2.size)
   have hX4:=(h3.block _ (lt_of_blk hX3)).trans hX3
   go_wp2_with fail
   refine (HDV.out _ (hw.below hb3)).mono ?_
   rintro e w4 ⟨rfl,h4⟩
   have hb4:=hb3.trans (h4.mono hb3.size)
   have hX5:=(h4.block _ (lt_of_blk hX4)).trans hX4
   go_wp2_with fail
   refine (HQX.out _ (hw.below hb4)).mono ?_
   rintro e w5 ⟨rfl,h5⟩
   have hb5:=hb4.trans (h5.mono hb4.size)
   have hX6:=(h5.block _ (lt_of_blk hX5)).trans hX5
   go_wp2_with fail
   refine (HQY.out _ (hw.below hb5)).mono ?_
   rintro e w6 ⟨rfl,h6⟩
   have hb6:=hb5.trans (h6.mono hb5.size)
   have hX7:=(h6.block _ (lt_of_blk hX6)).trans hX6
   clear hX1 hX2 hX3 hX4 hX5 hX6
   go_upto_region 13 with fail
   obtain ⟨wB,hwB⟩ : ∃ wB,wB=w6.alloc (Obj.cells #[.string gx,.string gy] 31):=⟨_,rfl⟩
   obtain ⟨hbwB,lwB,z0,z1⟩:=box_new hwB
   rw [←hwB]
   clear hwB
   have hb7:=hb6.trans (hbwB.mono hb6.size)
   have hX8:=(hbwB.block _ (lt_of_blk hX7)).trans hX7
   go_wp2_with fail
   refine (HPO.out _ (hw.below hb7)).mono ?_
   rintro e w8 ⟨rfl,h8⟩
   have hb8:=hb7.trans (h8.mono hb7.size)
   have hX9:=(h8.block _ (lt_of_blk hX8)).trans hX8
   have y0:=(h8.cell (p:=⟨w6.heap.size,0,none⟩) lwB).trans z0
   have y1:=(h8.cell (p:=⟨w6.heap.size,1,none⟩) lwB).trans z1
   obtain ⟨_,_,_,_⟩:=two_cells hX9
   have hXF:=two_set1 (.string gy) (two_set0 (.string gx) hX9)
   obtain ⟨q0,q1,_,_⟩:=two_cells hXF
   have Q0:=hid q0
   have Q1:=hid q1
   clear hX7 hX8 hX9 z0 z1 hXF q0 q1
   go_wp2
   have q0:=Q0.out
   have q1:=Q1.out
   refine bodyPost_ret (v:=.tuple #[.agg #[.string gx,.string gy],.int .i64 0]) (by simp [results,Tryz.results24,go_sem,q0,q1]) rfl ⟨rfl,?_⟩
   exact (hb8.setCell (p:=⟨w.heap.size,0,none⟩) (Nat.le_refl _) _).setCell (p:=⟨w.heap.size,1,none⟩) (Nat.le_refl _) _
end Go.Proofs.YtgohnjdgoglcfaaGreatDoor
