import Derived.Test.YtogdahbbogimcaaGreatDoorKk5Z
set_option maxRecDepth 100000
set_option maxHeartbeats 8000000
namespace Go.Proofs.YtogdahbbogimcaaGreatDoor
open Go.RowKit Go.Shelf
open Go.Lib (decDigits itoa nDigits)
open Go.Lib (hid)
def lgQ (D:List (Rat × Rat)) (h:Rat) (k:Nat):Rat:=lK D k+gK D k*h
def lgL (D:List (Rat × Rat)) (h:Rat):List Rat:=(List.range D.length).map (lgQ D h)
theorem PrOk.lgz {s:QP} {D:List (Rat × Rat)} (hP:PrOk s D) {h:Rat} (hh:Sz 3000000 h) (k:Nat):Sz 18619448 (lgQ D h k):=((hP.l k).add ((hP.gz k).mul hh)).mono (by decide)
theorem kink_lengths (s:QP) (D:List (Rat × Rat)) (hP:PrOk s D) (hnd:NoDiv D) (h:Rat) (hh:Sz 3000000 h) (vd vl:Value) (w:World) (hw:Good w) (hvd:Txs w vd (D.map (·.1))) (hvl:Txs w vl (D.map (·.2))) :
  Calls Tryz.prog 25 #[profV s vd vl,.string (tx h)] w fun e w'=>∃ v,e=.returned v∧Txs w' v (lgL D h)∧FreshV w v∧Below w.heap.size w w':=by
 have HEN:=hid (fun (W:World) (hg:Good W) (h1:Txs W vd (D.map (·.1))) (h2:Txs W vl (D.map (·.2)))=>callsIn_wide.1 (kink_growths s D hP hnd vd vl W hg h1 h2))
 have HVD:=hid hvd
 have HVL:=hid hvl
 have HMU:=hid (fun k w' (hg:Good w')=>k_mul (gK D k) h ((hP.gz k).mono (by decide)) (hh.mono (by decide)) w' hg)
 have HAD:=hid (fun k w' (hg:Good w')=>show Calls Tryz.prog 52 #[.string (tx (lK D k)),.string (tx (gK D k*h))] w' (RV (.string (tx (lgQ D h k))) w') from
  k_add (lK D k) (gK D k*h) ((hP.l k).mono (by decide)) (((hP.gz k).mul hh).mono (by decide)) w' hg)
 have hn4:=hP.n
 have hn1:=hP.ne
 unfold RV at HMU HAD
 obtain ⟨bd,cd,rfl,-,-,-,-⟩:=hvd
 obtain ⟨bl,cl,rfl,-,-,hbl,hlc⟩:=hvl
 have HL1:=hid (show (D.map (·.1)).length=D.length from List.length_map _)
 have HL2:=hid (show (D.map (·.2)).length=D.length from List.length_map _)
 have HLC:=hid (fun k (hk:k<D.length)=>show w.cell? ⟨bl,k,none⟩=some (.string (tx (lK D k))) from (hlc k (by rw [HL2.out];exact hk)).trans (by rw [List.getElem_map,lK_eq hk]))
 rw [HL1.out,HL2.out] at HEN
 rw [HL1.out] at HVD
 rw [HL2.out] at HVL
 rw [HL1.out,HL2.out]
 obtain ⟨wA,hwA⟩ : ∃ wA,wA=w.alloc (profO s (.slice (some ⟨bd,0,none⟩) D.length cd) (.slice (some ⟨bl,0,none⟩) D.length cl)):=⟨_,rfl⟩
 have HWA:=hid hwA
 have hbA:Below w.heap.size w wA:=by rw [hwA];exact alloc_below _ _
 have hpA:wA.heap[w.heap.size]?=some (profO s (.slice (some ⟨bd,0,none⟩) D.length cd) (.slice (some ⟨bl,0,none⟩) D.length cl)):=by rw [hwA];exact World.alloc_heap_new _ _
 have HPA:=hid hpA
 have HENA:=hid (HEN.out wA (hw.below hbA) (HVD.out.below hbA) (HVL.out.below hbA))
 unfold profV profO at *
 clear hwA hP hnd HEN hlc hpA
 go_enter Tryz.func25,Tryz.ntmps25
 go_wp2_with fail
 rw [←HWA.out]
 refine HENA.out.mono ?_
 rintro e w1 ⟨vg,rfl,hvg,hb1⟩
 obtain ⟨bg,cg,hvg',hgc,hgm,hbg,hgcell⟩:=hvg
 have HL3:=hid (show (gL D).length=D.length by unfold gL;simp)
 rw [HL3.out] at hvg' hgc
 subst hvg'
 have HGC:=hid (fun k (hk:k<D.length)=>show w1.cell? ⟨bg,k,none⟩=some (.string (tx (gK D k))) from (hgcell k (by rw [HL3.out];exact hk)).trans (by simp [gL]))
 have hbw1:=hbA.trans (hb1.mono hbA.size)
 have hg1:=hw.below hbw1
 have hws:=hbw1.size
 have hB0:=lt_of_some HPA.out
 have HP1:=hid ((hb1.block _ hB0).trans HPA.out)
 have hB1:=lt_of_some HP1.out
 clear hgcell HENA HWA
 have hr0:w1.ownsRow w1.heap.size 28 1 (.slice none 0 0) 0 (rCs (lgQ D h) 0):=World.ownsRow_nil _ _ _ _
 go_wp2_with fail
 go_loopw [5,6,7,11] (fun ov _ _ iv wr=>∃ k:Nat,k≤D.length∧iv=.int .i64 (k:Int)∧wr.ownsRow w1.heap.size 28 1 ov k (rCs (lgQ D h) k)∧Below w1.heap.size w1 wr) (fun _ _ _ iv _=>D.length-(intOf iv).toNat)
 case atStart=>exact ⟨0,Nat.zero_le _,rfl,hr0,Below.refl _ _⟩
 case round =>
  obtain ⟨k,hk,rfl,hrow,hbr⟩:=hrel
  have hwr:=hbr.size
  by_cases hkl:k<D.length
  ·have A0:=(hbr.cell (p:=⟨bg,k,none⟩) hbg).trans (HGC.out k hkl)
   have A1:=(hbr.cell (p:=⟨bl,k,none⟩) (by show bl<_;omega)).trans ((hbw1.cell (p:=⟨bl,k,none⟩) hbl).trans (HLC.out k hkl))
   obtain ⟨_,_,_,e3⟩:=prof_cells ((hbr.block _ hB1).trans HP1.out)
   have i1:(0:Int)≤(k:Int):=by omega
   have i2:(k:Int)<(D.length:Int):=by omega
   have hkn:decide ((k:Int)<(D.length:Int))=true:=decide_eq_true i2
   have hgr:=hg1.below hbr
   have H1:=hid (HMU.out k)
   have H2:=hid (HAD.out k)
   have hbgr:bg<wr.heap.size:=by omega
   have hblr:bl<wr.heap.size:=by omega
   have hbpr:w.heap.size<wr.heap.size:=by omega
   have HROW:=hid hrow
   have HCN:=hid (rCs_succ (lgQ D h) k)
   obtain ⟨i0,hi,hz0,hz1,hz2⟩:=info_parts slTx.info
   clear hrow
   go_upto_region 5 with fail
   refine wp_held_list (fun W'=>Below wr.heap.size wr W') [0,1,2,3,4,5,6,7] [8,9,10] 11 (by kernel_rfl) (by kernel_rfl) ⟨rfl,rfl,rfl,Nat.le_refl _,fun _ _=>rfl⟩ ?_
   iterate 8
    refine wpTakeL_step rfl ?_ rfl ?_ ?_
    rotate_left
    ·intro W' hS'
     have s1:=(hS'.cell (p:=⟨bl,k,none⟩) hblr).trans A1
     have s2:=(hS'.cell (p:=⟨w.heap.size,3,none⟩) hbpr).trans e3
     go_simp
     try with_reducible rfl
    try simp only [zA,zB,zC,Act.put,zD,zE,zF]
   have hH0:Below wr.heap.size wr wr.drew:=⟨rfl,rfl,rfl,Nat.le_refl _,fun _ _=>rfl⟩
   refine wpKeepL_step rfl rfl (fun K hK=>?_)
   go_simp
   refine (H1.out _ (hgr.below hH0)).mono ?_
   rintro e v4 ⟨rfl,hv4⟩
   have hH1:=hH0.trans (hv4.mono hH0.size)
   refine hK _ _ ⟨hH1,?_⟩
   clear hK K
   try simp only [zA,zB,zC,Act.put,zD,zE,zF]
   refine wpKeepL_step rfl rfl (fun K hK=>?_)
   go_simp
   refine (H2.out _ (hgr.below hH1)).mono ?_
   rintro e v5 ⟨rfl,hv5⟩
   have hH2:=hH1.trans (hv5.mono hH1.size)
   refine hK _ _ ⟨hH2,?_⟩
   clear hK K
   try simp only [zA,zB,zC,Act.put,zD,zE,zF]
   refine wpKeepL_step rfl rfl (fun K hK=>?_)
   go_simp
   refine hK _ _ ⟨hH2.trans ((alloc_below _ _).mono hH2.size),?_⟩
   clear hK K
   try simp only [zA,zB,zC,Act.put,zD,zE,zF]
   unfold wpKeepL
   simp only [List.drop_succ_cons,List.drop_zero]
   try simp only [zA,zB,zC,Act.put,zD,zE,zF]
   have hs05:=hH2.size
   have hrow5:=owns_below HROW.out hH2
   have hb15:=hbr.trans (hH2.mono hwr)
   have hb15s:=hb15.size
   clear A0 A1 e3 hv4 hv5 hH0 hH1
   refine wpKeep_step rfl (fun K hK=>?_)
   refine wp_append_own _ (.tmp 16) (.tmp 26) 31 rfl w1.heap.size 28 i0 (.string ⟨#[]⟩) 1 16 slTx.ht hi hz0 hz1 hz2 slTx.hzs slTx.hsz _ _ _ rfl (hrow5.alloc _) ⟨v5.heap.size,0,none⟩ 1 1 [.string (tx (lgQ D h k))] rfl rfl (cell_one_new _ _ _) (by simp [Value.oneCell']) (by unfold maxLen;omega) (by omega) (by simp;omega) ?_
   intro v' w5 hown5 hgrow _
   have hb5:Below w1.heap.size w1 w5:=(hb15.trans ((alloc_below v5 _).mono hb15s)).grown hgrow (by simp;omega) (fun g hg=>(hrow5.lt g hg).1)
   have HO5:=hid hown5
   clear hown5 hrow5 hgrow
   refine hK _ _ ⟨trivial,?_⟩
   clear hK K
   try simp only [Act.put,List.setIfInBounds_toArray,List.set_cons_zero,List.set_cons_succ]
   refine wpKeep_step rfl (fun K hK=>?_)
   go_simp
   refine hK _ _ ⟨trivial,wpKeep_nil ?_⟩
   clear hK K
   try simp only [zA,zB,zC,Act.put,zD,zE,zF]
   refine NormalOnly.mk ?_
   go_wp2
   exact ⟨⟨k+1,by omega,int_succ k,by rw [HCN.out];exact HO5.out,hb5⟩,by show D.length-((k:Int)+1).toNat<D.length-((k:Int)).toNat;omega⟩
  ·obtain rfl:k=D.length:=by omega
   have hkn:decide ((D.length:Int)<(D.length:Int))=false:=decide_eq_false (by omega)
   obtain ⟨m,hm⟩ : ∃ m,D.length=m+1:=⟨D.length-1,by omega⟩
   have HRW:=hid hrow
   obtain ⟨g',cap',rfl⟩:=ownsRow_succ (by rw [hm] at hrow;exact hrow)
   rw [←hm] at HRW
   have HTX:=hid (txs_of_row HRW.out)
   have HFR:=hid (HRW.out.lt g' rfl).1
   rw [hm] at HTX
   clear hrow HRW
   go_wp2_with fail
   go_ret
   exact ⟨_,rfl,by unfold lgL;rw [hm];exact HTX.out,fun a n c e=>by cases e;exact Nat.le_trans hws HFR.out,hbw1.trans (hbr.mono hws)⟩
theorem sgnR_le (q:Rat):decide (sgnR q≤0)=!decide (0<q):=by
 by_cases h:0<q
 ·have h1:0<q.num:=by
   rcases Int.lt_trichotomy q.num 0 with h1 | h1 | h1
   ·exact absurd (num_neg_iff.2 h1) (Rat.not_lt.2 (Rat.le_of_lt h))
   ·exact absurd (num_zero_iff.2 h1) (Rat.ne_of_gt h)
   ·exact h1
  rw [decide_eq_true h,sgnR,sgn_pos h1];decide
 ·by_cases h0:q<0
  ·rw [decide_eq_false h,sgnR,sgn_neg (num_neg_iff.1 h0)];decide
  ·have h2:q=0:=Rat.le_antisymm (Rat.not_lt.1 h) (Rat.not_lt.1 h0)
   rw [decide_eq_false h,h2];decide
def withinB (D:List (Rat × Rat)) (h:Rat):Bool:=(List.range D.length).all fun k=>decide (0<lgQ D h k)
theorem within_true {D:List (Rat × Rat)} {h:Rat}:withinB D h=true↔∀ k,k<D.length→0<lgQ D h k:=by unfold withinB;simp
theorem within_false {D:List (Rat × Rat)} {h:Rat} {k:Nat} (hk:k<D.length) (h0:¬ 0<lgQ D h k):withinB D h=false:=by
 rcases hb:withinB D h with _ | _
 ·rfl
 ·exact absurd (within_true.1 hb k hk) h0
theorem kink_within (s:QP) (D:List (Rat × Rat)) (hP:PrOk s D) (hnd:NoDiv D) (h:Rat) (hh:Sz 3000000 h) (vd vl:Value) (w:World) (hw:Good w) (hvd:Txs w vd (D.map (·.1))) (hvl:Txs w vl (D.map (·.2))) :
  Calls Tryz.prog 47 #[profV s vd vl,.string (tx h)] w (RV (.bool (withinB D h)) w):=by
 have HEN:=hid (fun (W:World) (hg:Good W) (h1:Txs W vd (D.map (·.1))) (h2:Txs W vl (D.map (·.2)))=>kink_lengths s D hP hnd h hh vd vl W hg h1 h2)
 have HVD:=hid hvd
 have HVL:=hid hvl
 have HSG:=hid (fun k w'=>rational_Sign (tx (lgQ D h k)) (lgQ D h k) (isR_mk _) (Nat.le_trans (hP.lgz hh k) (by decide)) w')
 have hn4:=hP.n
 obtain ⟨bd,cd,rfl,-,-,-,-⟩:=hvd
 obtain ⟨bl,cl,rfl,-,-,-,-⟩:=hvl
 have HL1:=hid (show (D.map (·.1)).length=D.length from List.length_map _)
 have HL2:=hid (show (D.map (·.2)).length=D.length from List.length_map _)
 rw [HL1.out,HL2.out] at HEN
 rw [HL1.out] at HVD
 rw [HL2.out] at HVL
 rw [HL1.out,HL2.out]
 obtain ⟨wA,hwA⟩ : ∃ wA,wA=w.alloc (profO s (.slice (some ⟨bd,0,none⟩) D.length cd) (.slice (some ⟨bl,0,none⟩) D.length cl)):=⟨_,rfl⟩
 have HWA:=hid hwA
 have hbA:Below w.heap.size w wA:=by rw [hwA];exact alloc_below _ _
 have HENA:=hid (HEN.out wA (hw.below hbA) (HVD.out.below hbA) (HVL.out.below hbA))
 obtain ⟨bo,hbo⟩ : ∃ bo,bo=withinB D h:=⟨_,rfl⟩
 rw [←hbo]
 have HBO:=hid hbo
 unfold profV profO at *
 clear hwA hP hnd HEN hbo
 go_enter Tryz.func47,Tryz.ntmps47
 go_wp2_with fail
 rw [←HWA.out]
 refine HENA.out.mono ?_
 rintro e w1 ⟨vg,rfl,hvg,-,hb1⟩
 obtain ⟨bg,cg,hvg',hgc,hgm,hbg,hgcell⟩:=hvg
 have HL3:=hid (show (lgL D h).length=D.length by unfold lgL;simp)
 rw [HL3.out] at hvg' hgc
 subst hvg'
 have HGC:=hid (fun k (hk:k<D.length)=>show w1.cell? ⟨bg,k,none⟩=some (.string (tx (lgQ D h k))) from (hgcell k (by rw [HL3.out];exact hk)).trans (by simp [lgL]))
 have hbw1:=hbA.trans (hb1.mono hbA.size)
 clear hgcell HENA HWA
 go_wp2_with fail
 go_loopw [6,11] (fun _ iv wr=>∃ k:Nat,k≤D.length∧iv=.int .i64 (k:Int)∧(∀ i,i<k→0<lgQ D h i)∧wr=w1) (fun _ iv _=>D.length-(intOf iv).toNat)
 case atStart=>exact ⟨0,Nat.zero_le _,rfl,fun i hi=>(by omega),rfl⟩
 case round =>
  obtain ⟨k,hk,rfl,hall,rfl⟩:=hrel
  have HALL:=hid hall
  clear hall
  by_cases hkl:k<D.length
  ·have A0:=HGC.out k hkl
   have i1:(0:Int)≤(k:Int):=by omega
   have i2:(k:Int)<(D.length:Int):=by omega
   have hkn:decide ((k:Int)<(D.length:Int))=true:=decide_eq_true i2
   have H1:=hid (HSG.out k)
   have HLE:=hid (sgnR_le (lgQ D h k))
   generalize sgnR (lgQ D h k)=sg at *
   go_wp2_with fail
   refine (H1.out _).mono ?_
   rintro e w2 ⟨rfl,rfl⟩
   by_cases hp:0<lgQ D h k
   ·have hd:decide (sg≤0)=false:=by rw [HLE.out,decide_eq_true hp];rfl
    have HP1:=hid hp
    clear hp
    go_wp2_with fail
    refine ⟨⟨k+1,by omega,int_succ k,fun i hi=>?_,trivial⟩,by show D.length-((k:Int)+1).toNat<D.length-((k:Int)).toNat;omega⟩
    rcases Nat.lt_or_ge i k with h1 | h1
    ·exact HALL.out i h1
    ·obtain rfl:i=k:=by omega
     exact HP1.out
   ·have hd:decide (sg≤0)=true:=by rw [HLE.out,decide_eq_false hp];rfl
    have HF:=hid (show bo=false by rw [HBO.out];exact within_false hkl hp)
    clear hp
    go_wp2_with fail
    go_ret
    exact ⟨by rw [HF.out];rfl,hbw1⟩
  ·obtain rfl:k=D.length:=by omega
   have hkn:decide ((D.length:Int)<(D.length:Int))=false:=decide_eq_false (by omega)
   have HF:=hid (show bo=true by rw [HBO.out];exact within_true.2 HALL.out)
   go_wp2_with fail
   go_ret
   exact ⟨by rw [HF.out];rfl,hbw1⟩
def PrIn (D:List (Rat × Rat)):Prop:=∀ x∈D,absQ x.1<1∧0<x.2
theorem sz_abs {n:Nat} {q:Rat} (h:Sz n q):Sz (n+1) (absQ q):=by
 unfold absQ
 split
 ·exact h.neg
 ·exact h.mono (by omega)
theorem kink_Check (s:QP) (D:List (Rat × Rat)) (hP:PrOk s D) (hI:PrIn D) (vd vl:Value) (w:World) (hw:Good w) (hvd:Txs w vd (D.map (·.1))) (hvl:Txs w vl (D.map (·.2))) :
  Calls Tryz.prog 46 #[profV s vd vl] w (RV (.int .i64 0) w):=by
 have HCP:=hid (fun w' (hg:Good w')=>vec_CheckPoint s hP.s1 hP.s2 w' hg)
 have HC1:=hid (fun k (hk:k<D.length) w' (hg:Good w')=>k_check (tK D k) (by rw [←tK_eq hk];exact (hP.d _ (List.getElem_mem hk)).1) w' hg)
 have HC2:=hid (fun k (hk:k<D.length) w' (hg:Good w')=>k_check (lK D k) (by rw [←lK_eq hk];exact (hP.d _ (List.getElem_mem hk)).2) w' hg)
 have HAB:=hid (fun k w'=>rat_Abs (tK D k) w')
 have HCM:=hid (fun k w' (hg:Good w')=>k_cmp (absQ (tK D k)) 1 ((sz_abs (hP.t k)).mono (by decide)) (by unfold Sz;rw [tx1];decide) w' hg)
 have HCN:=hid (fun k (hk:k<D.length)=>show decide (0≤cmpR (absQ (tK D k)) 1)=false from decide_eq_false (by
  have:=cmpR_neg.2 (show absQ (tK D k)<1 by rw [←tK_eq hk];exact (hI _ (List.getElem_mem hk)).1)
  omega))
 have HSG:=hid (fun k w'=>rational_Sign (tx (lK D k)) (lK D k) (isR_mk _) (Nat.le_trans (hP.l k) (by decide)) w')
 have HSN:=hid (fun k (hk:k<D.length)=>show decide (sgnR (lK D k)≤0)=false by
  rw [sgnR_le,decide_eq_true (show 0<lK D k by rw [←lK_eq hk];exact (hI _ (List.getElem_mem hk)).2)];rfl)
 have hn4:=hP.n
 have hn1:=hP.ne
 unfold RV ptV at HCP
 unfold RV at HC1 HC2 HAB HCM
 obtain ⟨bd,cd,rfl,-,-,hbd,hdc⟩:=hvd
 obtain ⟨bl,cl,rfl,-,-,hbl,hlc⟩:=hvl
 have HL1:=hid (show (D.map (·.1)).length=D.length from List.length_map _)
 have HL2:=hid (show (D.map (·.2)).length=D.length from List.length_map _)
 have HDC:=hid (fun k (hk:k<D.length)=>show w.cell? ⟨bd,k,none⟩=some (.string (tx (tK D k))) from (hdc k (by rw [HL1.out];exact hk)).trans (by rw [List.getElem_map,tK_eq hk]))
 have HLC:=hid (fun k (hk:k<D.length)=>show w.cell? ⟨bl,k,none⟩=some (.string (tx (lK D k))) from (hlc k (by rw [HL2.out];exact hk)).trans (by rw [List.getElem_map,lK_eq hk]))
 rw [HL1.out,HL2.out]
 obtain ⟨wA,hwA⟩ : ∃ wA,wA=w.alloc (profO s (.slice (some ⟨bd,0,none⟩) D.length cd) (.slice (some ⟨bl,0,none⟩) D.length cl)):=⟨_,rfl⟩
 have HWA:=hid hwA
 have hbA:Below w.heap.size w wA:=by rw [hwA];exact alloc_below _ _
 have hpA:wA.heap[w.heap.size]?=some (profO s (.slice (some ⟨bd,0,none⟩) D.length cd) (.slice (some ⟨bl,0,none⟩) D.length cl)):=by rw [hwA];exact World.alloc_heap_new _ _
 have HPA:=hid hpA
 have c1:((D.length:Int) == 0)=false:=beq_false_of_ne (by omega)
 have c2:decide ((20:Int)<(D.length:Int))=false:=decide_eq_false (by omega)
 unfold profV profO at *
 rw [tx1] at HCM
 clear hwA hP hI hdc hlc hpA
 go_enter Tryz.func46,Tryz.ntmps46
 go_wp2_with fail
 rw [←HWA.out]
 refine (HCP.out _ (hw.below hbA)).mono ?_
 rintro e w1 ⟨rfl,hb1⟩
 have hbw1:=hbA.trans (hb1.mono hbA.size)
 have hg1:=hw.below hbw1
 have hB0:=lt_of_some HPA.out
 have HP1:=hid ((hb1.block _ hB0).trans HPA.out)
 have hB1:=lt_of_some HP1.out
 obtain ⟨e0,e1,e2,e3⟩:=prof_cells HP1.out
 clear HWA hb1
 go_wp2_with fail
 clear e0 e1 e2 e3
 go_loopw [3,4,31] (fun _ _ iv wr=>∃ k:Nat,k≤D.length∧iv=.int .i64 (k:Int)∧Below w1.heap.size w1 wr) (fun _ _ iv _=>D.length-(intOf iv).toNat)
 case atStart=>exact ⟨0,Nat.zero_le _,rfl,Below.refl _ _⟩
 case round =>
  obtain ⟨k,hk,rfl,hbr⟩:=hrel
  have hwr:=hbr.size
  have hgr:=hg1.below hbr
  have hws:=hbw1.size
  by_cases hkl:k<D.length
  ·have HR1:=hid ((hbr.block _ hB1).trans HP1.out)
   have i1:(0:Int)≤(k:Int):=by omega
   have i2:(k:Int)<(D.length:Int):=by omega
   have hkn:decide ((k:Int)<(D.length:Int))=true:=decide_eq_true i2
   have A0:=(hbr.cell (p:=⟨bd,k,none⟩) (by show bd<_;omega)).trans ((hbw1.cell (p:=⟨bd,k,none⟩) hbd).trans (HDC.out k hkl))
   have HA1:=hid ((hbr.cell (p:=⟨bl,k,none⟩) (by show bl<_;omega)).trans ((hbw1.cell (p:=⟨bl,k,none⟩) hbl).trans (HLC.out k hkl)))
   have H1:=hid (HC1.out k hkl)
   have H2:=hid (HC2.out k hkl)
   have H3:=hid (HAB.out k)
   have H4:=hid (HCM.out k)
   have H5:=hid (HSG.out k)
   have n4:=HCN.out k hkl
   have n5:=HSN.out k hkl
   generalize cmpR (absQ (tK D k)) 1=cm at *
   generalize sgnR (lK D k)=sg at *
   clear HC1 HC2 HAB HCM HCN HSG HSN HCP
   go_wp2_with fail
   refine (H1.out _ hgr).mono ?_
   rintro e w2 ⟨rfl,hb2⟩
   have hs2:=hb2.size
   have hb12:=hbr.trans (hb2.mono hwr)
   have A1:=(hb2.cell (p:=⟨bl,k,none⟩) (by show bl<_;omega)).trans HA1.out
   obtain ⟨_,_,_,e3⟩:=prof_cells ((hb2.block _ (by omega)).trans HR1.out)
   go_wp2_with fail
   refine (H2.out _ (hg1.below hb12)).mono ?_
   rintro e w3 ⟨rfl,hb3⟩
   have hb13:=hb12.trans (hb3.mono hb12.size)
   clear A1 e3
   go_wp2_with fail
   refine (H3.out _).mono ?_
   rintro e w4 ⟨rfl,hb4⟩
   have hb14:=hb13.trans (hb4.mono hb13.size)
   go_wp2_with fail
   refine (H4.out _ (hg1.below hb14)).mono ?_
   rintro e w5 ⟨rfl,hb5⟩
   have hb15:=hb14.trans (hb5.mono hb14.size)
   have hb15s:=hb15.size
   have A2:=((hbw1.trans (hb15.mono hws)).cell (p:=⟨bl,k,none⟩) hbl).trans (HLC.out k hkl)
   obtain ⟨_,_,_,e3⟩:=prof_cells ((hb15.block _ hB1).trans HP1.out)
   go_wp2_with fail
   refine (H5.out _).mono ?_
   rintro e w6 ⟨rfl,rfl⟩
   go_wp2_with fail
   exact ⟨⟨k+1,by omega,int_succ k,hb15⟩,by show D.length-((k:Int)+1).toNat<D.length-((k:Int)).toNat;omega⟩
  ·obtain rfl:k=D.length:=by omega
   have hkn:decide ((D.length:Int)<(D.length:Int))=false:=decide_eq_false (by omega)
   go_wp2_with fail
   go_ret
   exact ⟨rfl,hbw1.trans (hbr.mono hws)⟩
end Go.Proofs.YtogdahbbogimcaaGreatDoor
