import Derived.Test.YtgohnjdgoglcfaaGreatDoorU2Z
set_option maxRecDepth 100000
set_option maxHeartbeats 8000000
namespace Go.Proofs.YtgohnjdgoglcfaaGreatDoor
open Go.RowKit Go.Shelf
open Go.Lib (decDigits itoa nDigits)
open Go.Lib (hid)
attribute [local go_sem] Oper.semAt_some
def whereP (P:List QP) (x:QP):Int:=leastTo P x sgnR P.length
structure WhInv (wS:World) (b8 Bp:Nat) (P:List QP) (x:QP) (k:Nat) (W:World):Prop where
 low:Below b8 wS W
 cell:W.heap[b8]?=some (.cells #[.int .i64 (leastTo P x sgnR k)] 3 (0,0))
 box:W.heap[Bp]?=wS.heap[Bp]?
 sz:wS.heap.size≤W.heap.size
theorem WhInv.own {T:TypeId} {wS:World} {b8 Bp:Nat} {P:List QP} {x:QP} (h8:b8<wS.heap.size) (hp:Bp<wS.heap.size):OwnT T wS.heap.size (WhInv wS b8 Bp P x):=by
 intro k X Y row ⟨h1,h2,h3,h4⟩ hg hr
 refine ⟨below_keptT h1 (by omega) (by omega) hg hr,?_,?_,Nat.le_trans h4 hg.size⟩
 ·refine (hg.block _ (by omega) fun e=>?_).trans h2
  have:=(hr _ e.symm).1
  omega
 ·refine (hg.block _ (by omega) fun e=>?_).trans h3
  have:=(hr _ e.symm).1
  omega
theorem pg_where_in (v:Value) (P:List QP) (x:QP) (hP:Poly P) (h60:P.length≤60) (hz:∀ p∈P,OkB p.1∧OkB p.2) (hx:OkB x.1∧OkB x.2) (w:World) (hw:Good w) (hv:Pts w v P) :
  CallsIn Fence.wide 9 Tryz.prog 29 #[v,ptV x] w (RV (.tuple #[.int .i64 (whereP P x),.int .i64 0]) w):=by
 have h3:=hP.1.1
 have hz2:∀ p∈P,Sz2 402 p:=fun p hp=>okP_sz (hz p hp)
 have HC:=hid (fun w' (hg:Good w') (hp:Pts w' v P)=>pg_checkP v P h3 h60 hz w' hg hp)
 rw [polyC_poly hP] at HC
 have HCX:=hid (fun w' (hg:Good w')=>vec_pointS (tx x.1) (tx x.2) (Nat.le_trans hx.1.sz (by decide)) (Nat.le_trans hx.2.sz (by decide)) w' hg)
 rw [OkB.two hx] at HCX
 simp only [if_true] at HCX
 have HTU:=hid (fun k (hk:k<P.length) w' (hg:Good w')=>pg_turn (pt P k) (pt P (nxI P.length k)) x ((hz2 _ (pt_mem hk)).mono (by decide)) ((hz2 _ (pt_mem (nxI_lt (by omega)))).mono (by decide)) ((okP_sz hx).mono (by decide)) w' hg)
 have HSD:=hid (fun p m c W=>pg_sides 8 p m c W)
 unfold RV at HC HCX HTU
 unfold ptV at HTU ⊢
 have HV:=hid hv
 have hP0:0<P.length:=by omega
 obtain ⟨p,c,rfl,hcl,hcm⟩:=hv.slice
 clear hz hz2 hx hP hv
 obtain ⟨x1,hx1⟩ : ∃ x1,x1=tx x.1:=⟨_,rfl⟩
 obtain ⟨x2,hx2⟩ : ∃ x2,x2=tx x.2:=⟨_,rfl⟩
 rw [←hx1,←hx2] at HCX HTU
 rw [←hx1,←hx2]
 clear hx1 hx2
 obtain ⟨wA,hwA⟩ : ∃ wA,wA=w.alloc (Obj.cells #[.string x1,.string x2] 31):=⟨_,rfl⟩
 have HWA:=hid hwA
 obtain ⟨hbA,lA,a0,a1⟩:=box_new hwA
 refine callsIn_of_wp_marks Tryz.func29 rfl trivial ?_ rfl
 simp only [Tryz.ntmps29,List.size_toArray,List.length_cons,List.length_nil,Nat.reduceAdd,Nat.reduceSub,Array.replicate_succ,Array.replicate_zero,List.push_toArray,List.append_toArray,List.nil_append,List.cons_append]
 clear hwA
 gi_wp2
 rw [←HWA.out]
 refine ⟨trivial,?_⟩
 refine (callsIn_wide.2 (HC.out wA (hw.below hbA) (HV.out.below hbA))).mono ?_
 rintro e w1 ⟨rfl,h1⟩
 have hb1:=hbA.trans (h1.mono hbA.size)
 have l1:=Nat.lt_of_lt_of_le lA h1.size
 replace a0:=(h1.cell (p:=⟨w.heap.size,0,none⟩) lA).trans a0
 replace a1:=(h1.cell (p:=⟨w.heap.size,1,none⟩) lA).trans a1
 clear HWA
 gi_wp2
 refine ⟨trivial,?_⟩
 refine (callsIn_wide.2 (HCX.out w1 (hw.below hb1))).mono ?_
 rintro e w2 ⟨rfl,h2⟩
 have hb2:=hb1.trans (h2.mono hb1.size)
 have l2:=Nat.lt_of_lt_of_le l1 h2.size
 replace a0:=(h2.cell (p:=⟨w.heap.size,0,none⟩) l1).trans a0
 replace a1:=(h2.cell (p:=⟨w.heap.size,1,none⟩) l1).trans a1
 obtain ⟨wL,hwL⟩ : ∃ wL,wL=w2.alloc (Obj.cells #[.int .i64 1] 3):=⟨_,rfl⟩
 have HWL:=hid hwL
 have hbL:Below w2.heap.size w2 wL:=by rw [hwL];exact alloc_below _ _
 have hsL:wL.heap.size=w2.heap.size+1:=by rw [hwL];simp
 have hcL:wL.heap[w2.heap.size]?=some (.cells #[.int .i64 1] 3 (0,0)):=by rw [hwL];exact World.alloc_heap_new _ _
 have HCL:=hid hcL
 clear hwL hcL
 gi_wp2
 rw [←HWL.out]
 have hbL2:=hb2.trans (hbL.mono hb2.size)
 refine ⟨trivial,?_⟩
 refine (HSD.out p P.length c wL).mono ?_
 rintro e wS ⟨rfl,hwS⟩
 have hbS:Below wL.heap.size wL wS:=by rw [hwS];exact alloc_below _ _
 have hsS:wS.heap.size=wL.heap.size+1:=by rw [hwS];simp
 have hxS:wS.heap[wL.heap.size]?=some (slBox (.slice p P.length c)):=by rw [hwS];exact World.alloc_heap_new _ _
 have HXS:=hid hxS
 have hs2S:w2.heap.size<wS.heap.size:=by omega
 have hsLS:wL.heap.size<wS.heap.size:=by omega
 have hsL2:w2.heap.size<wL.heap.size:=by omega
 have hbwS:=hbL2.trans (hbS.mono hbL2.size)
 have hb2S:=hbL.trans (hbS.mono (Nat.le_of_lt hsL2))
 have hw2s:=hb2.size
 have hcS:=(hbS.block _ hsL2).trans HCL.out
 have HCS:=hid hcS
 clear hwS hxS hsS hsL HWL HCL hcS
 gi_wp2
 refine wpIn_rangeFunc_side (n:=9) 23 24 9 10 P rfl (by decide) (gf:=112) (lb:=#[.pointer (some ⟨wL.heap.size,0,none⟩)]) rfl trivial (enters_of Tryz.func112 (by kernel_rfl) rfl)
  (sides_at 64 8 (by decide) wL.heap.size w P _ HV.out hP0 (by omega) wS hbwS HXS.out)
  KeepQ.trans (KeepQ.put (by omega) hsLS) (Below.refl _ _) (fun _=>rfl)
  (WhInv wS w2.heap.size wL.heap.size P x) (fun _ _ _=>False) (WhInv.own hs2S hsLS) (fun _ _ _ _ _ hs _ _=>hs)
  ⟨Below.refl _ _,HCS.out,rfl,Nat.le_refl _⟩ ?assign ?body ?done ?stop
 case assign =>
  intro l k hk W K hi hK
  have hsz:=hi.sz
  simp only [sideE,ptV]
  obtain ⟨hbb,b1,b2⟩:=boxes2 (w:=W) (a:=.string (tx (pt P k).1)) (b:=.string (tx (pt P k).2)) (c:=.string (tx (pt P (nxI P.length k)).1)) (d:=.string (tx (pt P (nxI P.length k)).2)) (t:=31) rfl
  have HBB:=hid hbb
  have HB1:=hid b1
  have HB2:=hid b2
  clear hbb b1 b2
  generalize hp1:tx (pt P k).1=p1 at *
  generalize hp2:tx (pt P k).2=p2 at *
  generalize hq1:tx (pt P (nxI P.length k)).1=q1 at *
  generalize hq2:tx (pt P (nxI P.length k)).2=q2 at *
  have HPQ:=hid (And.intro hp1 (And.intro hp2 (And.intro hq1 hq2)))
  clear hp1 hp2 hq1 hq2
  gi_wp2
  obtain ⟨hp1,hp2,hq1,hq2⟩:=HPQ.out
  subst hp1 hp2 hq1 hq2
  exact hK _ _ (keepsFrom_below HBB.out) (KeepQ.of_below HBB.out (by omega) (by omega)) ⟨hi.low.trans (HBB.out.mono (by omega)),(HBB.out.block _ (by omega)).trans hi.cell,(HBB.out.block _ (by omega)).trans hi.box,Nat.le_trans hsz HBB.out.size⟩ ⟨W.heap.size,W.heap.size+1,hsz,by omega,HB1.out,HB2.out,rfl⟩
 case body =>
  rintro l k hk a' W hl hinv ⟨B1,B2,hB1,hB2,hd1,hd2,rfl⟩
  simp only [List.setIfInBounds_toArray,List.set_cons_zero,List.set_cons_succ,ptV]
  have hsW:=hinv.sz
  have hlow:=hinv.low
  have hgW:Good W:=hw.below (hbwS.trans (hlow.mono (by omega)))
  have HINV:=hid hinv
  have lx:w.heap.size<W.heap.size:=by omega
  have e0:=(hlow.cell (p:=⟨w.heap.size,0,none⟩) l2).trans ((hb2S.cell (p:=⟨w.heap.size,0,none⟩) l2).trans a0)
  have e1:=(hlow.cell (p:=⟨w.heap.size,1,none⟩) l2).trans ((hb2S.cell (p:=⟨w.heap.size,1,none⟩) l2).trans a1)
  have lb1:=lt_of_blk hd1
  have lb2:=lt_of_blk hd2
  obtain ⟨x0,x1',_,_⟩:=two_cells hd1
  obtain ⟨y0,y1',_,_⟩:=two_cells hd2
  have hce:=hinv.cell
  have l8:=lt_of_blk hce
  obtain ⟨z0,_⟩:=one_cell hce
  have H1:=hid (HTU.out k hk)
  have HLE:=hid (show min (leastTo P x sgnR k) (sgnR (crs (pt P k) (pt P (nxI P.length k)) x))=leastTo P x sgnR (k+1) from rfl)
  clear hinv hd1 hd2 HTU
  generalize tx (pt P k).1=p1 at *
  generalize tx (pt P k).2=p2 at *
  generalize tx (pt P (nxI P.length k)).1=q1 at *
  generalize tx (pt P (nxI P.length k)).2=q2 at *
  generalize leastTo P x sgnR k=lst at *
  generalize sgnR (crs (pt P k) (pt P (nxI P.length k)) x)=g at *
  gi_wp2
  refine wpIn_held_list lifts_round (fun W'=>Below W.heap.size W W') [0,1,2,3] [4] 5 (by kernel_rfl) (by kernel_rfl) (by kernel_rfl) ⟨rfl,rfl,rfl,Nat.le_refl _,fun _ _=>rfl⟩ ?_
  iterate 4
   refine wpTakeL_step rfl ?_ rfl ?_ ?_
   rotate_left
   ·intro W' hS'
    have s0:=(hS'.cell (p:=⟨B1,0,none⟩) lb1).trans x0
    have s1:=(hS'.cell (p:=⟨B1,1,none⟩) lb1).trans x1'
    have s2:=(hS'.cell (p:=⟨B2,0,none⟩) lb2).trans y0
    have s3:=(hS'.cell (p:=⟨B2,1,none⟩) lb2).trans y1'
    have s4:=(hS'.cell (p:=⟨w.heap.size,0,none⟩) lx).trans e0
    have s5:=(hS'.cell (p:=⟨w.heap.size,1,none⟩) lx).trans e1
    have s6:=(hS'.cell (p:=⟨w2.heap.size,0,none⟩) l8).trans z0
    go_simp
    try with_reducible rfl
   try simp only [zA,zB,zC,Act.put,zD,zE,zF]
  have hH0:Below W.heap.size W W.drew:=⟨rfl,rfl,rfl,Nat.le_refl _,fun _ _=>rfl⟩
  refine wpKeepL_step rfl rfl (fun K hK=>?_)
  go_simp
  refine (H1.out _ (hgW.below hH0)).mono ?_
  rintro e v1 ⟨rfl,hv1⟩
  have hH1:=hH0.trans (hv1.mono hH0.size)
  refine hK _ _ ⟨hH1,?_⟩
  clear hK K
  try simp only [zA,zB,zC,Act.put,zD,zE,zF]
  unfold wpKeepL
  simp only [List.drop_succ_cons,List.drop_zero]
  have hc1:=(hH1.block _ l8).trans HINV.out.cell
  obtain ⟨r0,r1⟩:=one_cell hc1
  have HC1:=hid hc1
  clear e0 e1 x0 x1' y0 y1' z0 hc1
  gi_wp2
  rw [HLE.out]
  refine ⟨(KeepsOthers.trans ⟨hH1.size,fun j o h _=>(hH1.block j (lt_of_some h)).trans h⟩ (KeepsOthers.setCell _ _ _)).from _,?_,?_⟩
  ·have hq1:w.heap.size≤W.heap.size:=by omega
   exact ⟨(hH1.mono hq1).setCell (p:=⟨w2.heap.size,0,none⟩) hw2s _,(Below.heap_setCell _ (⟨w2.heap.size,0,none⟩ : Addr) _ wL.heap.size (by show wL.heap.size≠w2.heap.size;omega)).trans (hH1.block _ (by omega))⟩
  ·have hz1:=hH1.size
   have hq1:w2.heap.size≤W.heap.size:=by omega
   have hq2:wS.heap.size≤v1.heap.size:=by omega
   refine ⟨hlow.trans ((hH1.mono hq1).setCell (p:=⟨w2.heap.size,0,none⟩) (Nat.le_refl _) _),?_,((Below.heap_setCell _ (⟨w2.heap.size,0,none⟩ : Addr) _ wL.heap.size (by show wL.heap.size≠w2.heap.size;omega)).trans (hH1.block _ (by omega))).trans HINV.out.box,by simpa [World.setCell] using hq2⟩
   exact set_block (.int .i64 (leastTo P x sgnR (k+1))) HC1.out
 case done =>
  rintro Dk W hD hinv hK
  have hce:=hinv.cell
  obtain ⟨z0,_⟩:=one_cell hce
  have hlow:=hinv.low
  have HWH:=hid (show whereP P x=leastTo P x sgnR P.length from rfl)
  rw [HWH.out]
  generalize leastTo P x sgnR P.length=g at *
  clear hinv hce
  gi_wp2
  refine ⟨by simp,.inl ⟨_,_,rfl,run_takeDeferred hK,?_⟩⟩
  refine ⟨.tuple #[.int .i64 g,.int .i64 0],by simp [results,Tryz.results29,go_sem],?_⟩
  exact ⟨by rw [HWH.out],(hbwS.trans (hlow.mono (by omega))).trans (putObj_below _ _ _ (by omega))⟩
 case stop =>
  rintro Dk c k W hD hk hf hK
  exact hf.elim
theorem pg_where (v:Value) (P:List QP) (x:QP) (hP:Poly P) (h60:P.length≤60) (hz:∀ p∈P,OkB p.1∧OkB p.2) (hx:OkB x.1∧OkB x.2) (w:World) (hw:Good w) (hv:Pts w v P) :
  Calls Tryz.prog 29 #[v,ptV x] w (RV (.tuple #[.int .i64 (whereP P x),.int .i64 0]) w):=callsIn_wide.1 (pg_where_in v P x hP h60 hz hx w hw hv)
end Go.Proofs.YtgohnjdgoglcfaaGreatDoor
