import Derived.Test.YtogdahbbogimcaaGreatDoorC7Z
set_option maxRecDepth 100000
set_option maxHeartbeats 4000000
namespace Go.Proofs.YtogdahbbogimcaaGreatDoor
open Go.RowKit Go.Shelf
open Go.Lib (decDigits itoa nDigits)
open Go.Lib (hid)
theorem OutS.below {B:Nat} {w w':World} {v:Value} {k:Nat} {s:Rat} (h:OutS B w v k s) (hb:Below w.heap.size w w'):OutS B w' v k s:=by
 rcases h with h | ⟨h0,b,h1,h2⟩
 ·exact .inl h
 ·exact .inr ⟨h0,b,h1,h2.below hb⟩
def AddPost (B k:Nat) (s:Rat) (w:World) (e:Ending) (w':World):Prop:=∃ v,e=.returned v∧OutS B w' v (k+1) s∧Below B w w'
theorem surd_add (v:Value) (B k:Nat) (s q:Rat) (h1:Sz 10000000 s) (h2:Sz 10000000 q) (h0:k=0→s=0) (w:World) (hw:Good w) (hBw:B≤w.heap.size) (hO:OutS B w v k s) :
  Calls Tryz.prog 128 #[v,.agg #[.string (tx q),.string ⟨#[49]⟩]] w (AddPost B k (s+q) w):=by
 rcases hO with ⟨rfl,rfl⟩ | ⟨hk,b,hb,hs⟩
 ·refine (surd_add_nil q w).mono ?_
  rintro e w' ⟨v,b,he,hb,hs,hw'⟩
  rw [h0 rfl,Rat.zero_add]
  exact ⟨v,he,.inr ⟨Nat.succ_pos _,b,Nat.le_trans hBw hb,hs⟩,hw'.mono hBw⟩
 ·refine (surd_add_one v b B s q h1 h2 hb w hw hBw hs).mono ?_
  rintro e w' ⟨he,hs',hw'⟩
  exact ⟨v,he,.inr ⟨Nat.succ_pos _,b,hb,hs'⟩,hw'⟩
theorem sumR_take {Q:List Rat} {k:Nat} (h:k<Q.length):sumR (Q.take (k+1))=sumR (Q.take k)+Q[k]:=by
 rw [List.take_add_one,List.getElem?_eq_getElem h]
 exact sumR_snoc _ _
theorem surd_sum (v:Value) (B:Nat) (Q:List Rat) (hQ:∀ q∈Q,Sz 10000000 q) (hP:∀ k,k≤Q.length→Sz 10000000 (sumR (Q.take k))) (h0:sumR Q≠0) (hn1:0<Q.length) (hn:Q.length≤1000) (w:World) (hw:Good w) (hv:Surds w v B Q) :
  Calls Tryz.prog 105 #[v,.func (.func 106) #[] #[]] w (FreshS (sumR Q) w):=by
 have hBs:B≤w.heap.size:=by obtain ⟨_,_,_,_,_,_,h,_⟩:=hv;exact h
 have HV:=hid (fun wr (hb:Below w.heap.size w wr)=>hv.below (hb.mono hBs) (Nat.le_trans hBs hb.size))
 have HA:=hid (fun v k (hk:k<Q.length) wr (hg:Good wr) (hb:w.heap.size≤wr.heap.size) (hO:OutS w.heap.size wr v k (sumR (Q.take k)))=>surd_add v w.heap.size k (sumR (Q.take k)) Q[k] (hP k (by omega)) (hQ _ (List.getElem_mem hk)) (by rintro rfl;rfl) wr hg hb hO)
 have HMU:=hid (fun k (hk:k<Q.length) w' (hg:Good w')=>k_mul Q[k] 1 ((hQ _ (List.getElem_mem hk)).mono (by decide)) (by unfold Sz;rw [tx1];decide) w' hg)
 rw [tx1] at HMU
 have HFS:=hid (fun i w'=>surd_SumF i w')
 have heg:=enter_SumF
 have HDL:=hid (fun v b w' (hg:Good w') (h:Surd1 w' v b (sumR Q))=>surd_Delete v b (sumR Q) h0 w' hg h)
 have HSO:=hid (fun b c fv w'=>surd_Sort b c fv w')
 obtain ⟨a,c,rfl,h2,h3,h4,h5,_⟩:=hv
 have hb:=Below.refl w.heap.size w
 have hal:a<w.heap.size:=Nat.lt_of_lt_of_le h4 h5
 have H00:=hid (show OutS w.heap.size w (.slice none 0 0) 0 (sumR (Q.take 0)) from .inl ⟨rfl,rfl⟩)
 unfold RV at *
 clear hQ hP h0
 go_enter Tryz.func105,Tryz.ntmps105
 go_wp2_with fail
 go_loopw [5,12] (fun ov iv wr=>∃ k:Nat,k≤Q.length∧iv=.int .i64 (k:Int)∧OutS w.heap.size wr ov k (sumR (Q.take k))∧Below w.heap.size w wr) (fun _ iv _=>Q.length-(intOf iv).toNat)
 case atStart=>exact ⟨0,Nat.zero_le _,rfl,H00.out,hb⟩
 case round =>
  clear hb H00
  obtain ⟨k,hkl,rfl,hO,hbr⟩:=hrel
  have HO:=hid hO
  clear hO
  by_cases hk:k<Q.length
  ·have hkn:decide ((k:Int)<(Q.length:Int))=true:=decide_eq_true (by omega)
   have i1:(0:Int)≤(k:Int):=by omega
   have i2:(k:Int)<(Q.length:Int):=by omega
   obtain ⟨a',c',e,_,_,_,_,hx⟩:=HV.out wr hbr
   cases e
   obtain ⟨u,b,k1,k2,k3⟩:=hx k hk
   have HK3:=hid k3
   have HAD:=hid (fun v wr=>HA.out v k hk wr)
   have HM:=hid (HMU.out k hk)
   rw [Rat.mul_one] at HM
   have HTK:=hid (sumR_take hk)
   generalize Q[k]=q at *
   obtain ⟨c2,cur,rfl,_⟩:=k3
   have hblr:a<wr.heap.size:=Nat.lt_of_lt_of_le hal hbr.size
   have hbw:b<w.heap.size:=Nat.lt_of_lt_of_le k2 hBs
   clear hx
   obtain ⟨wo,hwo⟩ : ∃ wo,wo=wr:=⟨_,rfl⟩
   subst hwo
   go_wp2_with fail
   go_loopw [5,19] (fun ov iv wr=>(iv=.int .i64 0∧OutS w.heap.size wr ov k (sumR (Q.take k))∧Below w.heap.size w wr∧Below wo.heap.size wo wr)∨(iv=.int .i64 1∧OutS w.heap.size wr ov (k+1) (sumR (Q.take (k+1)))∧Below w.heap.size w wr)) (fun _ iv _=>1-(intOf iv).toNat)
   case atStart=>exact .inl ⟨rfl,HO.out,hbr,Below.refl _ _⟩
   case round =>
    rcases hrel with ⟨rfl,hO1,hb1,hbo⟩ | ⟨rfl,hO1,hb1⟩
    ·obtain ⟨wi,hwi⟩ : ∃ wi,wi=wr:=⟨_,rfl⟩
     subst hwi
     have HOI:=hid hO1
     obtain ⟨_,_,_,_,hbl,d0,d1,_,_⟩:=(HK3.out.below hbo).cells
     obtain ⟨t,ht⟩ : ∃ t,t=tx q:=⟨_,rfl⟩
     rw [←ht] at d0 HM HAD
     clear ht hO1
     go_upto_region 8 with fail
     obtain ⟨wC,hwC⟩ : ∃ wC,wC=wi.alloc (Obj.cells #[.string t,.string ⟨#[49]⟩] 78):=⟨_,rfl⟩
     have hbC:Below wi.heap.size wi wC:=by rw [hwC];exact alloc_below _ _
     obtain ⟨m0,m1,_,_⟩:=two_cells (show wC.heap[wi.heap.size]?=some (.cells #[.string t,.string ⟨#[49]⟩] 78 (0,0)) by rw [hwC];exact World.alloc_heap_new _ _)
     have hl2:wi.heap.size<wC.heap.size:=by rw [hwC];simp
     rw [←hwC]
     clear hwC
     have hbZ:=hb1.trans (hbC.mono hb1.size)
     have HOZ:=hid (HOI.out.below hbC)
     have HF:=hid (HFS.out (k:Int))
     clear HOI HO d0 d1
     go_wp2_with fail
     refine wp_held_pl (fun W'=>Below wC.heap.size wC W') (.take 0 (.take 1 (.take 2 (.take 3 (.take 4 (.take 7 (.take 8 (.one 5 (.one 6 (.take 9 .fin)))))))))) 10 (by kernel_rfl) (by kernel_rfl) ⟨rfl,rfl,rfl,Nat.le_refl _,fun _ _=>rfl⟩ ?_
     have hP0:Below wC.heap.size wC wC.drew:=⟨rfl,rfl,rfl,Nat.le_refl _,fun _ _=>rfl⟩
     generalize wC.drew=pv0 at *
     iterate 7
      refine wpPl_take rfl ?_ rfl ?_ ?_
      rotate_left
      ·intro W' hS'
       have s0:=(hS'.cell (p:=⟨wi.heap.size,0,none⟩) hl2).trans m0
       have s1:=(hS'.cell (p:=⟨wi.heap.size,1,none⟩) hl2).trans m1
       go_simp
       try with_reducible rfl
      try simp only [zA,zB,zC,Act.put,zD,zE,zF]
     refine wpPl_keep rfl rfl (fun K hK=>?_)
     go_simp
     refine (HF.out _).mono ?_
     rintro e pv1 ⟨rfl,hbpv1⟩
     have hP1:=hP0.trans (hbpv1.mono hP0.size)
     refine hK _ _ ⟨hP1,?_⟩
     clear hK K
     try simp only [zA,zB,zC,Act.put,zD,zE,zF]
     refine wpPl_keep rfl rfl (fun K hK=>?_)
     go_simp
     refine (HM.out _ (hw.below (hbZ.trans (hP1.mono hbZ.size)))).mono ?_
     rintro e pv2 ⟨rfl,hbpv2⟩
     have hP2:=hP1.trans (hbpv2.mono hP1.size)
     refine hK _ _ ⟨hP2,?_⟩
     clear hK K
     try simp only [zA,zB,zC,Act.put,zD,zE,zF]
     refine wpPl_take rfl ?_ rfl ?_ ?_
     rotate_left
     ·intro W' hS'
      have s0:=(hS'.cell (p:=⟨wi.heap.size,0,none⟩) hl2).trans m0
      have s1:=(hS'.cell (p:=⟨wi.heap.size,1,none⟩) hl2).trans m1
      go_simp
      try with_reducible rfl
     try simp only [zA,zB,zC,Act.put,zD,zE,zF]
     unfold wpPl
     simp only [List.drop_succ_cons,List.drop_zero]
     have hbY:=hbZ.trans (hP2.mono hbZ.size)
     have hOY:=HOZ.out.below hP2
     go_wp2_with fail
     refine (HAD.out _ pv2 (hw.below hbY) hbY.size hOY).mono ?_
     rintro e w9 ⟨v9,rfl,hO9,hb9⟩
     have hO9':=HTK.out.symm ▸ hO9
     have HO9:=hid hO9'
     clear hO9 hO9' hOY
     go_wp2
     refine NormalOnly.mk ?_
     go_wp2
     refine ⟨.inr ⟨rfl,HO9.out,hbY.trans hb9⟩,?_⟩
     decide
    ·have HO1:=hid hO1
     clear hO1
     go_wp2
     refine ⟨⟨k+1,hk,int_succ k,HO1.out,hb1⟩,?_⟩
     show Q.length-((k:Int)+1).toNat<Q.length-((k:Int)).toNat
     omega
  ·have hkn:decide ((k:Int)<(Q.length:Int))=false:=decide_eq_false (by omega)
   have hO:=HO.out
   rw [show k=Q.length by omega,List.take_length] at hO
   rcases hO with ⟨h,_⟩ | ⟨_,b,hb1,hs1⟩
   ·omega
   ·have HS1:=hid hs1
    obtain ⟨cc,rfl,_,_,_,_,_,_,_⟩:=hs1.cells
    have HD:=hid (HDL.out _ b wr (hw.below hbr) hs1)
    clear hs1 HO
    go_wp2_with fail
    refine HD.out.mono ?_
    rintro e w1 ⟨rfl,hw1⟩
    go_wp2_with fail
    refine (HSO.out _ _ _ _).mono ?_
    rintro e w2 ⟨rfl,hw2⟩
    have hb3:=hw1.trans (hw2.mono hw1.size)
    go_wp2
    go_ret
    exact ⟨_,b,rfl,hb1,HS1.out.below hb3,hbr.trans (hb3.mono hbr.size)⟩
theorem surd_Sum (v:Value) (B:Nat) (Q:List Rat) (hQ:∀ q∈Q,OkB q∧q≠0) (hP:∀ k,k≤Q.length→Sz 10000000 (sumR (Q.take k))) (h0:sumR Q≠0) (hok:OkB (sumR Q)) (hn1:0<Q.length) (hn:Q.length≤1000) (w:World) (hw:Good w) (hv:Surds w v B Q) :
  Calls Tryz.prog 69 #[v] w (SurdPost (sumR Q) w):=by
 have hBs:B≤w.heap.size:=by obtain ⟨_,_,_,_,_,_,h,_⟩:=hv;exact h
 have HC:=hid (surd_checkAll v B Q hQ hn w hw hv)
 have HS:=hid (fun w' (hb:Below w.heap.size w w')=>surd_sum v B Q (fun q h=>(hQ q h).1.sz.mono (by decide)) hP h0 hn1 hn w' (hw.below hb) (hv.below (hb.mono hBs) (Nat.le_trans hBs hb.size)))
 have HR:=hid (fun v b w' (hg:Good w') (h:Surd1 w' v b (sumR Q))=>surd_result v b (sumR Q) hok w' hg h)
 unfold RV FreshS at *
 unfold SurdPost
 generalize sumR Q=s at *
 clear hQ hP hv h0 hok
 go_enter Tryz.func69,Tryz.ntmps69
 go_wp2_with fail
 refine HC.out.mono ?_
 rintro e w1 ⟨rfl,hb1⟩
 go_wp2_with fail
 refine (HS.out w1 hb1).mono ?_
 rintro e w2 ⟨u,b,rfl,hub,hs,hb2⟩
 have hb3:=hb1.trans (hb2.mono hb1.size)
 have HR2:=hid (HR.out u b w2 (hw.below hb3) hs)
 have HS2:=hid hs
 clear hs
 go_wp2_with fail
 refine HR2.out.mono ?_
 rintro e w3 ⟨rfl,hb4⟩
 go_wp2
 go_ret2
 exact ⟨u,b,rfl,HS2.out.below hb4,Nat.le_trans hb1.size hub,hb3.trans (hb4.mono hb3.size)⟩
end Go.Proofs.YtogdahbbogimcaaGreatDoor
