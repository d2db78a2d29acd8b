import Derived.Test.YtogdahbbogimcaaGreatDoorC6Z
import Derived.Test.YtogdahbbogimcaaGreatDoorHeldQZ
import Derived.Test.YtogdahbbogimcaaGreatDoorShB
set_option maxRecDepth 100000
set_option maxHeartbeats 4000000
namespace Go.Proofs.YtogdahbbogimcaaGreatDoor
open Go.RowKit Go.Shelf
open Go.Lib (decDigits itoa nDigits)
open Go.Lib (hid)
theorem slTm:SliceOf 46 78 (.agg #[.string ⟨#[]⟩,.string ⟨#[]⟩]) 2 32:=⟨Tryz.underlying46,by kernel_rfl,rfl,by decide⟩
theorem surd_sumF1 (q:Rat) (h0:q≠0) (w:World):Calls Tryz.prog 130 #[.agg #[.string (tx q),.string ⟨#[49]⟩]] w (RV (.bool false) w):=by
 have hz:((tx q).toList == [48])=false:=by rw [(isR_mk q).zero];exact decide_eq_false h0
 unfold RV
 generalize tx q=t at *
 have hb:=alloc_below w (Obj.cells #[.string t,.string ⟨#[49]⟩] 78)
 go_enter Tryz.func130,Tryz.ntmps130
 go_wp2
 go_ret
 exact ⟨rfl,hb⟩
theorem surd_SumF (i:Int) (w:World):Calls Tryz.prog 106 #[.int .i64 i] w (RV (.string ⟨#[49]⟩) w):=by
 have hb:=Below.refl w.heap.size w
 unfold RV
 go_enter Tryz.func106,Tryz.ntmps106
 go_wp2
 go_ret
 exact ⟨rfl,hb⟩
theorem enter_sumF1:∀ args w,(callFunc 130 args).run Tryz.prog w=.ok (.enter 130 args) w:=by
 intro args w
 go_simp
theorem enter_SumF:∀ args w,(callFunc 106 args).run Tryz.prog w=.ok (.enter 106 args) w:=by
 intro args w
 go_simp
theorem surd_Delete (v:Value) (b:Nat) (q:Rat) (h0:q≠0) (w:World) (hw:Good w) (hv:Surd1 w v b q):Calls Tryz.prog 129 #[v,.func (.func 130) #[] #[]] w (RV v w):=by
 have HI:=hid (index_one v b q 130 enter_sumF1 w hw hv (fun w' _=>surd_sumF1 q h0 w'))
 obtain ⟨c,rfl,h1,h2,h3,h4,h5,_,_⟩:=hv.cells
 unfold RV at *
 go_enter Tryz.func129,Tryz.ntmps129
 go_wp2_with fail
 refine HI.out.mono ?_
 rintro e w1 ⟨rfl,hb1⟩
 go_wp2
 go_ret
 exact ⟨rfl,hb1⟩
theorem surd_insert (b c:Nat) (fv:Value) (w:World):Calls Tryz.prog 165 #[.slice (some ⟨b,0,none⟩) 1 c,.int .i64 0,.int .i64 1,fv] w (RV (.tuple #[]) w):=by
 have hb:=Below.refl w.heap.size w
 unfold RV
 go_enter Tryz.func165,Tryz.ntmps165
 go_wp2_with fail
 go_loopw [8] (fun iv wr=>iv=.int .i64 1∧Below w.heap.size w wr) (fun _ _=>0)
 case atStart=>exact ⟨rfl,hb⟩
 case round =>
  obtain ⟨rfl,hbr⟩:=hrel
  go_wp2
  go_end0
  exact ⟨rfl,hbr⟩
theorem surd_pdq (b c:Nat) (m:Value) (fv:Value) (w:World):Calls Tryz.prog 153 #[.slice (some ⟨b,0,none⟩) 1 c,.int .i64 0,.int .i64 1,m,fv] w (RV (.tuple #[]) w):=by
 have HI:=hid (fun w'=>surd_insert b c fv w')
 have hb:=Below.refl w.heap.size w
 unfold RV at *
 go_enter Tryz.func153,Tryz.ntmps153
 go_wp2_with fail
 go_loopw [1,2,3,10,11] (fun a d _ _ _ wr=>a=.int .i64 0∧d=.int .i64 1∧Below w.heap.size w wr) (fun _ _ _ _ _ _=>0)
 case atStart=>exact ⟨rfl,rfl,hb⟩
 case round =>
  obtain ⟨rfl,rfl,hbr⟩:=hrel
  go_wp2_with fail
  refine (HI.out wr).mono ?_
  rintro e w1 ⟨rfl,hb1⟩
  go_wp2
  try simp only [Exit.inBlock,Exit.then]
  refine bodyPost_ret (results_none rfl _ _ _) rfl ?_
  exact ⟨rfl,hbr.trans (hb1.mono hbr.size)⟩
theorem surd_Sort (b c:Nat) (fv:Value) (w:World):Calls Tryz.prog 131 #[.slice (some ⟨b,0,none⟩) 1 c,fv] w (RV (.tuple #[]) w):=by
 have HI:=hid (fun m w'=>surd_pdq b c m fv w')
 have HB:=hid (fun w'=>Tryz.bits_Len 1 w' (by decide) (by decide))
 unfold RV at *
 go_enter Tryz.func131,Tryz.ntmps131
 go_wp2_with fail
 refine (HB.out w).mono ?_
 rintro e w1 ⟨rfl,rfl⟩
 go_wp2_with fail
 refine (HI.out _ _).mono ?_
 rintro e w2 ⟨rfl,hb2⟩
 go_wp2
 go_end0
 exact ⟨rfl,hb2⟩
theorem surd1_of_row {W:World} {base:Nat} {v:Value} {q:Rat} (h:W.ownsRow base 78 2 v 1 [.string (tx q),.string ⟨#[49]⟩]):∃ g,base≤g∧Surd1 W v g q:=by
 rcases h.2 with ⟨h2,_⟩ | ⟨g,cap,cur,e1,e2,e3,e4,e5,e6,e7⟩
 ·obtain ⟨g',cap',e⟩:=ownsRow_succ h
  rw [e] at h2;cases h2
 ·have h0:cur.toList[0]?=some (.string (tx q)):=by
   have:=congrArg (fun l:List Value=>l[0]?) e7
   simpa [List.getElem?_take] using this
  have h1:cur.toList[1]?=some (.string ⟨#[49]⟩):=by
   have:=congrArg (fun l:List Value=>l[1]?) e7
   simpa [List.getElem?_take] using this
  exact ⟨g,e2,cap,cur,e1,e4,e5,e3,by simpa using h0,by simpa using h1⟩
theorem Surd1.store {w:World} {v:Value} {b:Nat} {q:Rat} (h:Surd1 w v b q) (r:Rat):Surd1 ((w.setCell ⟨b,0,none⟩ (.string (tx r))).setCell ⟨b,1,none⟩ (.string ⟨#[49]⟩)) v b r:=by
 obtain ⟨c,cur,h1,h2,h3,h4,h5,h6⟩:=h
 have k0:=(Array.getElem?_eq_some_iff.1 h5).1
 have k1:=(Array.getElem?_eq_some_iff.1 h6).1
 refine ⟨c,_,h1,h2,h3,set_block _ (set_block _ h4),?_,?_⟩
 ·simp [k0]
 ·simp [k1]
def FreshS (q:Rat) (w:World) (e:Ending) (w':World):Prop:=∃ v b,e=.returned v∧w.heap.size≤b∧Surd1 w' v b q∧Below w.heap.size w w'
def OutS (B:Nat) (w:World) (v:Value) (k:Nat) (s:Rat):Prop:=(k=0∧v=.slice none 0 0)∨(0<k∧∃ b,B≤b∧Surd1 w v b s)
theorem surd_add_nil (q:Rat) (w:World):Calls Tryz.prog 128 #[.slice none 0 0,.agg #[.string (tx q),.string ⟨#[49]⟩]] w (FreshS q w):=by
 obtain ⟨t,ht⟩ : ∃ t,t=tx q:=⟨_,rfl⟩
 have HT:=hid ht
 rw [←ht]
 clear ht
 go_enter Tryz.func128,Tryz.ntmps128
 go_upto_region 1 with fail
 obtain ⟨wA,hwA⟩ : ∃ wA,wA=w.alloc (Obj.cells #[.string t,.string ⟨#[49]⟩] 78):=⟨_,rfl⟩
 have hbA:Below w.heap.size w wA:=by rw [hwA];exact alloc_below _ _
 obtain ⟨e0,e1,_,_⟩:=two_cells (show wA.heap[w.heap.size]?=some (.cells #[.string t,.string ⟨#[49]⟩] 78 (0,0)) by rw [hwA];exact World.alloc_heap_new _ _)
 have hlA:w.heap.size<wA.heap.size:=by rw [hwA];simp
 rw [←hwA]
 clear hwA
 go_wp2_with fail
 go_loopw [4,11] (fun _ iv wr=>iv=.int .i64 0∧Below wA.heap.size wA wr) (fun _ _ _=>0)
 case atStart=>exact ⟨rfl,Below.refl _ _⟩
 case round =>
  obtain ⟨rfl,hbr⟩:=hrel
  have d0:=(hbr.cell (p:=⟨w.heap.size,0,none⟩) hlA).trans e0
  have d1:=(hbr.cell (p:=⟨w.heap.size,1,none⟩) hlA).trans e1
  have hlr:w.heap.size<wr.heap.size:=Nat.lt_of_lt_of_le hlA hbr.size
  have hbx:=hbA.trans (hbr.mono hbA.size)
  have hr0:wr.ownsRow wr.heap.size 78 2 (.slice none 0 0) 0 []:=World.ownsRow_nil _ _ _ _
  have HONE:=hid (show ∀ u∈(#[Value.string t,Value.string ⟨#[49]⟩]:Array Value).toList,u.oneCell'=true by simp [Value.oneCell'])
  go_wp2_with (at_builtin;refine app_new slTm rfl _ _ rfl wr.heap.size _ 0 _ rfl hr0 1 1 _ rfl rfl HONE.out (by omega) (by decide) (Nat.le_refl _) _ rfl ?_;intro v1 w9 hown2 hb9;have HO2:=hid hown2;clear hown2)
  have HO3:=hid HO2.out
  go_ret
  obtain ⟨g,hg,hs⟩:=surd1_of_row (q:=q) (by rw [←HT.out];exact HO3.out)
  exact ⟨_,g,rfl,Nat.le_trans hbx.size hg,hs,hbx.trans (hb9.mono hbx.size)⟩
theorem surd_add_one (v:Value) (b B:Nat) (q1 q2:Rat) (h1:Sz 10000000 q1) (h2:Sz 10000000 q2) (hBb:B≤b) (w:World) (hw:Good w) (hBw:B≤w.heap.size) (hv:Surd1 w v b q1) :
  Calls Tryz.prog 128 #[v,.agg #[.string (tx q2),.string ⟨#[49]⟩]] w fun e w'=>e=.returned v∧Surd1 w' v b (q1+q2)∧Below B w w':=by
 have HAL:=hid (fun w'=>surd_alike ⟨#[49]⟩ w')
 have HCM:=hid (fun w'=>integer_Compare ⟨#[49]⟩ ⟨#[49]⟩ 1 1 isI_one isI_one (by decide) (by decide) w')
 have hc1:cmpI 1 1=0:=rfl
 rw [hc1] at HCM
 have HO:=hid (fun w' (hg:Good w')=>surd_over ⟨#[49]⟩ ⟨#[49]⟩ 1 1 isI_one isI_one (by decide) (by decide) (by decide) w' hg)
 rw [show Rat.divInt 1 1=1 by decide +kernel,tx1] at HO
 have HM:=hid (fun w' (hg:Good w')=>k_mul q2 1 (h2.mono (by decide)) (by unfold Sz;rw [tx1];decide) w' hg)
 rw [tx1,Rat.mul_one] at HM
 have HA:=hid (fun w' (hg:Good w')=>k_add q1 q2 (h1.mono (by decide)) (h2.mono (by decide)) w' hg)
 have HV:=hid hv
 obtain ⟨c,rfl,g1,g2,h3,h4,h5,_,_⟩:=hv.cells
 unfold RV at *
 clear hv hc1
 obtain ⟨t1,ht1⟩ : ∃ t,t=tx q1:=⟨_,rfl⟩
 obtain ⟨t2,ht2⟩ : ∃ t,t=tx q2:=⟨_,rfl⟩
 obtain ⟨t3,ht3⟩ : ∃ t,t=tx (q1+q2):=⟨_,rfl⟩
 rw [←ht1,←ht2,←ht3] at HA
 rw [←ht2] at HM
 rw [←ht1] at h4
 rw [←ht2]
 have HS3:=hid ht3
 clear ht1 ht2 ht3 h1 h2 g1
 go_enter Tryz.func128,Tryz.ntmps128
 go_upto_region 1 with fail
 obtain ⟨wA,hwA⟩ : ∃ wA,wA=w.alloc (Obj.cells #[.string t2,.string ⟨#[49]⟩] 78):=⟨_,rfl⟩
 have hbA:Below w.heap.size w wA:=by rw [hwA];exact alloc_below _ _
 obtain ⟨e0,e1,_,_⟩:=two_cells (show wA.heap[w.heap.size]?=some (.cells #[.string t2,.string ⟨#[49]⟩] 78 (0,0)) by rw [hwA];exact World.alloc_heap_new _ _)
 have hlA:w.heap.size<wA.heap.size:=by rw [hwA];simp
 rw [←hwA]
 clear hwA
 go_wp2_with fail
 go_loopw [4,11] (fun _ iv wr=>iv=.int .i64 0∧Below wA.heap.size wA wr) (fun _ _ _=>0)
 case atStart=>exact ⟨rfl,Below.refl _ _⟩
 case round =>
  obtain ⟨rfl,hbr⟩:=hrel
  have n0:=(hbr.cell (p:=⟨w.heap.size,0,none⟩) hlA).trans e0
  have n1:=(hbr.cell (p:=⟨w.heap.size,1,none⟩) hlA).trans e1
  have hlr:w.heap.size<wr.heap.size:=Nat.lt_of_lt_of_le hlA hbr.size
  have hbx:=hbA.trans (hbr.mono hbA.size)
  have d0:=(hbx.cell (p:=⟨b,0,none⟩) h3).trans h4
  have d1:=(hbx.cell (p:=⟨b,1,none⟩) h3).trans h5
  have hbl:b<wr.heap.size:=Nat.lt_of_lt_of_le h3 hbx.size
  clear h4 h5 e0 e1
  go_upto_region 4 with fail
  obtain ⟨wC,hwC⟩ : ∃ wC,wC=wr.alloc (Obj.cells #[.string t1,.string ⟨#[49]⟩] 78):=⟨_,rfl⟩
  have hbC:Below wr.heap.size wr wC:=by rw [hwC];exact alloc_below _ _
  obtain ⟨m0,m1,_,_⟩:=two_cells (show wC.heap[wr.heap.size]?=some (.cells #[.string t1,.string ⟨#[49]⟩] 78 (0,0)) by rw [hwC];exact World.alloc_heap_new _ _)
  have hlC:wr.heap.size<wC.heap.size:=by rw [hwC];simp
  rw [←hwC]
  clear hwC
  have n0:=(hbC.cell (p:=⟨w.heap.size,0,none⟩) hlr).trans n0
  have n1:=(hbC.cell (p:=⟨w.heap.size,1,none⟩) hlr).trans n1
  have hlr2:=Nat.lt_of_lt_of_le hlr hbC.size
  have hbx2:=hbx.trans (hbC.mono hbx.size)
  go_wp2_with fail
  refine (HAL.out wC).mono ?_
  rintro e u1 ⟨rfl,hu1⟩
  have m0:=(hu1.cell (p:=⟨wr.heap.size,0,none⟩) hlC).trans m0
  have m1:=(hu1.cell (p:=⟨wr.heap.size,1,none⟩) hlC).trans m1
  have n0:=(hu1.cell (p:=⟨w.heap.size,0,none⟩) hlr2).trans n0
  have n1:=(hu1.cell (p:=⟨w.heap.size,1,none⟩) hlr2).trans n1
  have hl2:=Nat.lt_of_lt_of_le hlC hu1.size
  have hlr2:=Nat.lt_of_lt_of_le hlr2 hu1.size
  have hbZ:=hbx2.trans (hu1.mono hbx2.size)
  go_wp2_with fail
  refine (HCM.out u1).mono ?_
  rintro e u2 ⟨rfl,hu2⟩
  subst hu2
  obtain ⟨u2,hu2⟩ : ∃ q,q=u1:=⟨_,rfl⟩
  subst hu2
  go_wp2_with fail
  refine wp_held_pl (fun W'=>Below u2.heap.size u2 W') (.take 0 (.take 1 (.take 2 (.take 3 (.take 4 (.take 5 (.take 6 (.take 7 (.take 8 (.take 12 (.take 13 (.one 9 (.one 10 (.one 11 (.take 14 (.take 15 .fin)))))))))))))))) 16 (by kernel_rfl) (by kernel_rfl) ⟨rfl,rfl,rfl,Nat.le_refl _,fun _ _=>rfl⟩ ?_
  have hP0:Below u2.heap.size u2 u2.drew:=⟨rfl,rfl,rfl,Nat.le_refl _,fun _ _=>rfl⟩
  generalize u2.drew=pv0 at *
  iterate 11
   refine wpPl_take rfl ?_ rfl ?_ ?_
   rotate_left
   ·intro W' hS'
    have s0:=(hS'.cell (p:=⟨wr.heap.size,0,none⟩) hl2).trans m0
    have s1:=(hS'.cell (p:=⟨wr.heap.size,1,none⟩) hl2).trans m1
    have s2:=(hS'.cell (p:=⟨w.heap.size,0,none⟩) hlr2).trans n0
    have s3:=(hS'.cell (p:=⟨w.heap.size,1,none⟩) hlr2).trans n1
    go_simp
    try with_reducible rfl
   try simp only [zA,zB,zC,Act.put,zD,zE,zF]
  refine wpPl_keep rfl rfl (fun K hK=>?_)
  go_simp
  refine (HO.out _ (hw.below (hbZ.trans (hP0.mono hbZ.size)))).mono ?_
  rintro e pv1 ⟨rfl,hbpv1⟩
  have hP1:=hP0.trans (hbpv1.mono hP0.size)
  refine hK _ _ ⟨hP1,?_⟩
  clear hK K
  try simp only [zA,zB,zC,Act.put,zD,zE,zF]
  refine wpPl_keep rfl rfl (fun K hK=>?_)
  go_simp
  refine (HM.out _ (hw.below (hbZ.trans (hP1.mono hbZ.size)))).mono ?_
  rintro e pv2 ⟨rfl,hbpv2⟩
  have hP2:=hP1.trans (hbpv2.mono hP1.size)
  refine hK _ _ ⟨hP2,?_⟩
  clear hK K
  try simp only [zA,zB,zC,Act.put,zD,zE,zF]
  refine wpPl_keep rfl rfl (fun K hK=>?_)
  go_simp
  refine (HA.out _ (hw.below (hbZ.trans (hP2.mono hbZ.size)))).mono ?_
  rintro e pv3 ⟨rfl,hbpv3⟩
  have hP3:=hP2.trans (hbpv3.mono hP2.size)
  refine hK _ _ ⟨hP3,?_⟩
  clear hK K
  try simp only [zA,zB,zC,Act.put,zD,zE,zF]
  iterate 2
   refine wpPl_take rfl ?_ rfl ?_ ?_
   rotate_left
   ·intro W' hS'
    have s0:=(hS'.cell (p:=⟨wr.heap.size,0,none⟩) hl2).trans m0
    have s1:=(hS'.cell (p:=⟨wr.heap.size,1,none⟩) hl2).trans m1
    have s2:=(hS'.cell (p:=⟨w.heap.size,0,none⟩) hlr2).trans n0
    have s3:=(hS'.cell (p:=⟨w.heap.size,1,none⟩) hlr2).trans n1
    go_simp
    try with_reducible rfl
   try simp only [zA,zB,zC,Act.put,zD,zE,zF]
  unfold wpPl
  simp only [List.drop_succ_cons,List.drop_zero]
  have hbY:=hbZ.trans (hP3.mono hbZ.size)
  have hsv:=HV.out.below hbY
  have hst:=hsv.store (q1+q2)
  have HST:=hid hst
  obtain ⟨_,_,_,_,_,_,_,f0,f1⟩:=hsv.cells
  have hbb:b<pv3.heap.size:=Nat.lt_of_lt_of_le h3 hbY.size
  clear hst hsv
  go_wp2
  refine NormalOnly.mk ?_
  go_wp2
  go_ret
  refine ⟨rfl,by rw [HS3.out];exact HST.out,?_⟩
  exact ((hbY.mono hBw).setCell (p:=⟨b,0,none⟩) hBb _).setCell (p:=⟨b,1,none⟩) hBb _
end Go.Proofs.YtogdahbbogimcaaGreatDoor
