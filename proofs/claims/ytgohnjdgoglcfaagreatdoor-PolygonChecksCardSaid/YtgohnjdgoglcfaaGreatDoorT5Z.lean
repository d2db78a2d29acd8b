import Derived.Test.YtgohnjdgoglcfaaGreatDoorTwoRowZ
import Derived.Test.YtgohnjdgoglcfaaGreatDoorStillZ
import Derived.Deep.WholeRow
set_option maxRecDepth 100000
set_option maxHeartbeats 4000000
namespace Go.Proofs.YtgohnjdgoglcfaaGreatDoor
open Go.RowKit Go.Shelf
open Go.Lib (decDigits itoa nDigits)
open Go.Lib (hid)
theorem eqlPts (a b:QP) (w:World):(binOp .eql 31 (.agg #[.string (tx a.1),.string (tx a.2)]) (.agg #[.string (tx b.1),.string (tx b.2)])).run Tryz.prog w=.ok (.bool (decide (a=b))) w:=by
 have h:=eqlPoint (textP a) (textP b) w
 rw [partB_iff] at h
 rw [show decide (textP a=textP b)=decide (a=b) by rw [decide_eq_decide];exact ⟨textP_inj,fun h=>by rw [h]⟩] at h
 exact h
theorem neqPts (a b:QP) (w:World):(binOp .neq 31 (.agg #[.string (tx a.1),.string (tx a.2)]) (.agg #[.string (tx b.1),.string (tx b.2)])).run Tryz.prog w=.ok (.bool (!decide (a=b))) w:=by
 have h:=neqPoint (textP a) (textP b) w
 rw [partB_iff] at h
 rw [show decide (textP a=textP b)=decide (a=b) by rw [decide_eq_decide];exact ⟨textP_inj,fun h=>by rw [h]⟩] at h
 exact h
theorem guardPts (op:BinOp) (a b:Operand) (xs ys:Array Value) (w:World):(eqGuard op 31 a b (.agg xs) (.agg ys)).run Tryz.prog w=.ok () w:=neqGuardP op a b xs ys w
def TruthPost (p:Prop) (w:World) (e:Ending) (w':World):Prop:=∃ r:Bool,e=.returned (.bool r)∧(r=true↔p)∧Below w.heap.size w w'
def NxtTo (L:List QP) (a b:QP) (k:Nat):Prop:=∀ i,i<k→i<L.length→0≤crs a b (pt L i)∧(crs a b (pt L i)=0→btw a b (pt L i))
theorem r9_next (v:Value) (L:List QP) (a b:QP) (hn:L.length≤100000) (hz:∀ p∈L,Sz2 10000 p) (ha:Sz2 10000 a) (hb:Sz2 10000 b) (w:World) (hw:Good w) (hv:Pts w v L) :
  Calls Tryz.prog 62 #[v,ptV a,ptV b] w (TruthPost (Nxt L a b) w):=by
 obtain ⟨p,c,rfl,hcl,hcm⟩:=hv.slice
 unfold maxLen at hcm
 have HV:=hid hv
 have HTN:=hid (fun i (hi:i<L.length) w' (hg:Good w')=>r5_turn a b (pt L i) ha hb (hz _ (pt_mem hi)) w' hg)
 have HBT:=hid (fun i (hi:i<L.length) w' (hg:Good w')=>r5_between a b (pt L i) ha hb (hz _ (pt_mem hi)) w' hg)
 have heq:=eqlPts a b
 have hguard:=guardPts
 unfold RV at HTN HBT
 clear hz ha hb hv
 unfold ptV at *
 have HA1:=hid (show tx a.1=tx a.1 from rfl)
 by_cases hab:a=b
 ·rw [decide_eq_true hab] at heq
  have HF:=hid (show ¬ Nxt L a b from fun h=>h.1 hab)
  clear HTN HBT hab HA1
  generalize tx a.1=a1' at *
  generalize tx a.2=a2' at *
  generalize tx b.1=b1' at *
  generalize tx b.2=b2' at *
  go_enter Tryz.func62,Tryz.ntmps62
  go_upto_region 1 with fail
  obtain ⟨wA,hwA⟩ : ∃ wA,wA=(w.alloc (Obj.cells #[.string a1',.string a2'] 31)).alloc (Obj.cells #[.string b1',.string b2'] 31):=⟨_,rfl⟩
  obtain ⟨hbA,x1,x2⟩:=boxes2 hwA
  rw [←hwA]
  clear hwA
  have l1:=lt_of_blk x1
  have l2:=lt_of_blk x2
  obtain ⟨a0,a1,_,_⟩:=two_cells x1
  obtain ⟨b0,b1,_,_⟩:=two_cells x2
  clear x1 x2
  go_wp2
  go_ret
  exact ⟨false,rfl,⟨fun h=>Bool.noConfusion h,fun h=>absurd h HF.out⟩,hbA⟩
 ·rw [decide_eq_false hab] at heq
  have HNE:=hid hab
  clear hab HA1
  generalize hxa1:tx a.1=a1' at *
  generalize hxa2:tx a.2=a2' at *
  generalize hxb1:tx b.1=b1' at *
  generalize hxb2:tx b.2=b2' at *
  clear hxa1 hxa2 hxb1 hxb2
  go_enter Tryz.func62,Tryz.ntmps62
  go_upto_region 1 with fail
  obtain ⟨wA,hwA⟩ : ∃ wA,wA=(w.alloc (Obj.cells #[.string a1',.string a2'] 31)).alloc (Obj.cells #[.string b1',.string b2'] 31):=⟨_,rfl⟩
  obtain ⟨hbA,x1,x2⟩:=boxes2 hwA
  rw [←hwA]
  clear hwA
  have l1:=lt_of_blk x1
  have l2:=lt_of_blk x2
  obtain ⟨a0,a1,_,_⟩:=two_cells x1
  obtain ⟨b0,b1,_,_⟩:=two_cells x2
  clear x1 x2
  go_wp2_with fail
  go_loopw [7,8,6] (fun iv _ rv wr=>∃ k:Nat,k≤L.length∧iv=.int .i64 (k:Int)∧rv=.bool false∧NxtTo L a b k∧Below wA.heap.size wA wr) (fun iv _ _ _=>L.length-(intOf iv).toNat)
  case atStart=>exact ⟨0,Nat.zero_le _,rfl,rfl,fun i hi=>absurd hi (Nat.not_lt_zero _),Below.refl _ _⟩
  case round =>
   obtain ⟨k,hkl,rfl,rfl,hNX,hbr1⟩:=hrel
   have HNX:=hid hNX
   have hbr:=hbA.trans (hbr1.mono hbA.size)
   clear hNX
   by_cases hk:k<L.length
   ·have e0:=(hbr1.cell (p:=⟨w.heap.size,0,none⟩) l1).trans a0
    have e1:=(hbr1.cell (p:=⟨w.heap.size,1,none⟩) l1).trans a1
    have f0:=(hbr1.cell (p:=⟨w.heap.size+1,0,none⟩) l2).trans b0
    have f1:=(hbr1.cell (p:=⟨w.heap.size+1,1,none⟩) l2).trans b1
    have lr1:=Nat.lt_of_lt_of_le l1 hbr1.size
    have lr2:=Nat.lt_of_lt_of_le l2 hbr1.size
    obtain ⟨B,off,rfl,hblr,hcell⟩:=Pts.cells (HV.out.below hbr) (by omega)
    obtain ⟨c0,c1⟩:=hcell k hk
    have hkn:decide ((k:Int)<(L.length:Int))=true:=decide_eq_true (by omega)
    have i1:(0:Int)≤(k:Int):=by omega
    have i2:(k:Int)<(L.length:Int):=by omega
    have H1:=hid (HTN.out k hk)
    have H2:=hid (HBT.out k hk)
    have HC:=hid (sgnR_cases (crs a b (pt L k)))
    have HG:=hid (fun (h1:0≤crs a b (pt L k)) (h2:crs a b (pt L k)=0→btw a b (pt L k))=>show NxtTo L a b (k+1) from fun i hi hil=>by
     rcases (show i<k∨i=k by omega) with e | e
     ·exact HNX.out i e hil
     ·rw [e];exact ⟨h1,h2⟩)
    have HBD:=hid (fun (h:¬ (0≤crs a b (pt L k)∧(crs a b (pt L k)=0→btw a b (pt L k))))=>show ¬ Nxt L a b from fun hN=>h (hN.2 _ (pt_mem hk)))
    have HBI:=hid (@btwB_iff a b (pt L k))
    clear hcell a0 a1 b0 b1
    generalize tx (pt L k).1=p1 at *
    generalize tx (pt L k).2=p2 at *
    generalize btwB a b (pt L k)=bt at *
    obtain ⟨g,hg⟩ : ∃ g,g=sgnR (crs a b (pt L k)):=⟨_,rfl⟩
    rw [←hg] at H1 HC
    clear hg
    by_cases hg0:g<0
    ·have HF:=hid (HBD.out (fun h=>by
      rcases HC.out with ⟨q1,q2⟩ | ⟨q1,q2⟩ | ⟨q1,q2⟩
      ·have:=h.1;grind
      ·omega
      ·omega))
     have g1:decide (g<0)=true:=decide_eq_true hg0
     clear HG HBD HBI HC hg0
     go_wp2_with fail
     refine wp_held_list (fun W'=>Below wr.heap.size wr W') [0,1,2,3,4,5] [6] 7 (by kernel_rfl) (by kernel_rfl) ⟨rfl,rfl,rfl,Nat.le_refl _,fun _ _=>rfl⟩ ?_
     iterate 6
      refine wpTakeL_step rfl ?_ rfl ?_ ?_
      rotate_left
      ·intro W' hS'
       have s0:=(hS'.cell (p:=⟨w.heap.size,0,none⟩) lr1).trans e0
       have s1:=(hS'.cell (p:=⟨w.heap.size,1,none⟩) lr1).trans e1
       have s2:=(hS'.cell (p:=⟨w.heap.size+1,0,none⟩) lr2).trans f0
       have s3:=(hS'.cell (p:=⟨w.heap.size+1,1,none⟩) lr2).trans f1
       have s4:=(hS'.cell (p:=⟨B,off+k*2,none⟩) hblr).trans c0
       have s5:=(hS'.cell (p:=⟨B,off+k*2+1,none⟩) hblr).trans c1
       go_simp
       try with_reducible rfl
      try simp only [zA,zB,zC,Act.put,zD,zE,zF]
     have hR0:Below wr.heap.size wr wr.drew:=⟨rfl,rfl,rfl,Nat.le_refl _,fun _ _=>rfl⟩
     refine wpKeepL_step rfl rfl (fun K hK=>?_)
     go_simp
     refine (H1.out _ (hw.below (hbr.trans (hR0.mono hbr.size)))).mono ?_
     rintro e u1 ⟨rfl,hbu1⟩
     have hR1:=hR0.trans (hbu1.mono hR0.size)
     refine hK _ _ ⟨hR1,?_⟩
     clear hK K
     try simp only [zA,zB,zC,Act.put,zD,zE,zF]
     unfold wpKeepL
     simp only [List.drop_succ_cons,List.drop_zero]
     try simp only [zA,zB,zC,Act.put,zD,zE,zF]
     refine wpKeep_step rfl (fun K hK=>?_)
     go_simp
     refine hK _ _ ⟨trivial,wpKeep_nil ?_⟩
     clear hK K
     try simp only [zA,zB,zC,Act.put,zD,zE,zF]
     refine NormalOnly.mk ?_
     have lr1_u1:=Nat.lt_of_lt_of_le lr1 hR1.size
     have e0_u1:=(hR1.cell (p:=⟨w.heap.size,0,none⟩) lr1).trans e0
     have e1_u1:=(hR1.cell (p:=⟨w.heap.size,1,none⟩) lr1).trans e1
     have lr2_u1:=Nat.lt_of_lt_of_le lr2 hR1.size
     have f0_u1:=(hR1.cell (p:=⟨w.heap.size+1,0,none⟩) lr2).trans f0
     have f1_u1:=(hR1.cell (p:=⟨w.heap.size+1,1,none⟩) lr2).trans f1
     have hblr_u1:=Nat.lt_of_lt_of_le hblr hR1.size
     have c0_u1:=(hR1.cell (p:=⟨B,off+k*2,none⟩) hblr).trans c0
     have c1_u1:=(hR1.cell (p:=⟨B,off+k*2+1,none⟩) hblr).trans c1
     clear e0 e1 f0 f1 c0 c1 lr1 lr2 hblr
     have hbu:=hbr.trans (hR1.mono hbr.size)
     go_wp2_with fail
     refine wp_held_list (fun W'=>Below u1.heap.size u1 W') [0,1,2,3,4,5,6,7,8,9,10,11,12,13,14] [] 15 (by kernel_rfl) (by kernel_rfl) ⟨rfl,rfl,rfl,Nat.le_refl _,fun _ _=>rfl⟩ ?_
     iterate 3
      refine wpTakeL_step rfl ?_ rfl ?_ ?_
      rotate_left
      ·intro W' hS'
       have s0:=(hS'.cell (p:=⟨w.heap.size,0,none⟩) lr1_u1).trans e0_u1
       have s1:=(hS'.cell (p:=⟨w.heap.size,1,none⟩) lr1_u1).trans e1_u1
       have s2:=(hS'.cell (p:=⟨w.heap.size+1,0,none⟩) lr2_u1).trans f0_u1
       have s3:=(hS'.cell (p:=⟨w.heap.size+1,1,none⟩) lr2_u1).trans f1_u1
       have s4:=(hS'.cell (p:=⟨B,off+k*2,none⟩) hblr_u1).trans c0_u1
       have s5:=(hS'.cell (p:=⟨B,off+k*2+1,none⟩) hblr_u1).trans c1_u1
       go_simp
       try with_reducible rfl
      try simp only [zA,zB,zC,Act.put,zD,zE,zF]
     iterate 12
      refine wpTakeL_skip rfl rfl ?_
      try simp only [zA,zB,zC,Act.put,zD,zE,zF]
     unfold wpKeepL
     simp only [List.drop_succ_cons,List.drop_zero]
     try simp only [zA,zB,zC,Act.put,zD,zE,zF]
     refine wpKeep_step rfl (fun K hK=>?_)
     go_simp
     refine hK _ _ ⟨trivial,wpKeep_nil ?_⟩
     clear hK K
     try simp only [zA,zB,zC,Act.put,zD,zE,zF]
     refine NormalOnly.mk ?_
     obtain ⟨s,hws⟩ : ∃ s,s=u1.drew:=⟨_,rfl⟩
     have hSZ:Below u1.heap.size u1 s:=by rw [hws];exact ⟨rfl,rfl,rfl,Nat.le_refl _,fun _ _=>rfl⟩
     rw [←hws]
     clear hws
     have hbs:=hbu.trans (hSZ.mono hbu.size)
     go_wp2
     go_ret
     exact ⟨false,rfl,⟨fun h=>Bool.noConfusion h,fun h=>absurd h HF.out⟩,hbs⟩
    ·have g1:decide (g<0)=false:=decide_eq_false hg0
     by_cases hgz:g=0
     ·have g2:(g == 0)=true:=by simpa using hgz
      have HZ:=hid (show crs a b (pt L k)=0 by
       rcases HC.out with ⟨q1,q2⟩ | ⟨q1,q2⟩ | ⟨q1,q2⟩
       ·omega
       ·exact q1
       ·omega)
      clear hg0
      cases bt
      ·have HF:=hid (HBD.out (fun h=>Bool.noConfusion (HBI.out.2 ⟨HZ.out,h.2 HZ.out⟩)))
       clear HG HBD HBI HC HZ hgz
       go_wp2_with fail
       refine wp_held_list (fun W'=>Below wr.heap.size wr W') [0,1,2,3,4,5] [6] 7 (by kernel_rfl) (by kernel_rfl) ⟨rfl,rfl,rfl,Nat.le_refl _,fun _ _=>rfl⟩ ?_
       iterate 6
        refine wpTakeL_step rfl ?_ rfl ?_ ?_
        rotate_left
        ·intro W' hS'
         have s0:=(hS'.cell (p:=⟨w.heap.size,0,none⟩) lr1).trans e0
         have s1:=(hS'.cell (p:=⟨w.heap.size,1,none⟩) lr1).trans e1
         have s2:=(hS'.cell (p:=⟨w.heap.size+1,0,none⟩) lr2).trans f0
         have s3:=(hS'.cell (p:=⟨w.heap.size+1,1,none⟩) lr2).trans f1
         have s4:=(hS'.cell (p:=⟨B,off+k*2,none⟩) hblr).trans c0
         have s5:=(hS'.cell (p:=⟨B,off+k*2+1,none⟩) hblr).trans c1
         go_simp
         try with_reducible rfl
        try simp only [zA,zB,zC,Act.put,zD,zE,zF]
       have hR0:Below wr.heap.size wr wr.drew:=⟨rfl,rfl,rfl,Nat.le_refl _,fun _ _=>rfl⟩
       refine wpKeepL_step rfl rfl (fun K hK=>?_)
       go_simp
       refine (H1.out _ (hw.below (hbr.trans (hR0.mono hbr.size)))).mono ?_
       rintro e u1 ⟨rfl,hbu1⟩
       have hR1:=hR0.trans (hbu1.mono hR0.size)
       refine hK _ _ ⟨hR1,?_⟩
       clear hK K
       try simp only [zA,zB,zC,Act.put,zD,zE,zF]
       unfold wpKeepL
       simp only [List.drop_succ_cons,List.drop_zero]
       try simp only [zA,zB,zC,Act.put,zD,zE,zF]
       refine wpKeep_step rfl (fun K hK=>?_)
       go_simp
       refine hK _ _ ⟨trivial,wpKeep_nil ?_⟩
       clear hK K
       try simp only [zA,zB,zC,Act.put,zD,zE,zF]
       refine NormalOnly.mk ?_
       have lr1_u1:=Nat.lt_of_lt_of_le lr1 hR1.size
       have e0_u1:=(hR1.cell (p:=⟨w.heap.size,0,none⟩) lr1).trans e0
       have e1_u1:=(hR1.cell (p:=⟨w.heap.size,1,none⟩) lr1).trans e1
       have lr2_u1:=Nat.lt_of_lt_of_le lr2 hR1.size
       have f0_u1:=(hR1.cell (p:=⟨w.heap.size+1,0,none⟩) lr2).trans f0
       have f1_u1:=(hR1.cell (p:=⟨w.heap.size+1,1,none⟩) lr2).trans f1
       have hblr_u1:=Nat.lt_of_lt_of_le hblr hR1.size
       have c0_u1:=(hR1.cell (p:=⟨B,off+k*2,none⟩) hblr).trans c0
       have c1_u1:=(hR1.cell (p:=⟨B,off+k*2+1,none⟩) hblr).trans c1
       clear e0 e1 f0 f1 c0 c1 lr1 lr2 hblr
       have hbu:=hbr.trans (hR1.mono hbr.size)
       go_wp2_with fail
       refine wp_held_list (fun W'=>Below u1.heap.size u1 W') [0,1,2,3,4,5,6,7,8,9,10,11] [12] 13 (by kernel_rfl) (by kernel_rfl) ⟨rfl,rfl,rfl,Nat.le_refl _,fun _ _=>rfl⟩ ?_
       iterate 12
        refine wpTakeL_step rfl ?_ rfl ?_ ?_
        rotate_left
        ·intro W' hS'
         have s0:=(hS'.cell (p:=⟨w.heap.size,0,none⟩) lr1_u1).trans e0_u1
         have s1:=(hS'.cell (p:=⟨w.heap.size,1,none⟩) lr1_u1).trans e1_u1
         have s2:=(hS'.cell (p:=⟨w.heap.size+1,0,none⟩) lr2_u1).trans f0_u1
         have s3:=(hS'.cell (p:=⟨w.heap.size+1,1,none⟩) lr2_u1).trans f1_u1
         have s4:=(hS'.cell (p:=⟨B,off+k*2,none⟩) hblr_u1).trans c0_u1
         have s5:=(hS'.cell (p:=⟨B,off+k*2+1,none⟩) hblr_u1).trans c1_u1
         go_simp
         try with_reducible rfl
        try simp only [zA,zB,zC,Act.put,zD,zE,zF]
       have hS0:Below u1.heap.size u1 u1.drew:=⟨rfl,rfl,rfl,Nat.le_refl _,fun _ _=>rfl⟩
       refine wpKeepL_step rfl rfl (fun K hK=>?_)
       go_simp
       refine (H2.out _ (hw.below (hbu.trans (hS0.mono hbu.size)))).mono ?_
       rintro e s1 ⟨rfl,hbs1⟩
       have hS1:=hS0.trans (hbs1.mono hS0.size)
       refine hK _ _ ⟨hS1,?_⟩
       clear hK K
       try simp only [zA,zB,zC,Act.put,zD,zE,zF]
       unfold wpKeepL
       simp only [List.drop_succ_cons,List.drop_zero]
       try simp only [zA,zB,zC,Act.put,zD,zE,zF]
       refine wpKeep_step rfl (fun K hK=>?_)
       go_simp
       refine hK _ _ ⟨trivial,?_⟩
       clear hK K
       try simp only [zA,zB,zC,Act.put,zD,zE,zF]
       refine wpKeep_step rfl (fun K hK=>?_)
       go_simp
       refine hK _ _ ⟨trivial,?_⟩
       clear hK K
       try simp only [zA,zB,zC,Act.put,zD,zE,zF]
       refine wpKeep_step rfl (fun K hK=>?_)
       go_simp
       refine hK _ _ ⟨trivial,wpKeep_nil ?_⟩
       clear hK K
       try simp only [zA,zB,zC,Act.put,zD,zE,zF]
       refine NormalOnly.mk ?_
       have hbs:=hbu.trans (hS1.mono hbu.size)
       go_wp2
       go_ret
       exact ⟨false,rfl,⟨fun h=>Bool.noConfusion h,fun h=>absurd h HF.out⟩,hbs⟩
      ·have HN:=hid (HG.out (by rw [HZ.out];exact Rat.le_refl) (fun _=>(HBI.out.1 rfl).2))
       clear HG HBD HBI HC HZ hgz
       go_wp2_with fail
       refine wp_held_list (fun W'=>Below wr.heap.size wr W') [0,1,2,3,4,5] [6] 7 (by kernel_rfl) (by kernel_rfl) ⟨rfl,rfl,rfl,Nat.le_refl _,fun _ _=>rfl⟩ ?_
       iterate 6
        refine wpTakeL_step rfl ?_ rfl ?_ ?_
        rotate_left
        ·intro W' hS'
         have s0:=(hS'.cell (p:=⟨w.heap.size,0,none⟩) lr1).trans e0
         have s1:=(hS'.cell (p:=⟨w.heap.size,1,none⟩) lr1).trans e1
         have s2:=(hS'.cell (p:=⟨w.heap.size+1,0,none⟩) lr2).trans f0
         have s3:=(hS'.cell (p:=⟨w.heap.size+1,1,none⟩) lr2).trans f1
         have s4:=(hS'.cell (p:=⟨B,off+k*2,none⟩) hblr).trans c0
         have s5:=(hS'.cell (p:=⟨B,off+k*2+1,none⟩) hblr).trans c1
         go_simp
         try with_reducible rfl
        try simp only [zA,zB,zC,Act.put,zD,zE,zF]
       have hR0:Below wr.heap.size wr wr.drew:=⟨rfl,rfl,rfl,Nat.le_refl _,fun _ _=>rfl⟩
       refine wpKeepL_step rfl rfl (fun K hK=>?_)
       go_simp
       refine (H1.out _ (hw.below (hbr.trans (hR0.mono hbr.size)))).mono ?_
       rintro e u1 ⟨rfl,hbu1⟩
       have hR1:=hR0.trans (hbu1.mono hR0.size)
       refine hK _ _ ⟨hR1,?_⟩
       clear hK K
       try simp only [zA,zB,zC,Act.put,zD,zE,zF]
       unfold wpKeepL
       simp only [List.drop_succ_cons,List.drop_zero]
       try simp only [zA,zB,zC,Act.put,zD,zE,zF]
       refine wpKeep_step rfl (fun K hK=>?_)
       go_simp
       refine hK _ _ ⟨trivial,wpKeep_nil ?_⟩
       clear hK K
       try simp only [zA,zB,zC,Act.put,zD,zE,zF]
       refine NormalOnly.mk ?_
       have lr1_u1:=Nat.lt_of_lt_of_le lr1 hR1.size
       have e0_u1:=(hR1.cell (p:=⟨w.heap.size,0,none⟩) lr1).trans e0
       have e1_u1:=(hR1.cell (p:=⟨w.heap.size,1,none⟩) lr1).trans e1
       have lr2_u1:=Nat.lt_of_lt_of_le lr2 hR1.size
       have f0_u1:=(hR1.cell (p:=⟨w.heap.size+1,0,none⟩) lr2).trans f0
       have f1_u1:=(hR1.cell (p:=⟨w.heap.size+1,1,none⟩) lr2).trans f1
       have hblr_u1:=Nat.lt_of_lt_of_le hblr hR1.size
       have c0_u1:=(hR1.cell (p:=⟨B,off+k*2,none⟩) hblr).trans c0
       have c1_u1:=(hR1.cell (p:=⟨B,off+k*2+1,none⟩) hblr).trans c1
       clear e0 e1 f0 f1 c0 c1 lr1 lr2 hblr
       have hbu:=hbr.trans (hR1.mono hbr.size)
       go_wp2_with fail
       refine wp_held_list (fun W'=>Below u1.heap.size u1 W') [0,1,2,3,4,5,6,7,8,9,10,11] [12] 13 (by kernel_rfl) (by kernel_rfl) ⟨rfl,rfl,rfl,Nat.le_refl _,fun _ _=>rfl⟩ ?_
       iterate 12
        refine wpTakeL_step rfl ?_ rfl ?_ ?_
        rotate_left
        ·intro W' hS'
         have s0:=(hS'.cell (p:=⟨w.heap.size,0,none⟩) lr1_u1).trans e0_u1
         have s1:=(hS'.cell (p:=⟨w.heap.size,1,none⟩) lr1_u1).trans e1_u1
         have s2:=(hS'.cell (p:=⟨w.heap.size+1,0,none⟩) lr2_u1).trans f0_u1
         have s3:=(hS'.cell (p:=⟨w.heap.size+1,1,none⟩) lr2_u1).trans f1_u1
         have s4:=(hS'.cell (p:=⟨B,off+k*2,none⟩) hblr_u1).trans c0_u1
         have s5:=(hS'.cell (p:=⟨B,off+k*2+1,none⟩) hblr_u1).trans c1_u1
         go_simp
         try with_reducible rfl
        try simp only [zA,zB,zC,Act.put,zD,zE,zF]
       have hS0:Below u1.heap.size u1 u1.drew:=⟨rfl,rfl,rfl,Nat.le_refl _,fun _ _=>rfl⟩
       refine wpKeepL_step rfl rfl (fun K hK=>?_)
       go_simp
       refine (H2.out _ (hw.below (hbu.trans (hS0.mono hbu.size)))).mono ?_
       rintro e s1 ⟨rfl,hbs1⟩
       have hS1:=hS0.trans (hbs1.mono hS0.size)
       refine hK _ _ ⟨hS1,?_⟩
       clear hK K
       try simp only [zA,zB,zC,Act.put,zD,zE,zF]
       unfold wpKeepL
       simp only [List.drop_succ_cons,List.drop_zero]
       try simp only [zA,zB,zC,Act.put,zD,zE,zF]
       refine wpKeep_step rfl (fun K hK=>?_)
       go_simp
       refine hK _ _ ⟨trivial,?_⟩
       clear hK K
       try simp only [zA,zB,zC,Act.put,zD,zE,zF]
       refine wpKeep_step rfl (fun K hK=>?_)
       go_simp
       refine hK _ _ ⟨trivial,?_⟩
       clear hK K
       try simp only [zA,zB,zC,Act.put,zD,zE,zF]
       refine wpKeep_step rfl (fun K hK=>?_)
       go_simp
       refine hK _ _ ⟨trivial,wpKeep_nil ?_⟩
       clear hK K
       try simp only [zA,zB,zC,Act.put,zD,zE,zF]
       refine NormalOnly.mk ?_
       have hbs:=hbr1.trans ((hR1.trans (hS1.mono hR1.size)).mono hbr1.size)
       go_wp2
       refine ⟨⟨k+1,hk,int_succ k,rfl,HN.out,hbs⟩,?_⟩
       show L.length-((k:Int)+1).toNat<L.length-((k:Int)).toNat
       omega
     ·have g2:(g == 0)=false:=by simpa using hgz
      have HN:=hid (HG.out (by
       rcases HC.out with ⟨q1,q2⟩ | ⟨q1,q2⟩ | ⟨q1,q2⟩
       ·omega
       ·omega
       ·exact Rat.le_of_lt q1) (fun h=>by
       rcases HC.out with ⟨q1,q2⟩ | ⟨q1,q2⟩ | ⟨q1,q2⟩
       ·omega
       ·omega
       ·rw [h] at q1;exact absurd q1 Rat.lt_irrefl))
      clear HG HBD HBI HC hgz hg0
      go_wp2_with fail
      refine wp_held_list (fun W'=>Below wr.heap.size wr W') [0,1,2,3,4,5] [6] 7 (by kernel_rfl) (by kernel_rfl) ⟨rfl,rfl,rfl,Nat.le_refl _,fun _ _=>rfl⟩ ?_
      iterate 6
       refine wpTakeL_step rfl ?_ rfl ?_ ?_
       rotate_left
       ·intro W' hS'
        have s0:=(hS'.cell (p:=⟨w.heap.size,0,none⟩) lr1).trans e0
        have s1:=(hS'.cell (p:=⟨w.heap.size,1,none⟩) lr1).trans e1
        have s2:=(hS'.cell (p:=⟨w.heap.size+1,0,none⟩) lr2).trans f0
        have s3:=(hS'.cell (p:=⟨w.heap.size+1,1,none⟩) lr2).trans f1
        have s4:=(hS'.cell (p:=⟨B,off+k*2,none⟩) hblr).trans c0
        have s5:=(hS'.cell (p:=⟨B,off+k*2+1,none⟩) hblr).trans c1
        go_simp
        try with_reducible rfl
       try simp only [zA,zB,zC,Act.put,zD,zE,zF]
      have hR0:Below wr.heap.size wr wr.drew:=⟨rfl,rfl,rfl,Nat.le_refl _,fun _ _=>rfl⟩
      refine wpKeepL_step rfl rfl (fun K hK=>?_)
      go_simp
      refine (H1.out _ (hw.below (hbr.trans (hR0.mono hbr.size)))).mono ?_
      rintro e u1 ⟨rfl,hbu1⟩
      have hR1:=hR0.trans (hbu1.mono hR0.size)
      refine hK _ _ ⟨hR1,?_⟩
      clear hK K
      try simp only [zA,zB,zC,Act.put,zD,zE,zF]
      unfold wpKeepL
      simp only [List.drop_succ_cons,List.drop_zero]
      try simp only [zA,zB,zC,Act.put,zD,zE,zF]
      refine wpKeep_step rfl (fun K hK=>?_)
      go_simp
      refine hK _ _ ⟨trivial,wpKeep_nil ?_⟩
      clear hK K
      try simp only [zA,zB,zC,Act.put,zD,zE,zF]
      refine NormalOnly.mk ?_
      have lr1_u1:=Nat.lt_of_lt_of_le lr1 hR1.size
      have e0_u1:=(hR1.cell (p:=⟨w.heap.size,0,none⟩) lr1).trans e0
      have e1_u1:=(hR1.cell (p:=⟨w.heap.size,1,none⟩) lr1).trans e1
      have lr2_u1:=Nat.lt_of_lt_of_le lr2 hR1.size
      have f0_u1:=(hR1.cell (p:=⟨w.heap.size+1,0,none⟩) lr2).trans f0
      have f1_u1:=(hR1.cell (p:=⟨w.heap.size+1,1,none⟩) lr2).trans f1
      have hblr_u1:=Nat.lt_of_lt_of_le hblr hR1.size
      have c0_u1:=(hR1.cell (p:=⟨B,off+k*2,none⟩) hblr).trans c0
      have c1_u1:=(hR1.cell (p:=⟨B,off+k*2+1,none⟩) hblr).trans c1
      clear e0 e1 f0 f1 c0 c1 lr1 lr2 hblr
      have hbu:=hbr.trans (hR1.mono hbr.size)
      go_wp2_with fail
      refine wp_held_list (fun W'=>Below u1.heap.size u1 W') [0,1,2,3,4,5,6,7,8,9,10,11,12,13,14] [] 15 (by kernel_rfl) (by kernel_rfl) ⟨rfl,rfl,rfl,Nat.le_refl _,fun _ _=>rfl⟩ ?_
      iterate 6
       refine wpTakeL_step rfl ?_ rfl ?_ ?_
       rotate_left
       ·intro W' hS'
        have s0:=(hS'.cell (p:=⟨w.heap.size,0,none⟩) lr1_u1).trans e0_u1
        have s1:=(hS'.cell (p:=⟨w.heap.size,1,none⟩) lr1_u1).trans e1_u1
        have s2:=(hS'.cell (p:=⟨w.heap.size+1,0,none⟩) lr2_u1).trans f0_u1
        have s3:=(hS'.cell (p:=⟨w.heap.size+1,1,none⟩) lr2_u1).trans f1_u1
        have s4:=(hS'.cell (p:=⟨B,off+k*2,none⟩) hblr_u1).trans c0_u1
        have s5:=(hS'.cell (p:=⟨B,off+k*2+1,none⟩) hblr_u1).trans c1_u1
        go_simp
        try with_reducible rfl
       try simp only [zA,zB,zC,Act.put,zD,zE,zF]
      iterate 8
       refine wpTakeL_skip rfl rfl ?_
       try simp only [zA,zB,zC,Act.put,zD,zE,zF]
      iterate 1
       refine wpTakeL_step rfl ?_ rfl ?_ ?_
       rotate_left
       ·intro W' hS'
        have s0:=(hS'.cell (p:=⟨w.heap.size,0,none⟩) lr1_u1).trans e0_u1
        have s1:=(hS'.cell (p:=⟨w.heap.size,1,none⟩) lr1_u1).trans e1_u1
        have s2:=(hS'.cell (p:=⟨w.heap.size+1,0,none⟩) lr2_u1).trans f0_u1
        have s3:=(hS'.cell (p:=⟨w.heap.size+1,1,none⟩) lr2_u1).trans f1_u1
        have s4:=(hS'.cell (p:=⟨B,off+k*2,none⟩) hblr_u1).trans c0_u1
        have s5:=(hS'.cell (p:=⟨B,off+k*2+1,none⟩) hblr_u1).trans c1_u1
        go_simp
        try with_reducible rfl
       try simp only [zA,zB,zC,Act.put,zD,zE,zF]
      unfold wpKeepL
      simp only [List.drop_succ_cons,List.drop_zero]
      try simp only [zA,zB,zC,Act.put,zD,zE,zF]
      refine wpKeep_step rfl (fun K hK=>?_)
      go_simp
      refine hK _ _ ⟨trivial,wpKeep_nil ?_⟩
      clear hK K
      try simp only [zA,zB,zC,Act.put,zD,zE,zF]
      refine NormalOnly.mk ?_
      obtain ⟨s,hws⟩ : ∃ s,s=u1.drew:=⟨_,rfl⟩
      have hSZ:Below u1.heap.size u1 s:=by rw [hws];exact ⟨rfl,rfl,rfl,Nat.le_refl _,fun _ _=>rfl⟩
      rw [←hws]
      clear hws
      have hbs:=hbr1.trans ((hR1.trans (hSZ.mono hR1.size)).mono hbr1.size)
      go_wp2
      refine ⟨⟨k+1,hk,int_succ k,rfl,HN.out,hbs⟩,?_⟩
      show L.length-((k:Int)+1).toNat<L.length-((k:Int)).toNat
      omega
   ·have hkn:decide ((k:Int)<(L.length:Int))=false:=decide_eq_false (by omega)
    have HF:=hid (show Nxt L a b from ⟨HNE.out,fun q hq=>by
     obtain ⟨i,hi,rfl⟩:=mem_pt hq
     exact HNX.out i (by omega) hi⟩)
    go_wp2
    go_ret
    exact ⟨true,rfl,⟨fun _=>HF.out,fun _=>rfl⟩,hbr⟩
def HullPost (L:List QP) (w:World) (e:Ending) (w':World):Prop:=∃ r P,e=.returned r∧Wrap L P∧Pts w' r (if P.length<3 then [] else P)∧Below w.heap.size w w'
structure FoundI (L:List QP) (a f:QP) (k:Nat) (q:QP):Prop where
 one:q=f∨(q∈L∧Nxt L a q)
 all:∀ i,i<k→i<L.length→Nxt L a (pt L i)→q=pt L i
theorem FoundI.zero (L:List QP) (a f:QP):FoundI L a f 0 f:=⟨.inl rfl,fun _ hi=>absurd hi (Nat.not_lt_zero _)⟩
theorem FoundI.no {L:List QP} {a f q:QP} {k:Nat} (h:FoundI L a f k q) (hn:¬ Nxt L a (pt L k)):FoundI L a f (k+1) q:=⟨h.one,fun i hi hil hN=>by
 rcases (show i<k∨i=k by omega) with e | e
 ·exact h.all i e hil hN
 ·rw [e] at hN;exact absurd hN hn⟩
theorem FoundI.yes {L:List QP} {a f q:QP} {k:Nat} (_:FoundI L a f k q) (hk:k<L.length) (hn:Nxt L a (pt L k)):FoundI L a f (k+1) (pt L k):=⟨.inr ⟨pt_mem hk,hn⟩,fun _ _ hil hN =>
 nxt_unique hn hN (pt_mem hk) (pt_mem hil)⟩
theorem wrap_of_found {L P:List QP} (h:Part L P) {q:QP} (hq:FoundI L (pt P (P.length-1)) (pt P 0) L.length q) (e:q=pt P 0):Wrap L P:=by
 have hne:=h.ne
 have hall:∀ x∈L,Nxt L (pt P (P.length-1)) x→x=pt P 0:=fun x hx hN=>by
  obtain ⟨i,hi,rfl⟩:=mem_pt hx
  rw [←hq.all i hi hi hN,e]
 refine { h with close:=?_ }
 by_cases hx:∃ p,p∈L∧p≠P[P.length-1]
 ·obtain ⟨x,h1,h2⟩:=h.next (P.length-1) (by omega) hx
  right
  rw [←pt_eq (show P.length-1<P.length by omega)] at h2 ⊢
  rw [←pt_eq hne,←hall x h1 h2]
  exact h2
 ·left
  have hl:∀ p∈L,p=P[P.length-1]:=fun p hp=>Classical.byContradiction fun hn=>hx ⟨p,hp,hn⟩
  have h1:P.length=1:=by
   apply Decidable.byContradiction
   intro hn
   exact h.fresh (P.length-1) (by omega) (by omega) ((hl _ (h.mem _ (List.getElem_mem hne))).symm)
  refine ⟨h1,fun p hp=>?_⟩
  have:=hl p hp
  simp only [h1] at this
  exact this
theorem part_of_found {L P:List QP} (h:Part L P) {q:QP} (hq:FoundI L (pt P (P.length-1)) (pt P 0) L.length q) (e:q≠pt P 0):Part L (P ++ [q]):=by
 have hne:=h.ne
 rcases hq.one with h1 | ⟨h1,h2⟩
 ·exact absurd h1 e
 ·rw [pt_eq (by omega)] at h2
  rw [pt_eq hne] at e
  exact h.snoc h1 h2 e
theorem part_one {L:List QP} {t:Nat} (h:LeastAt L t):Part L [pt L t] where
 ne:=by simp
 mem:=fun p hp=>by rw [List.mem_singleton.1 hp];exact pt_mem h.1
 least:=fun p hp=>by
  obtain ⟨j,hj,rfl⟩:=mem_pt hp
  exact h.2 j hj
 nx:=fun i hi=>by simp at hi
 fresh:=fun i hi h0=>by simp at hi;omega
theorem pt_snoc0 {P:List QP} {q:QP} (h:0<P.length):pt (P ++ [q]) 0=pt P 0:=by
 rw [pt_eq (by simp),pt_eq h,List.getElem_append_left h]
theorem oneTwo (a b:ByteArray):∀ u∈(#[Value.string a,Value.string b]:Array Value).toList,u.oneCell'=true:=by
 intro u hu
 simp at hu
 rcases hu with rfl | rfl <;> rfl
theorem cells_last (P:List QP) (q:QP):cellsS (P.map textP)++(#[Value.string (tx q.1),.string (tx q.2)]:Array Value).toList=cellsS ((P ++ [q]).map textP):=by
 rw [List.map_append];exact (cellsS_snoc (P.map textP) (textP q)).symm
theorem r9_hull (v:Value) (L:List QP) (h0:0<L.length) (hn:L.length≤100000) (hz:∀ p∈L,Sz2 10000 p) (w:World) (hw:Good w) (hv:Pts w v L) :
  Calls Tryz.prog 16 #[v] w (HullPost L w):=by
 have HB:=hid (r9_begin v L h0 hn (fun p hp=>(hz p hp).mono (by decide)) w hw hv)
 have HNX:=hid (fun a (ha:a∈L) j (hj:j<L.length) w' (hg:Good w') (hp:Pts w' v L)=>r9_next v L a (pt L j) hn hz (hz _ ha) (hz _ (pt_mem hj)) w' hg hp)
 obtain ⟨p,c,rfl,hcl,hcm⟩:=hv.slice
 unfold maxLen at hcm
 have HV:=hid hv
 unfold TruthPost ptV at HNX
 unfold BegPost at HB
 have i0:((L.length:Int) == 0)=false:=beq_eq_false_iff_ne.2 (by omega)
 have hguard:=guardPts
 clear hz hv
 go_enter Tryz.func16,Tryz.ntmps16
 go_wp2_with fail
 refine HB.out.mono ?_
 rintro e w1 ⟨r,t,rfl,hLA,hPr,hb1⟩
 have HLA:=hid hLA
 have htl:=hLA.1
 have hlr:=rotL_len L (Nat.le_of_lt htl)
 have e0:pt (rotL L t) 0=pt L t:=by
  rw [pt_rot L (Nat.le_of_lt htl) (by omega)]
  unfold rotI;rw [if_pos (by omega)];simp
 obtain ⟨pr,cr,rfl,hcr,hcm2⟩:=hPr.slice
 obtain ⟨br,fr,rfl,hbr0,hcr0⟩:=Pts.cells hPr (by omega)
 obtain ⟨r0,r1⟩:=hcr0 0 (by omega)
 rw [e0] at r0 r1
 simp only [Nat.zero_mul,Nat.add_zero] at r0 r1
 rw [hlr] at *
 clear hcr0 hPr e0 hLA
 have i1:(0:Int)<(L.length:Int):=by omega
 have HP1:=hid (part_one HLA.out)
 obtain ⟨f,hf⟩ : ∃ f,f=pt L t:=⟨_,rfl⟩
 rw [←hf] at r0 r1 HP1
 clear hf HLA
 go_upto_region 4 with fail
 obtain ⟨wF,hwF⟩ : ∃ wF,wF=w1.alloc (Obj.cells #[.string (tx f.1),.string (tx f.2)] 31):=⟨_,rfl⟩
 have hbF1:Below w1.heap.size w1 wF:=by rw [hwF];exact alloc_below _ _
 have hbF:=hb1.trans (hbF1.mono hb1.size)
 have hxF:wF.heap[w1.heap.size]?=some (.cells #[.string (tx f.1),.string (tx f.2)] 31 (0,0)):=by rw [hwF];exact World.alloc_heap_new _ _
 rw [←hwF]
 clear hwF r0 r1
 have lF:=lt_of_blk hxF
 obtain ⟨t0,t1,_,_⟩:=two_cells hxF
 have hown0:(wF.alloc (Obj.cells #[.string (tx f.1),.string (tx f.2)] 31)).ownsRow wF.heap.size 31 2 (.slice (some ⟨wF.heap.size,0,none⟩) 1 1) 1 (cellsS ([f].map textP)):=
  ⟨rfl,.inr ⟨wF.heap.size,1,#[.string (tx f.1),.string (tx f.2)],rfl,Nat.le_refl _,World.alloc_heap_new _ _,Nat.le_refl _,by unfold maxLen;omega,rfl,rfl⟩⟩
 have hbO:Below wF.heap.size wF (wF.alloc (Obj.cells #[.string (tx f.1),.string (tx f.2)] 31)):=alloc_below _ _
 have HO0:=hid hown0
 clear hown0
 go_wp2_with fail
 go_loopw [4,5,6,7] (fun ov _ _ _ wr=>∃ P:List QP,Part L P∧pt P 0=f∧wr.ownsRow wF.heap.size 31 2 ov P.length (cellsS (P.map textP))∧Below wF.heap.size wF wr) (fun ov _ _ _ _=>L.length+1-lenOf ov)
 case atStart=>exact ⟨[f],HP1.out,rfl,HO0.out,hbO⟩
 case round =>
  clear hbO HO0 HP1
  obtain ⟨P,hP,hPf,hown,hbrF⟩:=hrel
  have HP:=hid hP
  have HO:=hid hown
  have HPF:=hid hPf
  have hple:=hP.len
  have hpne:=hP.ne
  have hmem:pt P (P.length-1)∈L:=hP.mem _ (pt_mem (by omega))
  have hbr:=hbF.trans (hbrF.mono hbF.size)
  have hPS:Pts wr _ P:=pairs_of_cells (by rw [List.length_map];exact hown)
  obtain ⟨m,hm⟩ : ∃ m,P.length=m+1:=⟨P.length-1,by omega⟩
  have hown':=hown
  rw [hm] at hown'
  obtain ⟨g,cap,hv9⟩:=ownsRow_succ hown'
  subst hv9
  rw [←hm] at hPS
  obtain ⟨bb,fo,hbb,hlP,hcP⟩:=Pts.cells hPS (by omega)
  cases hbb
  obtain ⟨p0,p1⟩:=hcP m (by omega)
  rw [show P.length-1=m by omega] at hmem
  simp only [Nat.zero_add] at p0 p1
  have HA:=hid (fun (W:Prop) (h:pt P (P.length-1)=pt P m→W)=>h (by rw [show P.length-1=m by omega]))
  have lFr:=Nat.lt_of_lt_of_le lF hbrF.size
  have u0:=(hbrF.cell (p:=⟨w1.heap.size,0,none⟩) lF).trans t0
  have u1:=(hbrF.cell (p:=⟨w1.heap.size,1,none⟩) lF).trans t1
  have j1:IntKind.i64.wrap (((m+1:Nat):Int)-1)=(m:Int):=IntWalk.i64_in _ (by omega) |>.trans (by omega)
  have j2:(0:Int)≤(m:Int):=by omega
  have j3:(m:Int)<((m+1:Nat):Int):=by omega
  clear hP hown hown' hPf hcP hPS
  generalize ha1:tx (pt P m).1=a1 at *
  generalize ha2:tx (pt P m).2=a2 at *
  go_upto_region 7 with fail
  obtain ⟨wo,hwo⟩ : ∃ wo,wo=wr:=⟨_,rfl⟩
  subst hwo
  obtain ⟨w5,hw5⟩ : ∃ w5,w5=(wo.alloc (Obj.cells #[.string a1,.string a2] 31)).alloc (Obj.cells #[.string (tx f.1),.string (tx f.2)] 31):=⟨_,rfl⟩
  obtain ⟨hb5,y1,y2⟩:=boxes2 hw5
  rw [←hw5]
  clear hw5
  have ly1:=lt_of_blk y1
  have ly2:=lt_of_blk y2
  obtain ⟨g0,g1,_,_⟩:=two_cells y1
  have HG0:=hid (And.intro g0 g1)
  have HU:=hid (And.intro u0 u1)
  have HY2:=hid y2
  clear g0 g1 u0 u1 y1 y2 p0 p1
  go_wp2_with fail
  go_loopw [7] (fun iv wr=>∃ (k:Nat) (q:QP),k≤L.length∧iv=.int .i64 (k:Int)∧FoundI L (pt P m) f k q∧wr.heap[wo.heap.size+1]?=some (.cells #[.string (tx q.1),.string (tx q.2)] 31 (0,0))∧Below (wo.heap.size+1) w5 wr) (fun iv _=>L.length-(intOf iv).toNat)
  case atStart=>exact ⟨0,f,Nat.zero_le _,rfl,FoundI.zero _ _ _,HY2.out,Below.refl _ _⟩
  case round =>
   obtain ⟨k,q,hkl,rfl,hFI,hyq,hbi5⟩:=hrel
   have HFI:=hid hFI
   have hbwr:Below wo.heap.size wo wr:=hb5.trans (hbi5.mono (Nat.le_succ _))
   have hbi:=hbr.trans (hbwr.mono hbr.size)
   have lq0:wo.heap.size<wr.heap.size:=Nat.lt_of_lt_of_le ly1 hbi5.size
   have lq1:=lt_of_blk hyq
   have HYQ:=hid hyq
   clear hFI hyq
   by_cases hk:k<L.length
   ·have hkn:decide ((k:Int)<(L.length:Int))=true:=decide_eq_true (by omega)
    have k1:(0:Int)≤(k:Int):=by omega
    have k2:(k:Int)<(L.length:Int):=by omega
    obtain ⟨B,off,rfl,hblr,hcell⟩:=Pts.cells (HV.out.below hbi) (by omega)
    obtain ⟨c0,c1⟩:=hcell k hk
    have g0:=(hbi5.cell (p:=⟨wo.heap.size,0,none⟩) (Nat.lt_succ_self _)).trans HG0.out.1
    have g1:=(hbi5.cell (p:=⟨wo.heap.size,1,none⟩) (Nat.lt_succ_self _)).trans HG0.out.2
    have H1:=hid (HNX.out (pt P m) hmem k hk)
    rw [ha1,ha2] at H1
    obtain ⟨z,hz⟩ : ∃ z,z=pt L k:=⟨_,rfl⟩
    have HZ:=hid hz
    rw [←hz] at H1 c0 c1
    clear hz hcell
    generalize hp1:tx z.1=p1 at *
    generalize hp2:tx z.2=p2 at *
    go_wp2_with fail
    refine wp_held_list (fun W'=>Below wr.heap.size wr W') [0,1,2,3,4,5] [] 6 (by kernel_rfl) (by kernel_rfl) ⟨rfl,rfl,rfl,Nat.le_refl _,fun _ _=>rfl⟩ ?_
    iterate 6
     refine wpTakeL_step rfl ?_ rfl ?_ ?_
     rotate_left
     ·intro W' hS'
      have s0:=(hS'.cell (p:=⟨wo.heap.size,0,none⟩) lq0).trans g0
      have s1:=(hS'.cell (p:=⟨wo.heap.size,1,none⟩) lq0).trans g1
      have s2:=(hS'.cell (p:=⟨B,off+k*2,none⟩) hblr).trans c0
      have s3:=(hS'.cell (p:=⟨B,off+k*2+1,none⟩) hblr).trans c1
      go_simp
      try with_reducible rfl
     try simp only [zA,zB,zC,Act.put,zD,zE,zF]
    have hR0:Below wr.heap.size wr wr.drew:=⟨rfl,rfl,rfl,Nat.le_refl _,fun _ _=>rfl⟩
    unfold wpKeepL
    simp only [List.drop_succ_cons,List.drop_zero]
    try simp only [zA,zB,zC,Act.put,zD,zE,zF]
    refine wpKeep_step rfl (fun K hK=>?_)
    go_simp
    refine (H1.out _ (hw.below (hbi.trans (hR0.mono hbi.size))) (HV.out.below (hbi.trans (hR0.mono hbi.size)))).mono ?_
    rintro e v1 ⟨rr,rfl,hrr,hbv1⟩
    have hRZ:=hR0.trans (hbv1.mono hR0.size)
    refine hK _ _ ⟨trivial,wpKeep_nil ?_⟩
    clear hK K
    try simp only [zA,zB,zC,Act.put,zD,zE,zF]
    refine NormalOnly.mk ?_
    have hYv:=(hRZ.block _ lq1).trans HYQ.out
    have hb5v:=hbi5.trans (hRZ.mono (show wo.heap.size+1≤wr.heap.size by omega))
    have c0v:=(hRZ.cell (p:=⟨B,off+k*2,none⟩) hblr).trans c0
    have c1v:=(hRZ.cell (p:=⟨B,off+k*2+1,none⟩) hblr).trans c1
    clear c0 c1 g0 g1
    cases rr
    ·have HN:=hid (HFI.out.no (by rw [←HZ.out];exact fun h=>Bool.noConfusion (hrr.2 h)))
     clear hrr
     go_wp2
     refine ⟨⟨k+1,q,hk,int_succ k,HN.out,hYv,hb5v⟩,?_⟩
     show L.length-((k:Int)+1).toNat<L.length-((k:Int)).toNat
     omega
    ·have HN:=hid (HFI.out.yes hk (by rw [←HZ.out];exact hrr.1 rfl))
     rw [←HZ.out] at HN
     clear hrr
     have hYn:=two_set1 (.string p2) (two_set0 (.string p1) hYv)
     have hbn:=(hb5v.setCell (p:=⟨wo.heap.size+1,0,none⟩) (Nat.le_refl _) (.string p1)).setCell (p:=⟨wo.heap.size+1,1,none⟩) (Nat.le_refl _) (.string p2)
     have HYN:=hid hYn
     have HBN:=hid hbn
     obtain ⟨_,_,_,_⟩:=two_cells hYv
     clear hYn hbn hb5v
     go_wp2
     refine ⟨⟨k+1,z,hk,int_succ k,HN.out,by rw [hp1,hp2];exact HYN.out,HBN.out⟩,?_⟩
     show L.length-((k:Int)+1).toNat<L.length-((k:Int)).toNat
     omega
   ·have hkn:decide ((k:Int)<(L.length:Int))=false:=decide_eq_false (by omega)
    have hFA:FoundI L (pt P (P.length-1)) (pt P 0) L.length q:=by
     have:=HFI.out
     rw [show k=L.length by omega] at this
     rw [show P.length-1=m by omega,HPF.out]
     exact this
    have HFA:=hid hFA
    have u0:=(hbwr.cell (p:=⟨w1.heap.size,0,none⟩) lFr).trans HU.out.1
    have u1:=(hbwr.cell (p:=⟨w1.heap.size,1,none⟩) lFr).trans HU.out.2
    obtain ⟨y0,y1,_,_⟩:=two_cells HYQ.out
    have heq:=eqlPts q f
    have HOI:=hid (owns_below HO.out hbwr)
    have hbiF:=hbrF.trans (hbwr.mono hbrF.size)
    clear hFA
    by_cases hqf:q=f
    ·have HW:=hid (wrap_of_found HP.out HFA.out (by rw [HPF.out];exact hqf))
     rw [decide_eq_true hqf] at heq
     have HPT:=hid (show Pts wr _ P from pairs_of_cells (by rw [List.length_map];exact HOI.out))
     clear hqf
     by_cases h3:m+1<3
     ·have h3d:decide (((m:Nat):Int)+1<3)=true:=decide_eq_true (by omega)
      go_wp2
      go_ret
      exact ⟨_,P,rfl,HW.out,by rw [if_pos (by omega)];exact ⟨none,0,rfl,Nat.le_refl _,by decide,fun h=>absurd h (Nat.lt_irrefl _)⟩,hbi⟩
     ·have h3d:decide (((m:Nat):Int)+1<3)=false:=decide_eq_false (by omega)
      go_wp2
      go_ret
      exact ⟨_,P,rfl,HW.out,by rw [if_neg (by omega)];exact HPT.out,hbi⟩
    ·have HN:=hid (part_of_found HP.out HFA.out (by rw [HPF.out];exact hqf))
     have hle2:=HN.out.len
     rw [List.length_append,List.length_singleton] at hle2
     have HPF2:=hid (show pt (P ++ [q]) 0=f by rw [pt_snoc0 hpne,HPF.out])
     rw [decide_eq_false hqf] at heq
     have h4:decide ((L.length:Int)<(m:Int)+1)=false:=decide_eq_false (by omega)
     have h5:decide ((m:Int)+1>(L.length:Int))=false:=decide_eq_false (by omega)
     have hbase:wF.heap.size≤wr.heap.size:=hbiF.size
     clear hqf hle2
     go_wp2_with (at_builtin;refine app_new slPt rfl _ _ rfl wF.heap.size _ P.length _ rfl HOI.out 1 1 _ rfl rfl (oneTwo _ _) (by omega) (by decide) hbase _ (cells_last P q) ?_;intro v1 w9 hown2 hb9;have HO2:=hid hown2;clear hown2)
     obtain ⟨g2,cp2,rfl⟩:=ownsRow_succ HO2.out
     refine ⟨⟨P ++ [q],HN.out,HPF2.out,by rw [List.length_append,List.length_singleton];exact HO2.out,hbiF.trans hb9⟩,?_⟩
     show L.length+1-(P.length+1)<L.length+1-(m+1)
     omega
end Go.Proofs.YtgohnjdgoglcfaaGreatDoor
