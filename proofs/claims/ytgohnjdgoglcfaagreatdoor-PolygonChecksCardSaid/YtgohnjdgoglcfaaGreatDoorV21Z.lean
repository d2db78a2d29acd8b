import Derived.Test.YtgohnjdgoglcfaaGreatDoorTwoRowZ
import Derived.Test.YtgohnjdgoglcfaaGreatDoorT1Z
set_option maxRecDepth 100000
set_option maxHeartbeats 8000000
namespace Go.Proofs.YtgohnjdgoglcfaaGreatDoor
open Go.RowKit Go.Shelf
open Go.Lib (decDigits itoa nDigits)
open Go.Lib (hid)
def OkUpto (L:List Pair) (k:Nat):Prop:=∀ i (h:i<L.length),i<k→okPr L[i]=true
theorem OkUpto.step {L:List Pair} {k:Nat} (h:OkUpto L k) (hk:k<L.length) (hx:okPr L[k]=true):OkUpto L (k+1):=fun i hi hik=>by
 rcases (show i<k∨i=k by omega) with e | e
 ·exact h i hi e
 ·subst e;exact hx
theorem OkUpto.all {L:List Pair} {k:Nat} (h:OkUpto L k) (hk:¬ k<L.length):∀ p∈L,okPr p=true:=fun p hp=>by
 obtain ⟨i,hi,rfl⟩:=List.getElem_of_mem hp
 exact h i hi (by omega)
theorem pg_check_few (p:Option Addr) (n c:Nat) (hn:n<3) (w:World):Calls Tryz.prog 18 #[.slice p n c] w (RV (.int .i64 5) w):=by
 have q1:decide ((n:Int)<3)=true:=decide_eq_true (by omega)
 have hb:=Below.refl w.heap.size w
 go_enter Tryz.func18,Tryz.ntmps18
 go_wp2
 go_ret
 exact ⟨rfl,hb⟩
theorem pg_check_many (p:Option Addr) (n c:Nat) (hn:60<n) (w:World):Calls Tryz.prog 18 #[.slice p n c] w (RV (.int .i64 4) w):=by
 have q1:decide ((n:Int)<3)=false:=decide_eq_false (by omega)
 have q2:decide ((n:Int)>60)=true:=decide_eq_true (by omega)
 have q3:decide ((60:Int)<(n:Int))=true:=decide_eq_true (by omega)
 have hb:=Below.refl w.heap.size w
 go_enter Tryz.func18,Tryz.ntmps18
 go_wp2
 go_ret
 exact ⟨rfl,hb⟩
theorem r9_check_few (p:Option Addr) (n c:Nat) (hn:n<3) (w:World):Calls Tryz.prog 50 #[.slice p n c] w (RV (.int .i64 5) w):=by
 have q1:decide ((n:Int)<3)=true:=decide_eq_true (by omega)
 have hb:=Below.refl w.heap.size w
 go_enter Tryz.func50,Tryz.ntmps50
 go_wp2
 go_ret
 exact ⟨rfl,hb⟩
theorem r9_check_many (p:Option Addr) (n c:Nat) (hn:60<n) (w:World):Calls Tryz.prog 50 #[.slice p n c] w (RV (.int .i64 4) w):=by
 have q1:decide ((n:Int)<3)=false:=decide_eq_false (by omega)
 have q2:decide ((n:Int)>60)=true:=decide_eq_true (by omega)
 have q3:decide ((60:Int)<(n:Int))=true:=decide_eq_true (by omega)
 have hb:=Below.refl w.heap.size w
 go_enter Tryz.func50,Tryz.ntmps50
 go_wp2
 go_ret
 exact ⟨rfl,hb⟩
theorem pg_check_wrong (v:Value) (L:List Pair) (h3:3≤L.length) (h60:L.length≤60) (hs:∀ p∈L,p.1.size≤4000000∧p.2.size≤4000000) (hbad:¬ ∀ p∈L,okPr p=true) (w:World) (hw:Good w) (hv:Pairs w v L) :
  Calls Tryz.prog 18 #[v] w (RV (.int .i64 2) w):=by
 have HCP:=hid (fun i (hi:i<L.length) w' (hg:Good w')=>vec_pointS L[i].1 L[i].2 (hs _ (List.getElem_mem hi)).1 (hs _ (List.getElem_mem hi)).2 w' hg)
 have HBD:=hid hbad
 unfold RV at HCP
 obtain ⟨p,c,rfl,hcl,hcm,hx⟩:=hv
 unfold maxLen at hcm
 obtain ⟨B,off,rfl,hbl,hcell⟩:=hx (by omega)
 have HCL:=hid (fun i (hi:i<L.length) wx (h:Below w.heap.size w wx)=>And.intro ((h.cell (p:=⟨B,off+i*2,none⟩) hbl).trans (hcell i hi).1) ((h.cell (p:=⟨B,off+i*2+1,none⟩) hbl).trans (hcell i hi).2))
 have q1:decide ((L.length:Int)<3)=false:=decide_eq_false (by omega)
 have q2:decide ((L.length:Int)>60)=false:=decide_eq_false (by omega)
 have q3:decide ((60:Int)<(L.length:Int))=false:=decide_eq_false (by omega)
 have hbw:=Below.refl w.heap.size w
 clear hs hbad hcell hx
 go_enter Tryz.func18,Tryz.ntmps18
 go_wp2_with fail
 go_loopw [21] (fun iv wr=>∃ k:Nat,k≤L.length∧iv=.int .i64 (k:Int)∧OkUpto L k∧Below w.heap.size w wr) (fun iv _=>L.length-(intOf iv).toNat)
 case atStart=>exact ⟨0,Nat.zero_le _,rfl,fun i _ hi=>absurd hi (Nat.not_lt_zero _),hbw⟩
 case round =>
  obtain ⟨k,hkl,rfl,hok,hbr⟩:=hrel
  have HO:=hid hok
  clear hok
  by_cases hk:k<L.length
  ·have hkn:decide ((k:Int)<(L.length:Int))=true:=decide_eq_true (by omega)
   have i1:(0:Int)≤(k:Int):=by omega
   have i2:(k:Int)<(L.length:Int):=by omega
   obtain ⟨c0,c1⟩:=HCL.out k hk wr hbr
   have H1:=hid (HCP.out k hk)
   have HS:=hid (fun h=>HO.out.step hk h)
   clear HCP HCL HO
   cases hB:okPr L[k]
   ·rw [hB] at H1
    simp only [Bool.false_eq_true,if_false] at H1
    clear hB HS
    generalize L[k]=z at *
    obtain ⟨z1,z2⟩:=z
    dsimp only at c0 c1 H1
    go_upto_region 8 with fail
    obtain ⟨wC,hwC⟩ : ∃ wC,wC=wr.alloc (Obj.cells #[.string z1,.string z2] 31):=⟨_,rfl⟩
    obtain ⟨hbwC,lwC,g0,g1⟩:=box_new hwC
    rw [←hwC]
    clear hwC
    have hbC:=hbr.trans (hbwC.mono hbr.size)
    go_wp2_with fail
    refine (H1.out _ (hw.below hbC)).mono ?_
    rintro e w1 ⟨rfl,hb1⟩
    go_wp2
    go_ret
    exact ⟨rfl,hbC.trans (hb1.mono hbC.size)⟩
   ·rw [hB] at H1
    simp only [if_true] at H1
    have HN:=hid (HS.out hB)
    clear hB HS
    generalize L[k]=z at *
    obtain ⟨z1,z2⟩:=z
    dsimp only at c0 c1 H1
    go_upto_region 8 with fail
    obtain ⟨wC,hwC⟩ : ∃ wC,wC=wr.alloc (Obj.cells #[.string z1,.string z2] 31):=⟨_,rfl⟩
    obtain ⟨hbwC,lwC,g0,g1⟩:=box_new hwC
    rw [←hwC]
    clear hwC
    have hbC:=hbr.trans (hbwC.mono hbr.size)
    go_wp2_with fail
    refine (H1.out _ (hw.below hbC)).mono ?_
    rintro e w1 ⟨rfl,hb1⟩
    go_wp2
    refine ⟨⟨k+1,hk,int_succ k,HN.out,hbC.trans (hb1.mono hbC.size)⟩,?_⟩
    show L.length-((k:Int)+1).toNat<L.length-((k:Int)).toNat
    omega
  ·exact absurd (HO.out.all hk) HBD.out
theorem r9_rightp (p:Pair) (h:p.1.size≤4000000∧p.2.size≤4000000) (w:World) (hw:Good w):Calls Tryz.prog 15 #[.agg #[.string p.1,.string p.2]] w (RV (.bool (okPr p)) w):=r5_rightpoint p.1 p.2 h.1 h.2 w hw
theorem r9_check_wrong (v:Value) (L:List Pair) (h3:3≤L.length) (h60:L.length≤60) (hs:∀ p∈L,p.1.size≤4000000∧p.2.size≤4000000) (hbad:¬ ∀ p∈L,okPr p=true) (w:World) (hw:Good w) (hv:Pairs w v L) :
  Calls Tryz.prog 50 #[v] w (RV (.int .i64 2) w):=by
 have HCP:=hid (fun i (hi:i<L.length) w' (hg:Good w')=>r9_rightp L[i] (hs _ (List.getElem_mem hi)) w' hg)
 have HBD:=hid hbad
 unfold RV at HCP
 obtain ⟨p,c,rfl,hcl,hcm,hx⟩:=hv
 unfold maxLen at hcm
 obtain ⟨B,off,rfl,hbl,hcell⟩:=hx (by omega)
 have HCL:=hid (fun i (hi:i<L.length) wx (h:Below w.heap.size w wx)=>And.intro ((h.cell (p:=⟨B,off+i*2,none⟩) hbl).trans (hcell i hi).1) ((h.cell (p:=⟨B,off+i*2+1,none⟩) hbl).trans (hcell i hi).2))
 have q1:decide ((L.length:Int)<3)=false:=decide_eq_false (by omega)
 have q2:decide ((L.length:Int)>60)=false:=decide_eq_false (by omega)
 have q3:decide ((60:Int)<(L.length:Int))=false:=decide_eq_false (by omega)
 have hbw:=Below.refl w.heap.size w
 clear hs hbad hcell hx
 go_enter Tryz.func50,Tryz.ntmps50
 go_wp2_with fail
 go_loopw [3] (fun iv wr=>∃ k:Nat,k≤L.length∧iv=.int .i64 (k:Int)∧OkUpto L k∧Below w.heap.size w wr) (fun iv _=>L.length-(intOf iv).toNat)
 case atStart=>exact ⟨0,Nat.zero_le _,rfl,fun i _ hi=>absurd hi (Nat.not_lt_zero _),hbw⟩
 case round =>
  obtain ⟨k,hkl,rfl,hok,hbr⟩:=hrel
  have HO:=hid hok
  clear hok
  by_cases hk:k<L.length
  ·have hkn:decide ((k:Int)<(L.length:Int))=true:=decide_eq_true (by omega)
   have i1:(0:Int)≤(k:Int):=by omega
   have i2:(k:Int)<(L.length:Int):=by omega
   obtain ⟨c0,c1⟩:=HCL.out k hk wr hbr
   have H1:=hid (HCP.out k hk)
   have HS:=hid (fun h=>HO.out.step hk h)
   clear HCP HCL HO
   cases hB:okPr L[k]
   ·rw [hB] at H1
    clear hB HS
    generalize L[k]=z at *
    obtain ⟨z1,z2⟩:=z
    dsimp only at c0 c1 H1
    have hbC:=hbr
    go_wp2_with fail
    refine (H1.out _ (hw.below hbC)).mono ?_
    rintro e w1 ⟨rfl,hb1⟩
    go_wp2
    go_ret
    exact ⟨rfl,hbC.trans (hb1.mono hbC.size)⟩
   ·rw [hB] at H1
    have HN:=hid (HS.out hB)
    clear hB HS
    generalize L[k]=z at *
    obtain ⟨z1,z2⟩:=z
    dsimp only at c0 c1 H1
    have hbC:=hbr
    go_wp2_with fail
    refine (H1.out _ (hw.below hbC)).mono ?_
    rintro e w1 ⟨rfl,hb1⟩
    go_wp2
    refine ⟨⟨k+1,hk,int_succ k,HN.out,hbC.trans (hb1.mono hbC.size)⟩,?_⟩
    show L.length-((k:Int)+1).toNat<L.length-((k:Int)).toNat
    omega
  ·exact absurd (HO.out.all hk) HBD.out
theorem r9_checkP (v:Value) (M:List QP) (h3:3≤M.length) (h60:M.length≤60) (hz:∀ p∈M,OkB p.1∧OkB p.2) (w:World) (hw:Good w) (hv:Pts w v M) :
  Calls Tryz.prog 50 #[v] w (RV (.int .i64 (polyC M)) w):=by
 obtain ⟨R,hR⟩ : ∃ R:Int,R=polyC M:=⟨_,rfl⟩
 rw [←hR]
 have HR:=hid hR
 have hcp:=fun i (hi:i<M.length) w' (hg:Good w')=>r9_rightp (textP (pt M i)) ⟨Nat.le_trans (hz _ (pt_mem hi)).1.sz (by decide),Nat.le_trans (hz _ (pt_mem hi)).2.sz (by decide)⟩ w' hg
 have HCP:=hid (fun i (hi:i<M.length) w' (hg:Good w')=>show Calls _ _ #[.agg #[.string (tx (pt M i).1),.string (tx (pt M i).2)]] _ (RV (.bool true) w') from by have h:=hcp i hi w' hg;rw [show okPr (textP (pt M i))=true from OkB.two (hz _ (pt_mem hi))] at h;exact h)
 have HTU:=hid (fun i (hi:i<M.length) j (hj:j<M.length) k (hk:k<M.length) w' (hg:Good w')=>r5_turn (pt M i) (pt M j) (pt M k) ((okP_sz (hz _ (pt_mem hi))).mono (by decide)) ((okP_sz (hz _ (pt_mem hj))).mono (by decide)) ((okP_sz (hz _ (pt_mem hk))).mono (by decide)) w' hg)
 have HLS:=hid (fun i (hi:i<M.length) j (hj:j<M.length) w' (hg:Good w')=>r9_less (pt M i) (pt M j) ((okP_sz (hz _ (pt_mem hi))).mono (by decide)) ((okP_sz (hz _ (pt_mem hj))).mono (by decide)) w' hg)
 unfold RV at HCP HTU HLS
 unfold ptV at HTU HLS
 obtain ⟨p,c,rfl,hcl,hcm⟩:=hv.slice
 unfold maxLen at hcm
 obtain ⟨B,off,rfl,hbl,hcell⟩:=Pts.cells hv (by omega)
 have HCL:=hid (fun i (hi:i<M.length) wx (h:Below w.heap.size w wx)=>And.intro ((h.cell (p:=⟨B,off+i*2,none⟩) hbl).trans (hcell i hi).1) ((h.cell (p:=⟨B,off+i*2+1,none⟩) hbl).trans (hcell i hi).2))
 have q1:decide ((M.length:Int)<3)=false:=decide_eq_false (by omega)
 have q2:decide ((M.length:Int)>60)=false:=decide_eq_false (by omega)
 have q3:decide ((60:Int)<(M.length:Int))=false:=decide_eq_false (by omega)
 have hbw:=Below.refl w.heap.size w
 clear hz hv hR hcell hcp
 go_enter Tryz.func50,Tryz.ntmps50
 go_wp2_with fail
 go_loopw [3] (fun iv wr=>∃ k:Nat,k≤M.length∧iv=.int .i64 (k:Int)∧Below w.heap.size w wr) (fun iv _=>M.length-(intOf iv).toNat)
 case atStart=>exact ⟨0,Nat.zero_le _,rfl,hbw⟩
 case round =>
  obtain ⟨k,hkl,rfl,hbr⟩:=hrel
  by_cases hk:k<M.length
  ·have hkn:decide ((k:Int)<(M.length:Int))=true:=decide_eq_true (by omega)
   have i1:(0:Int)≤(k:Int):=by omega
   have i2:(k:Int)<(M.length:Int):=by omega
   obtain ⟨c0,c1⟩:=HCL.out k hk wr hbr
   have H1:=hid (HCP.out k hk)
   generalize tx (pt M k).1=p1 at *
   generalize tx (pt M k).2=p2 at *
   go_wp2_with fail
   refine (H1.out _ (hw.below hbr)).mono ?_
   rintro e w1 ⟨rfl,hb1⟩
   go_wp2
   refine ⟨⟨k+1,hk,int_succ k,hbr.trans (hb1.mono hbr.size)⟩,?_⟩
   show M.length-((k:Int)+1).toNat<M.length-((k:Int)).toNat
   omega
  ·have hkn:decide ((k:Int)<(M.length:Int))=false:=decide_eq_false (by omega)
   obtain ⟨w2,hw2⟩ : ∃ w2,w2=wr:=⟨_,rfl⟩
   subst hw2
   go_wp2_with fail
   go_loopw [4] (fun iv wr=>∃ k:Nat,k≤M.length∧iv=.int .i64 (k:Int)∧RowsTo M k∧Below w.heap.size w wr) (fun iv _=>M.length-(intOf iv).toNat)
   case atStart=>exact ⟨0,Nat.zero_le _,rfl,fun _ hi=>absurd hi (Nat.not_lt_zero _),hbr⟩
   case round =>
    clear hbr hkn hk hkl
    obtain ⟨k,hkl,rfl,hRS,hbr⟩:=hrel
    have HRS:=hid hRS
    clear hRS
    by_cases hk:k<M.length
    ·have hkn:decide ((k:Int)<(M.length:Int))=true:=decide_eq_true (by omega)
     have i1:(0:Int)≤(k:Int):=by omega
     have i2:(k:Int)<(M.length:Int):=by omega
     have hnx:=nxI_lt (i:=k) (show 0<M.length by omega)
     have hnxk:nxI M.length k≠k:=by unfold nxI;split <;> omega
     have t1:=tmod_nx hk
     have t2:(0:Int)≤((nxI M.length k:Nat):Int):=by omega
     have t3:((nxI M.length k:Nat):Int)<(M.length:Int):=by omega
     have t4:((M.length:Int) == 0)=false:=beq_eq_false_iff_ne.2 (by omega)
     have t5:IntKind.i64.wrap ((k:Int)+1)=(k:Int)+1:=IntWalk.i64_in _ (by omega)
     have t6:(M.length:Int)≠0:=by omega
     have t7:IntKind.i64.wrap ((nxI M.length k:Nat):Int)=((nxI M.length k:Nat):Int):=IntWalk.i64_in _ (by omega)
     have t8:¬ M=[]:=fun e=>by rw [e] at hk;exact absurd hk (Nat.not_lt_zero _)
     obtain ⟨wo,hwo⟩ : ∃ wo,wo=wr:=⟨_,rfl⟩
     subst hwo
     go_upto_region 14 with fail
     go_wp2_with fail
     go_loopw [6] (fun iv wr=>∃ j:Nat,j≤M.length∧iv=.int .i64 (j:Int)∧RowTo M k j∧Below wo.heap.size wo wr) (fun iv _=>M.length-(intOf iv).toNat)
     case atStart=>exact ⟨0,Nat.zero_le _,rfl,RowTo.zero _ _,Below.refl _ _⟩
     case round =>
      obtain ⟨j,hjl,rfl,hRT,hbo⟩:=hrel
      have HRT:=hid hRT
      have hbi:=hbr.trans (hbo.mono hbr.size)
      clear hRT
      by_cases hj:j<M.length
      ·have hjn:decide ((j:Int)<(M.length:Int))=true:=decide_eq_true (by omega)
       have j1:(0:Int)≤(j:Int):=by omega
       have j2:(j:Int)<(M.length:Int):=by omega
       obtain ⟨c0,c1⟩:=HCL.out k hk wr hbi
       obtain ⟨d0,d1⟩:=HCL.out (nxI M.length k) hnx wr hbi
       obtain ⟨e0,e1⟩:=HCL.out j hj wr hbi
       have hblr:B<wr.heap.size:=Nat.lt_of_lt_of_le hbl hbi.size
       have H1:=hid (HTU.out k hk (nxI M.length k) hnx j hj)
       generalize tx (pt M k).1=a1 at *
       generalize tx (pt M k).2=a2 at *
       generalize tx (pt M j).1=y1 at *
       generalize tx (pt M j).2=y2 at *
       generalize tx (pt M (nxI M.length k)).1=x1 at *
       generalize tx (pt M (nxI M.length k)).2=x2 at *
       by_cases hjk:j=k
       ·have HN:=hid (HRT.out.step (.inl hjk))
        have n1:((j:Int) != (k:Int))=false:=by subst hjk;simp
        have n2:((j:Int) == (k:Int))=true:=by subst hjk;simp
        clear hjk
        go_wp2_with fail
        refine wp_held_list (fun W'=>Below wr.heap.size wr W') [0,1,2,3,4,5,6,7,8,9,10,11,12,13,14,15,16,17,18,19,20,21,22] [] 23 (by kernel_rfl) (by kernel_rfl) ⟨rfl,rfl,rfl,Nat.le_refl _,fun _ _=>rfl⟩ ?_
        iterate 4
         refine wpTakeL_step rfl ?_ rfl ?_ ?_
         rotate_left
         ·intro W' hS'
          have s0:=(hS'.cell (p:=⟨B,off+k*2,none⟩) hblr).trans c0
          have s1:=(hS'.cell (p:=⟨B,off+k*2+1,none⟩) hblr).trans c1
          have s2:=(hS'.cell (p:=⟨B,off+nxI M.length k*2,none⟩) hblr).trans d0
          have s3:=(hS'.cell (p:=⟨B,off+nxI M.length k*2+1,none⟩) hblr).trans d1
          have s4:=(hS'.cell (p:=⟨B,off+j*2,none⟩) hblr).trans e0
          have s5:=(hS'.cell (p:=⟨B,off+j*2+1,none⟩) hblr).trans e1
          go_simp
          try with_reducible rfl
         try simp only [zA,zB,zC,Act.put,zD,zE,zF]
        iterate 3
         refine wpTakeL_skip rfl rfl ?_
         try simp only [zA,zB,zC,Act.put,zD,zE,zF]
        iterate 2
         refine wpTakeL_step rfl ?_ rfl ?_ ?_
         rotate_left
         ·intro W' hS'
          have s0:=(hS'.cell (p:=⟨B,off+k*2,none⟩) hblr).trans c0
          have s1:=(hS'.cell (p:=⟨B,off+k*2+1,none⟩) hblr).trans c1
          have s2:=(hS'.cell (p:=⟨B,off+nxI M.length k*2,none⟩) hblr).trans d0
          have s3:=(hS'.cell (p:=⟨B,off+nxI M.length k*2+1,none⟩) hblr).trans d1
          have s4:=(hS'.cell (p:=⟨B,off+j*2,none⟩) hblr).trans e0
          have s5:=(hS'.cell (p:=⟨B,off+j*2+1,none⟩) hblr).trans e1
          go_simp
          try with_reducible rfl
         try simp only [zA,zB,zC,Act.put,zD,zE,zF]
        iterate 14
         refine wpTakeL_skip rfl rfl ?_
         try simp only [zA,zB,zC,Act.put,zD,zE,zF]
        unfold wpKeepL
        simp only [List.drop_succ_cons,List.drop_zero]
        try simp only [zA,zB,zC,Act.put,zD,zE,zF]
        refine wpKeep_step rfl (fun K hK=>?_)
        go_simp
        refine hK _ _ ⟨trivial,wpKeep_nil ?_⟩
        clear hK K
        try simp only [zA,zB,zC,Act.put,zD,zE,zF]
        refine NormalOnly.mk ?_
        obtain ⟨u,hwu⟩ : ∃ u,u=wr.drew:=⟨_,rfl⟩
        have hRZ:Below wr.heap.size wr u:=by rw [hwu];exact ⟨rfl,rfl,rfl,Nat.le_refl _,fun _ _=>rfl⟩
        rw [←hwu]
        clear hwu
        have HBZ:Below wr.heap.size wr _:=hRZ
        go_wp2
        refine ⟨⟨j+1,hj,int_succ j,HN.out,hbo.trans (HBZ.mono hbo.size)⟩,?_⟩
        show M.length-((j:Int)+1).toNat<M.length-((j:Int)).toNat
        omega
       ·have n1:((j:Int) != (k:Int))=true:=by simpa using (show ¬ (j:Int)=(k:Int) by omega)
        have n2:((j:Int) == (k:Int))=false:=beq_eq_false_iff_ne.2 (by omega)
        by_cases hjx:j=nxI M.length k
        ·have HN:=hid (HRT.out.step (.inr (.inl hjx)))
         have n3:((j:Int) != ((nxI M.length k:Nat):Int))=false:=by rw [←hjx];simp
         have n4:((j:Int) == ((nxI M.length k:Nat):Int))=true:=by rw [←hjx];simp
         clear hjk hjx
         go_wp2_with fail
         refine wp_held_list (fun W'=>Below wr.heap.size wr W') [0,1,2,3,4,5,6,7,8,9,10,11,12,13,14,15,16,17,18,19,20,21,22] [] 23 (by kernel_rfl) (by kernel_rfl) ⟨rfl,rfl,rfl,Nat.le_refl _,fun _ _=>rfl⟩ ?_
         iterate 9
          refine wpTakeL_step rfl ?_ rfl ?_ ?_
          rotate_left
          ·intro W' hS'
           have s0:=(hS'.cell (p:=⟨B,off+k*2,none⟩) hblr).trans c0
           have s1:=(hS'.cell (p:=⟨B,off+k*2+1,none⟩) hblr).trans c1
           have s2:=(hS'.cell (p:=⟨B,off+nxI M.length k*2,none⟩) hblr).trans d0
           have s3:=(hS'.cell (p:=⟨B,off+nxI M.length k*2+1,none⟩) hblr).trans d1
           have s4:=(hS'.cell (p:=⟨B,off+j*2,none⟩) hblr).trans e0
           have s5:=(hS'.cell (p:=⟨B,off+j*2+1,none⟩) hblr).trans e1
           go_simp
           try with_reducible rfl
          try simp only [zA,zB,zC,Act.put,zD,zE,zF]
         iterate 14
          refine wpTakeL_skip rfl rfl ?_
          try simp only [zA,zB,zC,Act.put,zD,zE,zF]
         unfold wpKeepL
         simp only [List.drop_succ_cons,List.drop_zero]
         try simp only [zA,zB,zC,Act.put,zD,zE,zF]
         refine wpKeep_step rfl (fun K hK=>?_)
         go_simp
         refine hK _ _ ⟨trivial,wpKeep_nil ?_⟩
         clear hK K
         try simp only [zA,zB,zC,Act.put,zD,zE,zF]
         refine NormalOnly.mk ?_
         obtain ⟨u,hwu⟩ : ∃ u,u=wr.drew:=⟨_,rfl⟩
         have hRZ:Below wr.heap.size wr u:=by rw [hwu];exact ⟨rfl,rfl,rfl,Nat.le_refl _,fun _ _=>rfl⟩
         rw [←hwu]
         clear hwu
         have HBZ:Below wr.heap.size wr _:=hRZ
         go_wp2
         refine ⟨⟨j+1,hj,int_succ j,HN.out,hbo.trans (HBZ.mono hbo.size)⟩,?_⟩
         show M.length-((j:Int)+1).toNat<M.length-((j:Int)).toNat
         omega
        ·have n3:((j:Int) != ((nxI M.length k:Nat):Int))=true:=by simpa using (show ¬ (j:Int)=((nxI M.length k:Nat):Int) by omega)
         have n4:((j:Int) == ((nxI M.length k:Nat):Int))=false:=beq_eq_false_iff_ne.2 (by omega)
         have hgc:=sgnR_cases (crs (pt M k) (pt M (nxI M.length k)) (pt M j))
         have HGC:=hid hgc
         have HBAD:=hid (fun h=>not_cvx hk hj hjk hjx h)
         clear hjk hjx hgc
         obtain ⟨g,hg⟩ : ∃ g,g=sgnR (crs (pt M k) (pt M (nxI M.length k)) (pt M j)):=⟨_,rfl⟩
         rw [←hg] at H1 HGC
         clear hg
         by_cases hg0:g≤0
         ·have HR7:=hid (show R=7 by
           rw [HR.out]
           refine polyC_seven (HBAD.out ?_)
           rcases HGC.out with ⟨q1,q2⟩ | ⟨q1,q2⟩ | ⟨q1,q2⟩
           ·grind
           ·grind
           ·omega)
          have n5:decide (g≤0)=true:=decide_eq_true hg0
          clear hg0 HGC HBAD
          go_wp2_with fail
          refine wp_held_list (fun W'=>Below wr.heap.size wr W') [0,1,2,3,4,5,6,7,8,9,10,11,12,13,14,15,16,17,18,19,20] [21] 22 (by kernel_rfl) (by kernel_rfl) ⟨rfl,rfl,rfl,Nat.le_refl _,fun _ _=>rfl⟩ ?_
          iterate 21
           refine wpTakeL_step rfl ?_ rfl ?_ ?_
           rotate_left
           ·intro W' hS'
            have s0:=(hS'.cell (p:=⟨B,off+k*2,none⟩) hblr).trans c0
            have s1:=(hS'.cell (p:=⟨B,off+k*2+1,none⟩) hblr).trans c1
            have s2:=(hS'.cell (p:=⟨B,off+nxI M.length k*2,none⟩) hblr).trans d0
            have s3:=(hS'.cell (p:=⟨B,off+nxI M.length k*2+1,none⟩) hblr).trans d1
            have s4:=(hS'.cell (p:=⟨B,off+j*2,none⟩) hblr).trans e0
            have s5:=(hS'.cell (p:=⟨B,off+j*2+1,none⟩) hblr).trans e1
            go_simp
            try with_reducible rfl
           try simp only [zA,zB,zC,Act.put,zD,zE,zF]
          have hR0:Below wr.heap.size wr wr.drew:=⟨rfl,rfl,rfl,Nat.le_refl _,fun _ _=>rfl⟩
          refine wpKeepL_step rfl rfl (fun K hK=>?_)
          go_simp
          refine (H1.out _ (hw.below (hbi.trans (hR0.mono hbi.size)))).mono ?_
          rintro e u1 ⟨rfl,hbu1⟩
          have hR1:=hR0.trans (hbu1.mono hR0.size)
          refine hK _ _ ⟨hR1,?_⟩
          clear hK K
          try simp only [zA,zB,zC,Act.put,zD,zE,zF]
          unfold wpKeepL
          simp only [List.drop_succ_cons,List.drop_zero]
          try simp only [zA,zB,zC,Act.put,zD,zE,zF]
          refine wpKeep_step rfl (fun K hK=>?_)
          go_simp
          refine hK _ _ ⟨trivial,?_⟩
          clear hK K
          try simp only [zA,zB,zC,Act.put,zD,zE,zF]
          refine wpKeep_step rfl (fun K hK=>?_)
          go_simp
          refine hK _ _ ⟨trivial,wpKeep_nil ?_⟩
          clear hK K
          try simp only [zA,zB,zC,Act.put,zD,zE,zF]
          refine NormalOnly.mk ?_
          have HBZ:Below wr.heap.size wr _:=hR1
          go_wp2
          go_ret
          exact ⟨by rw [HR7.out];rfl,hbi.trans (HBZ.mono hbi.size)⟩
         ·have HN:=hid (HRT.out.step (.inr (.inr (by
           rcases HGC.out with ⟨q1,q2⟩ | ⟨q1,q2⟩ | ⟨q1,q2⟩
           ·omega
           ·omega
           ·exact q1))))
          have n5:decide (g≤0)=false:=decide_eq_false hg0
          clear hg0 HGC HBAD
          go_wp2_with fail
          refine wp_held_list (fun W'=>Below wr.heap.size wr W') [0,1,2,3,4,5,6,7,8,9,10,11,12,13,14,15,16,17,18,19,20] [21] 22 (by kernel_rfl) (by kernel_rfl) ⟨rfl,rfl,rfl,Nat.le_refl _,fun _ _=>rfl⟩ ?_
          iterate 21
           refine wpTakeL_step rfl ?_ rfl ?_ ?_
           rotate_left
           ·intro W' hS'
            have s0:=(hS'.cell (p:=⟨B,off+k*2,none⟩) hblr).trans c0
            have s1:=(hS'.cell (p:=⟨B,off+k*2+1,none⟩) hblr).trans c1
            have s2:=(hS'.cell (p:=⟨B,off+nxI M.length k*2,none⟩) hblr).trans d0
            have s3:=(hS'.cell (p:=⟨B,off+nxI M.length k*2+1,none⟩) hblr).trans d1
            have s4:=(hS'.cell (p:=⟨B,off+j*2,none⟩) hblr).trans e0
            have s5:=(hS'.cell (p:=⟨B,off+j*2+1,none⟩) hblr).trans e1
            go_simp
            try with_reducible rfl
           try simp only [zA,zB,zC,Act.put,zD,zE,zF]
          have hR0:Below wr.heap.size wr wr.drew:=⟨rfl,rfl,rfl,Nat.le_refl _,fun _ _=>rfl⟩
          refine wpKeepL_step rfl rfl (fun K hK=>?_)
          go_simp
          refine (H1.out _ (hw.below (hbi.trans (hR0.mono hbi.size)))).mono ?_
          rintro e u1 ⟨rfl,hbu1⟩
          have hR1:=hR0.trans (hbu1.mono hR0.size)
          refine hK _ _ ⟨hR1,?_⟩
          clear hK K
          try simp only [zA,zB,zC,Act.put,zD,zE,zF]
          unfold wpKeepL
          simp only [List.drop_succ_cons,List.drop_zero]
          try simp only [zA,zB,zC,Act.put,zD,zE,zF]
          refine wpKeep_step rfl (fun K hK=>?_)
          go_simp
          refine hK _ _ ⟨trivial,?_⟩
          clear hK K
          try simp only [zA,zB,zC,Act.put,zD,zE,zF]
          refine wpKeep_step rfl (fun K hK=>?_)
          go_simp
          refine hK _ _ ⟨trivial,wpKeep_nil ?_⟩
          clear hK K
          try simp only [zA,zB,zC,Act.put,zD,zE,zF]
          refine NormalOnly.mk ?_
          have HBZ:Below wr.heap.size wr _:=hR1
          go_wp2
          refine ⟨⟨j+1,hj,int_succ j,HN.out,hbo.trans (HBZ.mono hbo.size)⟩,?_⟩
          show M.length-((j:Int)+1).toNat<M.length-((j:Int)).toNat
          omega
      ·have hjn:decide ((j:Int)<(M.length:Int))=false:=decide_eq_false (by omega)
       have HN:=hid (HRS.out.step (by have:=HRT.out;rwa [show j=M.length by omega] at this))
       go_wp2
       refine ⟨⟨k+1,hk,int_succ k,HN.out,hbi⟩,?_⟩
       show M.length-((k:Int)+1).toNat<M.length-((k:Int)).toNat
       omega
    ·have hkn:decide ((k:Int)<(M.length:Int))=false:=decide_eq_false (by omega)
     have HCV:=hid (RowsTo.cvx h3 (by have:=HRS.out;rwa [show k=M.length by omega] at this))
     obtain ⟨wo,hwo⟩ : ∃ wo,wo=wr:=⟨_,rfl⟩
     subst hwo
     go_wp2_with fail
     go_loopw [7] (fun iv wr=>∃ k:Nat,1≤k∧k≤M.length∧iv=.int .i64 (k:Int)∧(∀ j,j<k→¬ lssP (pt M j) (pt M 0))∧Below w.heap.size w wr) (fun iv _=>M.length-(intOf iv).toNat)
     case atStart=>exact ⟨1,by decide,by omega,rfl,fun j hj=>by rw [show j=0 by omega];exact lssP_irrefl,hbr⟩
     case round =>
      clear hbr hk hkl hkn
      obtain ⟨k,hk1,hkl,rfl,hLE,hbr⟩:=hrel
      have HLE:=hid hLE
      clear hLE
      by_cases hk:k<M.length
      ·have hkn:decide ((k:Int)<(M.length:Int))=true:=decide_eq_true (by omega)
       have i1:(0:Int)≤(k:Int):=by omega
       have i2:(k:Int)<(M.length:Int):=by omega
       have hblr:B<wr.heap.size:=Nat.lt_of_lt_of_le hbl hbr.size
       obtain ⟨e0,e1⟩:=HCL.out k hk wr hbr
       obtain ⟨f0,f1⟩:=HCL.out 0 (by omega) wr hbr
       rw [show off+0*2=off by omega] at f0 f1
       have zI:(0:Int)<(M.length:Int):=by omega
       have zN:0<M.length:=by omega
       have H1:=hid (HLS.out k hk 0 zN)
       have HLX:=hid (@lessB_iff (pt M k) (pt M 0))
       generalize tx (pt M k).1=y1 at *
       generalize tx (pt M k).2=y2 at *
       generalize tx (pt M 0).1=x1 at *
       generalize tx (pt M 0).2=x2 at *
       generalize lessB (pt M k) (pt M 0)=g at *
       go_wp2_with fail
       refine wp_held_list (fun W'=>Below wr.heap.size wr W') [0,1,2,3,4,5,6] [] 7 (by kernel_rfl) (by kernel_rfl) ⟨rfl,rfl,rfl,Nat.le_refl _,fun _ _=>rfl⟩ ?_
       iterate 7
        refine wpTakeL_step rfl ?_ rfl ?_ ?_
        rotate_left
        ·intro W' hS'
         have s0:=(hS'.cell (p:=⟨B,off+k*2,none⟩) hblr).trans e0
         have s1:=(hS'.cell (p:=⟨B,off+k*2+1,none⟩) hblr).trans e1
         have s2:=(hS'.cell (p:=⟨B,off,none⟩) hblr).trans f0
         have s3:=(hS'.cell (p:=⟨B,off+1,none⟩) hblr).trans f1
         go_simp
         try with_reducible rfl
        try simp only [zA,zB,zC,Act.put,zD,zE,zF]
       have hR0:Below wr.heap.size wr wr.drew:=⟨rfl,rfl,rfl,Nat.le_refl _,fun _ _=>rfl⟩
       unfold wpKeepL
       simp only [List.drop_succ_cons,List.drop_zero]
       try simp only [zA,zB,zC,Act.put,zD,zE,zF]
       refine wpKeep_step rfl (fun K hK=>?_)
       go_simp
       refine (H1.out _ (hw.below (hbr.trans (hR0.mono hbr.size)))).mono ?_
       rintro e u1 ⟨rfl,hbu1⟩
       have HBZ:=hR0.trans (hbu1.mono hR0.size)
       refine hK _ _ ⟨trivial,wpKeep_nil ?_⟩
       clear hK K
       try simp only [zA,zB,zC,Act.put,zD,zE,zF]
       refine NormalOnly.mk ?_
       cases g with
       | true =>
        have HR6:=hid (show R=6 by rw [HR.out];exact polyC_six HCV.out hk (HLX.out.1 rfl))
        go_wp2
        go_ret
        exact ⟨by rw [HR6.out];rfl,hbr.trans (HBZ.mono hbr.size)⟩
       | false =>
        have HN:=hid (show ∀ j,j<k+1→¬ lssP (pt M j) (pt M 0) from fun j hj=>by
         rcases (show j<k∨j=k by omega) with e | e
         ·exact HLE.out j e
         ·rw [e];exact fun h=>Bool.noConfusion (HLX.out.2 h))
        go_wp2
        refine ⟨⟨k+1,by omega,hk,int_succ k,HN.out,hbr.trans (HBZ.mono hbr.size)⟩,?_⟩
        show M.length-((k:Int)+1).toNat<M.length-((k:Int)).toNat
        omega
      ·have hkn:decide ((k:Int)<(M.length:Int))=false:=decide_eq_false (by omega)
       have HR0:=hid (show R=0 by rw [HR.out];exact polyC_zero HCV.out (fun j hj=>HLE.out j (by omega)))
       go_wp2
       go_ret
       exact ⟨by rw [HR0.out];rfl,hbr⟩
end Go.Proofs.YtgohnjdgoglcfaaGreatDoor
