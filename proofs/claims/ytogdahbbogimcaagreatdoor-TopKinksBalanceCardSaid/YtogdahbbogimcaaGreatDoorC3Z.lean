import Derived.Test.YtogdahbbogimcaaGreatDoorB9Z
import Derived.Test.YtogdahbbogimcaaGreatDoorKk5Z
import Derived.Test.YtogdahbbogimcaaGreatDoorHeldQZ
import Derived.Test.YtogdahbbogimcaaGreatDoorPtEqZ
import Derived.Test.YtogdahbbogimcaaGreatDoorB1Z
import Derived.BigQuiet
set_option maxRecDepth 100000
set_option maxHeartbeats 8000000
namespace Go.Proofs.YtogdahbbogimcaaGreatDoor
open Go.RowKit Go.Shelf
open Go.Lib (decDigits itoa nDigits)
open Go.Lib (hid)
theorem mod_nx {n k:Nat} (h:k<n):(k+1) % n=nxI n k:=by
 unfold nxI
 split
 ·exact Nat.mod_eq_of_lt (by assumption)
 ·rw [show k+1=n by omega,Nat.mod_self]
theorem tmod_nx {n k:Nat} (h:k<n):Int.tmod ((k:Int)+1) (n:Int)=((nxI n k:Nat):Int):=by
 rw [Int.tmod_eq_emod_of_nonneg (by omega)]
 unfold nxI
 split
 ·rw [Int.emod_eq_of_lt (by omega) (by omega)];rfl
 ·rw [show (k:Int)+1=(n:Int) by omega,Int.emod_self];rfl
theorem PtsV.below {w w':World} {v:Value} {f:Nat→QP} {n:Nat} (h:PtsV w v f n) (hb:Below w.heap.size w w'):PtsV w' v f n:=by
 obtain ⟨b,c,e1,e2,e3,e4,e5⟩:=h
 refine ⟨b,c,e1,e2,e3,Nat.lt_of_lt_of_le e4 hb.size,fun i hi=>?_⟩
 rw [hb.cell (p:=⟨b,i*2,none⟩) e4,hb.cell (p:=⟨b,i*2+1,none⟩) e4]
 exact e5 i hi
def NotX (c:List QP) (segs i k:Nat):Prop:=
 meetQ (pt c i) (pt c (nxI c.length i)) (pt c k) (pt c (nxI c.length k))=.apart ∨
 (meetQ (pt c i) (pt c (nxI c.length i)) (pt c k) (pt c (nxI c.length k))=.touch (pt c k)∧k=i+1) ∨
 (meetQ (pt c i) (pt c (nxI c.length i)) (pt c k) (pt c (nxI c.length k))=.touch (pt c i)∧k≠i+1∧segs=c.length∧i=0∧k=c.length-1)
theorem SimpleC.notX {c:List QP} {segs:Nat} (h:SimpleC c segs) (hl:segs≤c.length) {i k:Nat} (hik:i<k) (hk:k<segs):NotX c segs i k:=by
 unfold NotX
 have hm:=h.meet i k
 have n1:=h.ne i (by omega)
 have n2:=h.ne k hk
 rw [mod_nx (by omega)] at n1 n2
 rw [mod_nx (by omega),mod_nx (by omega)] at hm
 rcases meet_sound n1 n2 with e | ⟨z,e,s1,s2⟩ | ⟨e,z,z',hz,⟨s1,s2⟩,s3,s4⟩
 ·exact .inl e
 ·rcases hm z hik hk s1 s2 with ⟨q1,q2⟩ | ⟨q0,q1,q2,q3,q4⟩
  ·exact .inr (.inl ⟨by rw [e,q2],q1⟩)
  ·exact .inr (.inr ⟨by rw [e,q4],q0,q1,q2,q3⟩)
 ·exfalso
  apply hz
  rcases hm z hik hk s1 s2 with ⟨q1,q2⟩ | ⟨q0,q1,q2,q3,q4⟩ <;> rcases hm z' hik hk s3 s4 with ⟨p1,p2⟩ | ⟨p0,p1,p2,p3,p4⟩
  ·rw [q2,p2]
  ·exact absurd q1 p0
  ·exact absurd p1 q0
  ·rw [q4,p4]
theorem pt_memL {c:List QP} {i:Nat} (h:i<c.length):pt c i∈c:=by rw [pt_eq h];exact List.getElem_mem h
def BoxX (w:World) (p:Value) (u t:ByteArray) (W:World):Prop:=∃ B,p=.pointer (some ⟨B,0,none⟩)∧w.heap.size≤B∧W.heap[B]?=some (.cells #[.string u,.string t] 30 (0,0))∧Below w.heap.size w W
theorem pl_crossed (v:Value) (c:List QP) (segs i k:Nat) (hik:i<k) (hk:k<segs) (hl:segs≤c.length) (hn:c.length≤1000) (hz:∀ p∈c,Sz2 10000 p) (hX:NotX c segs i k) (w:World) (hw:Good w) (hv:PtsV w v (pt c) c.length) :
  Calls Tryz.prog 87 #[v,.int .i64 (segs:Int),.int .i64 (i:Int),.int .i64 (k:Int)] w (RV (.bool false) w):=by
 have hI:=nxI_lt (n:=c.length) (i:=i) (by omega)
 have hJ:=nxI_lt (n:=c.length) (i:=k) (by omega)
 have t1:=tmod_nx (n:=c.length) (k:=i) (by omega)
 have t2:=tmod_nx (n:=c.length) (k:=k) (by omega)
 obtain ⟨hh,u,t,HM,hcase⟩ : ∃ (hh:Int) (u t:ByteArray),Go.RowKit.Hid (∀ w',Good w'→Calls Tryz.prog 117 #[ptV (pt c i),ptV (pt c (nxI c.length i)),ptV (pt c k),ptV (pt c (nxI c.length k))] w' (RV (.tuple #[.int .i64 hh,.agg #[.string u,.string t]]) w')) ∧
   (hh=0∨(hh=1∧k=i+1∧u=tx (pt c k).1∧t=tx (pt c k).2)∨(hh=1∧k≠i+1∧segs=c.length∧i=0∧k=c.length-1∧u=tx (pt c i).1∧t=tx (pt c i).2)):=by
  have hm:=fun w' (hg:Good w')=>pl_meet (pt c i) (pt c (nxI c.length i)) (pt c k) (pt c (nxI c.length k)) (hz _ (pt_memL (by omega))) (hz _ (pt_memL hI)) (hz _ (pt_memL (by omega))) (hz _ (pt_memL hJ)) w' hg
  rcases hX with e | ⟨e,h1⟩ | ⟨e,h1,h2,h3,h4⟩
  ·rw [e] at hm
   exact ⟨0,_,_,hid hm,.inl rfl⟩
  ·rw [e] at hm
   exact ⟨1,_,_,hid hm,.inr (.inl ⟨rfl,h1,rfl,rfl⟩)⟩
  ·rw [e] at hm
   exact ⟨1,_,_,hid hm,.inr (.inr ⟨rfl,h1,h2,h3,h4,rfl,rfl⟩)⟩
 have heq1:=eqlPts (pt c k) (pt c k)
 have hneq1:=neqPts (pt c i) (pt c i)
 rw [decide_eq_true rfl] at heq1 hneq1
 have HC:=hid hcase
 unfold RV ptV at HM
 unfold RV
 clear hz hX hcase
 obtain ⟨I,eI⟩ : ∃ I,I=nxI c.length i:=⟨_,rfl⟩
 obtain ⟨J,eJ⟩ : ∃ J,J=nxI c.length k:=⟨_,rfl⟩
 rw [←eI] at hI t1 HM
 rw [←eJ] at hJ t2 HM
 clear eI eJ
 obtain ⟨B,cp,rfl,hcl,hcm,hbl,hcell⟩:=hv
 unfold maxLen at hcm
 obtain ⟨a0,a1⟩:=hcell i (by omega)
 obtain ⟨b0,b1⟩:=hcell I hI
 obtain ⟨c0,c1⟩:=hcell k (by omega)
 obtain ⟨d0,d1⟩:=hcell J hJ
 have HCE:=hid hcell
 generalize hx1:tx (pt c i).1=x1 at *
 generalize hx2:tx (pt c i).2=x2 at *
 generalize hy1:tx (pt c k).1=y1 at *
 generalize hy2:tx (pt c k).2=y2 at *
 generalize tx (pt c I).1=z1 at *
 generalize tx (pt c I).2=z2 at *
 generalize tx (pt c J).1=q1 at *
 generalize tx (pt c J).2=q2 at *
 clear hcell hx1 hx2 hy1 hy2 HCE
 have i1:(0:Int)≤(i:Int):=by omega
 have i2:(i:Int)<(c.length:Int):=by omega
 have i3:(0:Int)≤(k:Int):=by omega
 have i4:(k:Int)<(c.length:Int):=by omega
 have i5:(0:Int)≤(I:Int):=by omega
 have i6:(I:Int)<(c.length:Int):=by omega
 have i7:(0:Int)≤(J:Int):=by omega
 have i8:(J:Int)<(c.length:Int):=by omega
 have m1:IntKind.i64.wrap ((i:Int)+1)=(i:Int)+1:=IntWalk.i64_in _ (by omega)
 have m2:IntKind.i64.wrap ((k:Int)+1)=(k:Int)+1:=IntWalk.i64_in _ (by omega)
 have m3:IntKind.i64.wrap ((c.length:Int)-1)=(c.length:Int)-1:=IntWalk.i64_in _ (by omega)
 have t4:((c.length:Int) == 0)=false:=beq_eq_false_iff_ne.2 (by omega)
 have t6:(c.length:Int)≠0:=by omega
 have t7:c≠[]:=by intro h;rw [h] at hl;simp at hl;omega
 have hguard:=guardPts
 have HG:=hid (And.intro heq1 hneq1)
 clear heq1 hneq1 hguard
 have HN:=hid (And.intro hik (And.intro hk (And.intro hl hn)))
 go_enter Tryz.func87,Tryz.ntmps87
 go_upto_region 2 with fail
 go_cut [10,11] from 13 to 94 (fun s10 s11 wx=>s10=.int .i64 hh∧BoxX w s11 u t wx)
 case first =>
  go_wp2_with fail
  refine wp_held_pl (fun W'=>Below w.heap.size w W') (.take 0 (.take 1 (.take 2 (.take 3 (.take 4 (.take 5 (.take 6 (.take 7 (.take 8 (.take 9 (.take 10 (.take 11 (.take 12 (.take 13 (.take 14 (.take 15 (.take 16 (.take 17 (.take 18 (.take 19 (.take 20 (.take 21 (.two 22 (.take 23 (.take 24 (.take 25 (.one 26 (.take 27 .fin))))) 26 (.one 22 (.take 23 (.take 24 (.take 25 (.take 27 .fin)))))))))))))))))))))))))))) 28 (by kernel_rfl) (by kernel_rfl) ⟨rfl,rfl,rfl,Nat.le_refl _,fun _ _=>rfl⟩ ?_
  have hP0:Below w.heap.size w w.drew:=⟨rfl,rfl,rfl,Nat.le_refl _,fun _ _=>rfl⟩
  generalize w.drew=pv0 at *
  iterate 22
   refine wpPl_take rfl ?_ rfl ?_ ?_
   rotate_left
   ·intro W' hS'
    have s0:=(hS'.cell (p:=⟨B,i*2,none⟩) hbl).trans a0
    have s1:=(hS'.cell (p:=⟨B,i*2+1,none⟩) hbl).trans a1
    have s2:=(hS'.cell (p:=⟨B,I*2,none⟩) hbl).trans b0
    have s3:=(hS'.cell (p:=⟨B,I*2+1,none⟩) hbl).trans b1
    have s4:=(hS'.cell (p:=⟨B,k*2,none⟩) hbl).trans c0
    have s5:=(hS'.cell (p:=⟨B,k*2+1,none⟩) hbl).trans c1
    have s6:=(hS'.cell (p:=⟨B,J*2,none⟩) hbl).trans d0
    have s7:=(hS'.cell (p:=⟨B,J*2+1,none⟩) hbl).trans d1
    go_simp
    try with_reducible rfl
   try simp only [zA,zB,zC,Act.put,zD,zE,zF]
  refine wpPl_two ?_ ?_
  ·refine wpPl_keep rfl rfl (fun K hK=>?_)
   go_simp
   refine (HM.out _ (hw.below hP0)).mono ?_
   rintro e pv1 ⟨rfl,hbpv1⟩
   have hP1:=hP0.trans (hbpv1.mono hP0.size)
   refine hK _ _ ⟨hP1,?_⟩
   clear hK K
   try simp only [zA,zB,zC,Act.put,zD,zE,zF]
   iterate 3
    refine wpPl_take rfl ?_ rfl ?_ ?_
    rotate_left
    ·intro W' hS'
     have s0:=(hS'.cell (p:=⟨B,i*2,none⟩) hbl).trans a0
     have s1:=(hS'.cell (p:=⟨B,i*2+1,none⟩) hbl).trans a1
     have s2:=(hS'.cell (p:=⟨B,I*2,none⟩) hbl).trans b0
     have s3:=(hS'.cell (p:=⟨B,I*2+1,none⟩) hbl).trans b1
     have s4:=(hS'.cell (p:=⟨B,k*2,none⟩) hbl).trans c0
     have s5:=(hS'.cell (p:=⟨B,k*2+1,none⟩) hbl).trans c1
     have s6:=(hS'.cell (p:=⟨B,J*2,none⟩) hbl).trans d0
     have s7:=(hS'.cell (p:=⟨B,J*2+1,none⟩) hbl).trans d1
     go_simp
     try with_reducible rfl
    try simp only [zA,zB,zC,Act.put,zD,zE,zF]
   refine wpPl_keep rfl rfl (fun K hK=>?_)
   go_simp
   obtain ⟨pv2,hwpv2⟩ : ∃ q,q=pv1.alloc (Obj.cells #[.string ⟨#[]⟩,.string ⟨#[]⟩] 30):=⟨_,rfl⟩
   have hz262:pv2.heap[pv1.heap.size]?=some (.cells #[.string ⟨#[]⟩,.string ⟨#[]⟩] 30 (0,0)):=by rw [hwpv2];exact World.alloc_heap_new _ _
   have hbpv2:Below pv1.heap.size pv1 pv2:=by rw [hwpv2];exact alloc_below _ _
   have hP2:=hP1.trans (hbpv2.mono hP1.size)
   rw [←hwpv2]
   clear hwpv2
   refine hK _ _ ⟨hP2,?_⟩
   clear hK K
   try simp only [zA,zB,zC,Act.put,zD,zE,zF]
   refine wpPl_take rfl ?_ rfl ?_ ?_
   rotate_left
   ·intro W' hS'
    have s0:=(hS'.cell (p:=⟨B,i*2,none⟩) hbl).trans a0
    have s1:=(hS'.cell (p:=⟨B,i*2+1,none⟩) hbl).trans a1
    have s2:=(hS'.cell (p:=⟨B,I*2,none⟩) hbl).trans b0
    have s3:=(hS'.cell (p:=⟨B,I*2+1,none⟩) hbl).trans b1
    have s4:=(hS'.cell (p:=⟨B,k*2,none⟩) hbl).trans c0
    have s5:=(hS'.cell (p:=⟨B,k*2+1,none⟩) hbl).trans c1
    have s6:=(hS'.cell (p:=⟨B,J*2,none⟩) hbl).trans d0
    have s7:=(hS'.cell (p:=⟨B,J*2+1,none⟩) hbl).trans d1
    go_simp
    try with_reducible rfl
   try simp only [zA,zB,zC,Act.put,zD,zE,zF]
   unfold wpPl
   simp only [List.drop_succ_cons,List.drop_zero]
   obtain ⟨_,_,_,_⟩:=two_cells hz262
   have hpz:=two_set1 (.string t) (two_set0 (.string u) hz262)
   have HBA:=hid (show BoxX w (.pointer (some ⟨pv1.heap.size,0,none⟩)) u t _ from ⟨_,rfl,(hP1).size,hpz,(hP2.setCell (p:=⟨_,0,none⟩) (hP1).size _).setCell (p:=⟨_,1,none⟩) (hP1).size _⟩)
   clear hpz hz262
   go_wp2
   refine NormalOnly.mk ?_
   go_wp2_with fail
   go_meet
   exact ⟨rfl,HBA.out⟩
  ·refine wpPl_keep rfl rfl (fun K hK=>?_)
   go_simp
   obtain ⟨pv3,hwpv3⟩ : ∃ q,q=pv0.alloc (Obj.cells #[.string ⟨#[]⟩,.string ⟨#[]⟩] 30):=⟨_,rfl⟩
   have hz263:pv3.heap[pv0.heap.size]?=some (.cells #[.string ⟨#[]⟩,.string ⟨#[]⟩] 30 (0,0)):=by rw [hwpv3];exact World.alloc_heap_new _ _
   have hbpv3:Below pv0.heap.size pv0 pv3:=by rw [hwpv3];exact alloc_below _ _
   have hP3:=hP0.trans (hbpv3.mono hP0.size)
   rw [←hwpv3]
   clear hwpv3
   refine hK _ _ ⟨hP3,?_⟩
   clear hK K
   try simp only [zA,zB,zC,Act.put,zD,zE,zF]
   refine wpPl_keep rfl rfl (fun K hK=>?_)
   go_simp
   refine (HM.out _ (hw.below hP3)).mono ?_
   rintro e pv4 ⟨rfl,hbpv4⟩
   have hP4:=hP3.trans (hbpv4.mono hP3.size)
   have hz263_4:=(hbpv4.block _ (lt_of_some hz263)).trans hz263
   refine hK _ _ ⟨hP4,?_⟩
   clear hK K
   try simp only [zA,zB,zC,Act.put,zD,zE,zF]
   iterate 4
    refine wpPl_take rfl ?_ rfl ?_ ?_
    rotate_left
    ·intro W' hS'
     have s0:=(hS'.cell (p:=⟨B,i*2,none⟩) hbl).trans a0
     have s1:=(hS'.cell (p:=⟨B,i*2+1,none⟩) hbl).trans a1
     have s2:=(hS'.cell (p:=⟨B,I*2,none⟩) hbl).trans b0
     have s3:=(hS'.cell (p:=⟨B,I*2+1,none⟩) hbl).trans b1
     have s4:=(hS'.cell (p:=⟨B,k*2,none⟩) hbl).trans c0
     have s5:=(hS'.cell (p:=⟨B,k*2+1,none⟩) hbl).trans c1
     have s6:=(hS'.cell (p:=⟨B,J*2,none⟩) hbl).trans d0
     have s7:=(hS'.cell (p:=⟨B,J*2+1,none⟩) hbl).trans d1
     go_simp
     try with_reducible rfl
    try simp only [zA,zB,zC,Act.put,zD,zE,zF]
   unfold wpPl
   simp only [List.drop_succ_cons,List.drop_zero]
   obtain ⟨_,_,_,_⟩:=two_cells hz263_4
   have hpz:=two_set1 (.string t) (two_set0 (.string u) hz263_4)
   have HBA:=hid (show BoxX w (.pointer (some ⟨pv0.heap.size,0,none⟩)) u t _ from ⟨_,rfl,hP0.size,hpz,(hP4.setCell (p:=⟨_,0,none⟩) hP0.size _).setCell (p:=⟨_,1,none⟩) hP0.size _⟩)
   clear hpz hz263_4
   go_wp2
   refine NormalOnly.mk ?_
   go_wp2_with fail
   go_meet
   exact ⟨rfl,HBA.out⟩
 case rest =>
 obtain ⟨rfl,D,rfl,hD,hDb,hbx⟩:=hcut
 have hblc:B<wc.heap.size:=Nat.lt_of_lt_of_le hbl hbx.size
 have a0':=(hbx.cell (p:=⟨B,i*2,none⟩) hbl).trans a0
 have a1':=(hbx.cell (p:=⟨B,i*2+1,none⟩) hbl).trans a1
 have c0':=(hbx.cell (p:=⟨B,k*2,none⟩) hbl).trans c0
 have c1':=(hbx.cell (p:=⟨B,k*2+1,none⟩) hbl).trans c1
 have hDl:=lt_of_blk hDb
 obtain ⟨g0,g1,_,_⟩:=two_cells hDb
 clear a0 a1 b0 b1 c0 c1 d0 d1 t1 t2 i5 i6 i7 i8 HM m2
 have hguard:=guardPts
 rcases HC.out with rfl | ⟨rfl,e1,rfl,rfl⟩ | ⟨rfl,e1,e2,e3,e4,rfl,rfl⟩
 ·clear HC HG
  have n1:∀ b:Bool,b=true∨b=false:=fun b=>by cases b <;> simp
  obtain ⟨p1,hp1⟩ : ∃ y,((k:Int) == (i:Int)+1)=y:=⟨_,rfl⟩
  obtain ⟨p2,hp2⟩ : ∃ y,((segs:Int) == (c.length:Int))=y:=⟨_,rfl⟩
  obtain ⟨p3,hp3⟩ : ∃ y,((i:Int) == 0)=y:=⟨_,rfl⟩
  obtain ⟨p4,hp4⟩ : ∃ y,((k:Int) == (c.length:Int)-1)=y:=⟨_,rfl⟩
  have P2:(segs == c.length)=p2:=by rw [←hp2,Bool.eq_iff_iff,beq_iff_eq,beq_iff_eq];omega
  have P3:(i == 0)=p3:=by rw [←hp3,Bool.eq_iff_iff,beq_iff_eq,beq_iff_eq];omega
  cases p1 <;> cases p2 <;> cases p3 <;> cases p4
  all_goals (go_wp2;go_ret;exact ⟨rfl,hbx⟩)
 ·have p1:((k:Int) == (i:Int)+1)=true:=by simp only [beq_iff_eq];omega
  have heq:=HG.out.1
  clear HC HG e1
  go_wp2_with fail
  go_quiet (fail)
  go_wp2
  go_ret
  exact ⟨rfl,⟨hbx.os,hbx.tape,hbx.output,hbx.size,hbx.block⟩⟩
 ·have p1:((k:Int) == (i:Int)+1)=false:=by simp only [beq_eq_false_iff_ne];omega
  have p2:((segs:Int) == (c.length:Int))=true:=by simp only [beq_iff_eq];omega
  have P2:(segs == c.length)=true:=by simp only [beq_iff_eq];omega
  have p3:((i:Int) == 0)=true:=by simp only [beq_iff_eq];omega
  have P3:(i == 0)=true:=by simp only [beq_iff_eq];omega
  have p4:((k:Int) == (c.length:Int)-1)=true:=by simp only [beq_iff_eq];omega
  have p5:((k:Int) != (c.length:Int)-1)=false:=by simp only [bne,p4];rfl
  have hneq:=HG.out.2
  clear HC HG e1 e2 e3 e4
  go_wp2_with fail
  go_quiet (fail)
  go_wp2_with fail
  go_quiet (fail)
  go_wp2
  go_ret
  exact ⟨rfl,⟨hbx.os,hbx.tape,hbx.output,hbx.size,hbx.block⟩⟩
end Go.Proofs.YtogdahbbogimcaaGreatDoor
