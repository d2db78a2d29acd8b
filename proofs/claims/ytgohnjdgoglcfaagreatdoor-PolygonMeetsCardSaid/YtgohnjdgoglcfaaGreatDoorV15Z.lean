import Derived.Test.YtgohnjdgoglcfaaGreatDoorV10Z
import Derived.Test.YtgohnjdgoglcfaaGreatDoorM1Z
import Derived.Test.YtgohnjdgoglcfaaGreatDoorBxZ
set_option maxRecDepth 100000
set_option maxHeartbeats 4000000
namespace Go.Proofs.YtgohnjdgoglcfaaGreatDoor
open Go.RowKit Go.Shelf
open Go.Lib (decDigits itoa nDigits)
open Go.Lib (hid)
theorem r9_side (a b:QP) (ha:Sz2 5000 a) (hb:Sz2 5000 b) (w:World) (hw:Good w) :
  Calls Tryz.prog 98 #[ptV a,ptV b] w (RV (.tuple #[.string (tx (sideL a b).1),.string (tx (sideL a b).2.1),.string (tx (sideL a b).2.2)]) w):=by
 have S1:=hid (fun w' (hg:Good w')=>r_sub a.2 b.2 (ha.2.mono (by decide)) (hb.2.mono (by decide)) w' hg)
 have S2:=hid (fun w' (hg:Good w')=>r_sub b.1 a.1 (hb.1.mono (by decide)) (ha.1.mono (by decide)) w' hg)
 have V1:=hid (fun w' (hg:Good w')=>r5_value (a.2-b.2) (b.1-a.1) 0 a ((ha.2.sub hb.2).mono (by decide)) ((hb.1.sub ha.1).mono (by decide)) (Nat.le_trans (show (tx 0).size≤1 by decide +kernel) (by decide)) (ha.mono (by decide)) w' hg)
 unfold RV at S1 S2 V1
 rw [tx0] at V1
 clear ha hb
 unfold ptV at *
 unfold sideL
 dsimp only
 generalize tx (valP (a.2-b.2) (b.1-a.1) 0 a)=r at *
 generalize tx (a.2-b.2)=s1 at *
 generalize tx (b.1-a.1)=s2 at *
 generalize tx a.1=a1 at *
 generalize tx a.2=a2 at *
 generalize tx b.1=b1 at *
 generalize tx b.2=b2 at *
 go_enter Tryz.func98,Tryz.ntmps98
 go_wp2_with fail
 obtain ⟨wA,hwA⟩ : ∃ wA,wA=((w.alloc (Obj.cells #[.string a1,.string a2] 31)).alloc (Obj.cells #[.string b1,.string b2] 31)):=⟨_,rfl⟩
 obtain ⟨hbA,x1,x2⟩:=boxes2 hwA
 rw [←hwA]
 clear hwA
 have l1:=lt_of_blk x1
 obtain ⟨c10,c11,_,_⟩:=two_cells x1
 have l2:=lt_of_blk x2
 obtain ⟨c20,c21,_,_⟩:=two_cells x2
 clear x1 x2
 refine wp_held_list (fun W'=>Below wA.heap.size wA W') [0,1,2,3,5,6,7,8] [4,9] 10 (by kernel_rfl) (by kernel_rfl) ⟨rfl,rfl,rfl,Nat.le_refl _,fun _ _=>rfl⟩ ?_
 iterate 8
  refine wpTakeL_step rfl ?_ rfl ?_ ?_
  rotate_left
  ·intro W' hS'
   have s0:=(hS'.cell (p:=⟨w.heap.size,0,none⟩) l1).trans c10
   have s1:=(hS'.cell (p:=⟨w.heap.size,1,none⟩) l1).trans c11
   have s2:=(hS'.cell (p:=⟨w.heap.size+1,0,none⟩) l2).trans c20
   have s3:=(hS'.cell (p:=⟨w.heap.size+1,1,none⟩) l2).trans c21
   go_simp
   try with_reducible rfl
  try simp only [zA,zB,zC,Act.put,zD,zE,zF]
 have hH0_0:Below wA.heap.size wA wA.drew:=⟨rfl,rfl,rfl,Nat.le_refl _,fun _ _=>rfl⟩
 refine wpKeepL_step rfl rfl (fun K hK=>?_)
 go_simp
 refine (S1.out _ (hw.below (hbA.trans (hH0_0.mono hbA.size)))).mono ?_
 rintro e v1 ⟨rfl,hbv1⟩
 have hH0_1:=hH0_0.trans (hbv1.mono hH0_0.size)
 refine hK _ _ ⟨hH0_1,?_⟩
 clear hK K
 try simp only [zA,zB,zC,Act.put,zD,zE,zF]
 refine wpKeepL_step rfl rfl (fun K hK=>?_)
 go_simp
 refine (S2.out _ (hw.below (hbA.trans (hH0_1.mono hbA.size)))).mono ?_
 rintro e v2 ⟨rfl,hbv2⟩
 have hH0_2:=hH0_1.trans (hbv2.mono hH0_1.size)
 refine hK _ _ ⟨hH0_2,?_⟩
 clear hK K
 try simp only [zA,zB,zC,Act.put,zD,zE,zF]
 unfold wpKeepL
 simp only [List.drop_succ_cons,List.drop_zero]
 try simp only [zA,zB,zC,Act.put,zD,zE,zF]
 refine wpKeep_step rfl (fun K hK=>?_)
 go_simp
 refine hK _ _ ⟨trivial,?_⟩
 clear hK K
 try simp only [zA,zB,zC,Act.put,zD,zE,zF]
 refine wpKeep_step rfl (fun K hK=>?_)
 go_simp
 refine hK _ _ ⟨trivial,wpKeep_nil ?_⟩
 clear hK K
 try simp only [zA,zB,zC,Act.put,zD,zE,zF]
 refine NormalOnly.mk ?_
 have hbv2:=hbA.trans (hH0_2.mono hbA.size)
 have l1_v2:=Nat.lt_of_lt_of_le l1 hH0_2.size
 have c10_v2:=(hH0_2.cell (p:=⟨w.heap.size,0,none⟩) l1).trans c10
 have c11_v2:=(hH0_2.cell (p:=⟨w.heap.size,1,none⟩) l1).trans c11
 have l2_v2:=Nat.lt_of_lt_of_le l2 hH0_2.size
 have c20_v2:=(hH0_2.cell (p:=⟨w.heap.size+1,0,none⟩) l2).trans c20
 have c21_v2:=(hH0_2.cell (p:=⟨w.heap.size+1,1,none⟩) l2).trans c21
 clear c10 c11 c20 c21 l1 l2
 go_wp2_with fail
 refine (V1.out _ (hw.below hbv2)).mono ?_
 rintro e v3 ⟨rfl,hv3⟩
 have hbv3:=hbv2.trans (hv3.mono hbv2.size)
 have l1_v3:=Nat.lt_of_lt_of_le l1_v2 hv3.size
 have c10_v3:=(hv3.cell (p:=⟨w.heap.size,0,none⟩) l1_v2).trans c10_v2
 have c11_v3:=(hv3.cell (p:=⟨w.heap.size,1,none⟩) l1_v2).trans c11_v2
 have l2_v3:=Nat.lt_of_lt_of_le l2_v2 hv3.size
 have c20_v3:=(hv3.cell (p:=⟨w.heap.size+1,0,none⟩) l2_v2).trans c20_v2
 have c21_v3:=(hv3.cell (p:=⟨w.heap.size+1,1,none⟩) l2_v2).trans c21_v2
 clear c10_v2 c11_v2 c20_v2 c21_v2 l1_v2 l2_v2
 go_wp2
 refine bodyPost_ret (v:=.tuple #[.string s1,.string s2,.string r]) (by simp [results,Tryz.results98,go_sem]) rfl ?_
 exact ⟨rfl,hbv3⟩
def RMtPost (P Q:List QP) (w:World) (e:Ending) (w':World):Prop:=∃ R r,e=.returned r∧Common P Q R∧Pts w' r R∧Below w.heap.size w w'
theorem RMeet.clipped {P Q O:List QP} {k:Nat} {w w':World} {e:Ending} (h:RMeet P Q k O) (h0:O.length≠0) (hQ:Cvx Q) (hk:k<Q.length) (hc:RClPost (sdF Q k) O w e w') :
  ∃ O' r,e=.returned r∧RMeet P Q (k+1) O'∧Pts w' r O'∧Below w.heap.size w w':=by
 obtain ⟨r,he,hr,hb⟩:=hc
 rcases hr with ⟨h3,rfl⟩ | ⟨h3,t,ht,hp⟩
 ·exact ⟨[],_,he,h.none h0 hQ hk h3,⟨Option.none,0,rfl,Nat.le_refl _,by decide,fun h=>absurd h (Nat.lt_irrefl _)⟩,hb⟩
 ·exact ⟨_,r,he,h.some h0 hQ hk h3 ht,hp,hb⟩
theorem Bd.sz {M C:Nat} {q:Rat} (h:Bd M C q) (h1:M<10 ^ 48) (h2:C<10 ^ 48):Sz 100 q:=by
 obtain ⟨c,a,b,d⟩:=h
 have hp:=d.parts a
 have k1:=rlen_le q
 have k2:=(itoa_len_le q.num).2
 have k3:=nDigits_le_of_lt (show q.num.natAbs<10 ^ 48 from Nat.lt_of_le_of_lt hp.1 h1) (by decide)
 have k4:=nDigits_le_of_lt (show q.den<10 ^ 48 from Nat.lt_of_le_of_lt (Nat.le_trans hp.2 b) h2) (by decide)
 show (tx q).size≤_
 rw [tx_len]
 omega
theorem LnB.sz {l:Rat × Rat × Rat} (h:LnB l):Sz 100 l.1∧Sz 100 l.2.1∧Sz 100 l.2.2:=⟨h.a.sz (by decide) (by decide),h.b.sz (by decide) (by decide),h.c.sz (by decide) (by decide)⟩
theorem r9_inter (v u:Value) (P Q:List QP) (hP:Drf P) (hQ:Drf Q) (w:World) (hw:Good w) (hv:Pts w v P) (hu:Pts w u Q) :
  Calls Tryz.prog 41 #[v,u] w (RMtPost P Q w):=by
 have hQ3:=hQ.poly.1.1
 have hQ8:=hQ.le8
 have HDR:=hid (And.intro hP hQ)
 have HV:=hid hv
 have HSI:=hid (fun k (hk:k<Q.length) w' (hg:Good w')=>r9_side (pt Q k) (pt Q (nxI Q.length k)) ((okP_sz (hQ.ok _ (pt_mem hk))).mono (by decide)) ((okP_sz (hQ.ok _ (pt_mem (nxI_lt (by omega))))).mono (by decide)) w' hg)
 have HLN:=fun k (hk:k<Q.length)=>(LnB.of (hQ.corner hk) (hQ.corner (nxI_lt (n:=Q.length) (i:=k) (by omega)))).sz
 have HCL0:=hid (fun k (hk:k<Q.length) O (hR:RMeet P Q k O) (h0:O.length≠0) ov w' (hg:Good w') (hp:Pts w' ov O) =>
  (r9_clip ov O (sideL (pt Q k) (pt Q (nxI Q.length k))).1 (sideL (pt Q k) (pt Q (nxI Q.length k))).2.1 (sideL (pt Q k) (pt Q (nxI Q.length k))).2.2 (by have:=hR.len hP hQ (by omega);omega) (by have:=hR.len hP hQ (by omega);omega) (fun p hp=>okP_sz (hR.ok hP hQ p hp)) (HLN k hk).1 (HLN k hk).2.1 (HLN k hk).2.2 w' hg hp (sdF Q k) (sideL_val _ _)).mono fun _ _ h=>hR.clipped h0 hQ.poly.1 hk h)
 unfold RV ptV at HSI
 obtain ⟨p1,c1,rfl,_,_⟩:=hv.slice
 obtain ⟨p2,c2,rfl,hcl,hcm⟩:=hu.slice
 unfold maxLen at hcm
 obtain ⟨B,off,rfl,hbl,hcell⟩:=Pts.cells hu (by omega)
 have HCL:=hid (fun i (hi:i<Q.length) wx (h:Below w.heap.size w wx)=>And.intro ((h.cell (p:=⟨B,off+i*2,none⟩) hbl).trans (hcell i hi).1) ((h.cell (p:=⟨B,off+i*2+1,none⟩) hbl).trans (hcell i hi).2))
 clear hv hu hcell hP hQ HLN
 go_enter Tryz.func41,Tryz.ntmps41
 go_wp2_with fail
 go_loopw [0,5,6,7,8] (fun pv iv _ _ _ wr=>∃ (k:Nat) (O:List QP),k≤Q.length∧iv=.int .i64 (k:Int)∧RMeet P Q k O∧Pts wr pv O∧Below w.heap.size w wr) (fun _ iv _ _ _ _=>Q.length-(intOf iv).toNat)
 case atStart=>exact ⟨0,P,Nat.zero_le _,rfl,RMeet.zero Q HDR.out.1.poly,HV.out,Below.refl _ _⟩
 case round =>
  obtain ⟨k,O,hkl,rfl,hR,hp,hbr⟩:=hrel
  obtain ⟨po,co,rfl,_,_⟩:=hp.slice
  have HR:=hid hR
  have HPO:=hid hp
  clear hR hp
  by_cases hk:k<Q.length
  ·have hkn:decide ((k:Int)<(Q.length:Int))=true:=decide_eq_true (by omega)
   by_cases h0:O.length=0
   ·have j1:decide ((O.length:Int)>0)=false:=decide_eq_false (by omega)
    have j2:decide (0<(O.length:Int))=false:=j1
    have j3:decide (0<O.length)=false:=decide_eq_false (by omega)
    have H0:=hid h0
    clear h0
    go_wp2
    go_ret
    exact ⟨O,_,rfl,HR.out.all (.inl H0.out),HPO.out,hbr⟩
   ·have j1:decide ((O.length:Int)>0)=true:=decide_eq_true (by omega)
    have j2:decide (0<(O.length:Int))=true:=j1
    have j3:0<O.length:=by omega
    have hblr:B<wr.heap.size:=Nat.lt_of_lt_of_le hbl hbr.size
    have hnl:nxI Q.length k<Q.length:=nxI_lt (by omega)
    have t1:=tmod_nx hk
    have t2:(0:Int)≤((nxI Q.length k:Nat):Int):=by omega
    have t3:((nxI Q.length k:Nat):Int)<(Q.length:Int):=by omega
    have t4:IntKind.i64.wrap ((k:Int)+1)=(k:Int)+1:=IntWalk.i64_in _ (by omega)
    have t5:IntKind.i64.wrap ((nxI Q.length k:Nat):Int)=((nxI Q.length k:Nat):Int):=IntWalk.i64_in _ (by omega)
    have t6:(Q.length:Int)≠0:=by omega
    have t8:((Q.length:Int) == 0)=false:=beq_eq_false_iff_ne.2 (by omega)
    have t7:¬ Q=[]:=fun e=>by rw [e] at hk;exact absurd hk (Nat.not_lt_zero _)
    have i1:(0:Int)≤(k:Int):=by omega
    have i2:(k:Int)<(Q.length:Int):=by omega
    obtain ⟨c0,c1'⟩:=HCL.out k hk wr hbr
    obtain ⟨d0,d1⟩:=HCL.out (nxI Q.length k) hnl wr hbr
    have H1:=hid (HSI.out k hk)
    have H2:=hid (HCL0.out k hk O HR.out h0)
    clear h0
    generalize tx (sideL (pt Q k) (pt Q (nxI Q.length k))).1=s1 at *
    generalize tx (sideL (pt Q k) (pt Q (nxI Q.length k))).2.1=s2 at *
    generalize tx (sideL (pt Q k) (pt Q (nxI Q.length k))).2.2=s3 at *
    generalize tx (pt Q k).1=p1 at *
    generalize tx (pt Q k).2=p2 at *
    generalize tx (pt Q (nxI Q.length k)).1=q1 at *
    generalize tx (pt Q (nxI Q.length k)).2=q2 at *
    go_wp2_with fail
    refine wp_held_ph (fun W'=>Below wr.heap.size wr W') [(true,0),(true,1),(true,2),(true,3),(true,4),(true,5),(true,6),(true,7),(true,8),(true,9),(true,10),(true,11),(false,12),(true,13),(true,14),(true,15),(true,16),(true,17),(true,18)] 19 (by kernel_rfl) (by kernel_rfl) ⟨rfl,rfl,rfl,Nat.le_refl _,fun _ _=>rfl⟩ ?_
    have hR0:Below wr.heap.size wr wr.drew:=⟨rfl,rfl,rfl,Nat.le_refl _,fun _ _=>rfl⟩
    iterate 12
     refine wpPh_take rfl ?_ rfl ?_ ?_
     rotate_left
     ·intro W' hS'
      have s0:=(hS'.cell (p:=⟨B,off+k*2,none⟩) hblr).trans c0
      have s1:=(hS'.cell (p:=⟨B,off+k*2+1,none⟩) hblr).trans c1'
      have s2:=(hS'.cell (p:=⟨B,off+nxI Q.length k*2,none⟩) hblr).trans d0
      have s3:=(hS'.cell (p:=⟨B,off+nxI Q.length k*2+1,none⟩) hblr).trans d1
      go_simp
      try with_reducible rfl
     try simp only [zA,zB,zC,Act.put,zD,zE,zF]
    refine wpPh_keep rfl rfl (fun K hK=>?_)
    go_simp
    refine (H1.out _ (hw.below (hbr.trans (hR0.mono hbr.size)))).mono ?_
    rintro e u1 ⟨rfl,hbu1⟩
    have hR1:=hR0.trans (hbu1.mono hR0.size)
    refine hK _ _ ⟨hR1,?_⟩
    clear hK K
    try simp only [zA,zB,zC,Act.put,zD,zE,zF]
    iterate 6
     refine wpPh_take rfl ?_ rfl ?_ ?_
     rotate_left
     ·intro W' hS'
      have s0:=(hS'.cell (p:=⟨B,off+k*2,none⟩) hblr).trans c0
      have s1:=(hS'.cell (p:=⟨B,off+k*2+1,none⟩) hblr).trans c1'
      have s2:=(hS'.cell (p:=⟨B,off+nxI Q.length k*2,none⟩) hblr).trans d0
      have s3:=(hS'.cell (p:=⟨B,off+nxI Q.length k*2+1,none⟩) hblr).trans d1
      go_simp
      try with_reducible rfl
     try simp only [zA,zB,zC,Act.put,zD,zE,zF]
    unfold wpPh
    simp only [List.drop_succ_cons,List.drop_zero]
    go_wp2
    refine NormalOnly.mk ?_
    have hbu:=hbr.trans (hR1.mono hbr.size)
    go_wp2_with fail
    refine (H2.out _ u1 (hw.below hbu) (HPO.out.below hR1)).mono ?_
    rintro e u2 ⟨O',r,rfl,hR2,hp2,h2⟩
    have hbv:=hbu.trans (h2.mono hbu.size)
    obtain ⟨pr,cr,rfl,_,_⟩:=hp2.slice
    have HR2:=hid hR2
    have HP2:=hid hp2
    clear hR2 hp2 c0 c1' d0 d1
    go_wp2
    refine ⟨⟨k+1,O',hk,int_succ k,HR2.out,HP2.out,hbv⟩,?_⟩
    show Q.length-((k:Int)+1).toNat<Q.length-((k:Int)).toNat
    omega
  ·have hkn:decide ((k:Int)<(Q.length:Int))=false:=decide_eq_false (by omega)
   have ek:k=Q.length:=by omega
   have HEK:=hid ek
   clear ek
   go_wp2
   go_ret
   exact ⟨O,_,rfl,HR.out.all (.inr HEK.out),HPO.out,hbr⟩
end Go.Proofs.YtgohnjdgoglcfaaGreatDoor
