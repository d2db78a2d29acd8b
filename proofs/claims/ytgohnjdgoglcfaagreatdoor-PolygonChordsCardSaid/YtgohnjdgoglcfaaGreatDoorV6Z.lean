import Derived.Test.YtgohnjdgoglcfaaGreatDoorV4Z
import Derived.Test.YtgohnjdgoglcfaaGreatDoorU8Z
import Derived.Test.YtgohnjdgoglcfaaGreatDoorV1Z
import Derived.Test.YtgohnjdgoglcfaaGreatDoorV3Z
namespace Go.Proofs.YtgohnjdgoglcfaaGreatDoor
open Go.RowKit Go.Shelf
open Go.Lib (decDigits itoa nDigits)
theorem leastTo_bound (P:List QP) (x:QP):∀ k,-1≤leastTo P x sgnR k∧leastTo P x sgnR k≤1
 | 0=>⟨(by decide:(-1:Int)≤1),(by decide:(1:Int)≤1)⟩
 | k+1=>by
  have h1:=leastTo_bound P x k
  have h2:=sgnR_bound (sdU P x k)
  unfold leastTo
  omega
set_option maxRecDepth 100000 in
set_option maxHeartbeats 8000000 in
theorem r9_where (v:Value) (P:List QP) (x:QP) (h3:3≤P.length) (hn:P.length≤1000) (hz:∀ p∈P,Sz2 10000 p) (hx:Sz2 10000 x) (w:World) (hw:Good w) (hv:Pts w v P) :
  Calls Tryz.prog 33 #[v,ptV x] w (RV (.int .i64 (whereP P x)) w):=by
 have HT:=Lib.hid (fun k (hk:k<P.length) w' (hg:Good w')=>r5_turn (pt P k) (pt P (nxI P.length k)) x (hz _ (pt_mem hk)) (hz _ (pt_mem (nxI_lt (by omega)))) hx w' hg)
 unfold RV ptV at HT
 unfold whereP ptV
 obtain ⟨p,c,rfl,hcl,hcm⟩:=hv.slice
 unfold maxLen at hcm
 obtain ⟨B,off,rfl,hbl,hcell⟩:=Pts.cells hv (by omega)
 have HCL:=Lib.hid (fun i (hi:i<P.length) wx (h:Below w.heap.size w wx)=>And.intro ((h.cell (p:=⟨B,off+i*2,none⟩) hbl).trans (hcell i hi).1) ((h.cell (p:=⟨B,off+i*2+1,none⟩) hbl).trans (hcell i hi).2))
 have HLB:=Lib.hid (leastTo_bound P x)
 have HLS:=Lib.hid (fun k=>show leastTo P x sgnR (k+1)=min (leastTo P x sgnR k) (sgnR (crs (pt P k) (pt P (nxI P.length k)) x)) from rfl)
 have HL0:=Lib.hid (show leastTo P x sgnR 0=1 from rfl)
 clear hv hcell hz hx
 generalize tx x.1=x1 at *
 generalize tx x.2=x2 at *
 obtain ⟨wA,hwA⟩ : ∃ wA,wA=w.alloc (Obj.cells #[.string x1,.string x2] 31):=⟨_,rfl⟩
 have HWA:=Lib.hid hwA
 obtain ⟨hbA,lA,gA0,gA1⟩:=box_new hwA
 clear hwA
 have HG0:=Lib.hid (And.intro gA0 gA1)
 clear gA0 gA1
 go_enter Tryz.func33,Tryz.ntmps33
 go_upto_region 1 with fail
 rw [←HWA.out]
 go_wp2_with fail
 go_loopw [5,6] (fun mv iv wr=>∃ k:Nat,k≤P.length∧iv=.int .i64 (k:Int)∧mv=.int .i64 (leastTo P x sgnR k)∧Below wA.heap.size wA wr) (fun _ iv _=>P.length-(intOf iv).toNat)
 case atStart=>exact ⟨0,Nat.zero_le _,rfl,by rw [HL0.out],Below.refl _ _⟩
 case round =>
  obtain ⟨k,hkl,rfl,rfl,hbrA⟩:=hrel
  have hbr:=hbA.trans (hbrA.mono hbA.size)
  by_cases hk:k<P.length
  ·have lAr:=Nat.lt_of_lt_of_le lA hbrA.size
   have g0:=(hbrA.cell (p:=⟨w.heap.size,0,none⟩) lA).trans HG0.out.1
   have g1:=(hbrA.cell (p:=⟨w.heap.size,1,none⟩) lA).trans HG0.out.2
   have hblr:B<wr.heap.size:=Nat.lt_of_lt_of_le hbl hbr.size
   have hkn:decide ((k:Int)<(P.length:Int))=true:=decide_eq_true (by omega)
   have hnl:nxI P.length k<P.length:=nxI_lt (by omega)
   have t1:=tmod_nx hk
   have t2:(0:Int)≤((nxI P.length k:Nat):Int):=by omega
   have t3:((nxI P.length k:Nat):Int)<(P.length:Int):=by omega
   have t4:IntKind.i64.wrap ((k:Int)+1)=(k:Int)+1:=IntWalk.i64_in _ (by omega)
   have t5:IntKind.i64.wrap ((nxI P.length k:Nat):Int)=((nxI P.length k:Nat):Int):=IntWalk.i64_in _ (by omega)
   have t6:(P.length:Int)≠0:=by omega
   have t8:((P.length:Int) == 0)=false:=beq_eq_false_iff_ne.2 (by omega)
   have t7:¬ P=[]:=fun e=>by rw [e] at hk;exact absurd hk (Nat.not_lt_zero _)
   have i1:(0:Int)≤(k:Int):=by omega
   have i2:(k:Int)<(P.length:Int):=by omega
   obtain ⟨c0,c1⟩:=HCL.out k hk wr hbr
   obtain ⟨d0,d1⟩:=HCL.out (nxI P.length k) hnl wr hbr
   have H1:=Lib.hid (HT.out k hk)
   have HS:=Lib.hid (HLS.out k)
   have m1:=HLB.out k
   have m2:=sgnR_bound (crs (pt P k) (pt P (nxI P.length k)) x)
   generalize sgnR (crs (pt P k) (pt P (nxI P.length k)) x)=s at *
   generalize leastTo P x sgnR k=m at *
   generalize tx (pt P k).1=p1 at *
   generalize tx (pt P k).2=p2 at *
   generalize tx (pt P (nxI P.length k)).1=q1 at *
   generalize tx (pt P (nxI P.length k)).2=q2 at *
   go_wp2_with fail
   refine wp_held_list (fun W'=>Below wr.heap.size wr W') [0,1,2,3,4,5,6,7,8,9,10,11,12,13] [14] 15 (by kernel_rfl) (by kernel_rfl) ⟨rfl,rfl,rfl,Nat.le_refl _,fun _ _=>rfl⟩ ?_
   iterate 14
    refine wpTakeL_step rfl ?_ rfl ?_ ?_
    rotate_left
    ·intro W' hS'
     have s0:=(hS'.cell (p:=⟨w.heap.size,0,none⟩) lAr).trans g0
     have s1:=(hS'.cell (p:=⟨w.heap.size,1,none⟩) lAr).trans g1
     have s2:=(hS'.cell (p:=⟨B,off+k*2,none⟩) hblr).trans c0
     have s3:=(hS'.cell (p:=⟨B,off+k*2+1,none⟩) hblr).trans c1
     have s4:=(hS'.cell (p:=⟨B,off+nxI P.length k*2,none⟩) hblr).trans d0
     have s5:=(hS'.cell (p:=⟨B,off+nxI P.length k*2+1,none⟩) hblr).trans d1
     go_simp
     try with_reducible rfl
    try simp only [zA,zB,zC,Act.put,zD,zE,zF]
   have hR0:Below wr.heap.size wr wr.drew:=⟨rfl,rfl,rfl,Nat.le_refl _,fun _ _=>rfl⟩
   refine wpKeepL_step rfl rfl (fun K hK=>?_)
   go_simp
   refine (H1.out _ (hw.below (hbr.trans (hR0.mono hbr.size)))).mono ?_
   rintro e u1 ⟨rfl,hbu1⟩
   have hR1:=hR0.trans (hbu1.mono hR0.size)
   refine hK _ _ ⟨hR1,?_⟩
   clear hK K
   try simp only [zA,zB,zC,Act.put,zD,zE,zF]
   unfold wpKeepL
   simp only [List.drop_succ_cons,List.drop_zero]
   try simp only [zA,zB,zC,Act.put,zD,zE,zF]
   refine wpKeep_step rfl (fun K hK=>?_)
   go_simp
   refine hK _ _ ⟨trivial,?_⟩
   clear hK K
   try simp only [zA,zB,zC,Act.put,zD,zE,zF]
   refine wpKeep_step rfl (fun K hK=>?_)
   go_simp
   refine hK _ _ ⟨trivial,wpKeep_nil ?_⟩
   clear hK K
   try simp only [zA,zB,zC,Act.put,zD,zE,zF]
   refine NormalOnly.mk ?_
   have hbz:=hbrA.trans (hR1.mono hbrA.size)
   go_wp2
   refine ⟨⟨k+1,hk,int_succ k,by rw [HS.out],hbz⟩,?_⟩
   show P.length-((k:Int)+1).toNat<P.length-((k:Int)).toNat
   omega
  ·have hkn:decide ((k:Int)<(P.length:Int))=false:=decide_eq_false (by omega)
   have e:k=P.length:=by omega
   subst e
   go_wp2
   go_ret
   exact ⟨rfl,hbr⟩
def ChNE (P:List QP) (a b:QP) (n:Nat):Prop:=∀ i,i<n→¬ (sdU P a i=sdU P b i∧sdU P a i<0)
theorem ChNE.succ {P:List QP} {a b:QP} {k:Nat} (h:ChNE P a b k) (h1:¬ (sdU P a k=sdU P b k∧sdU P a k<0)):ChNE P a b (k+1):=fun i hi=>by
 rcases Nat.lt_or_ge i k with h2 | h2
 ·exact h i h2
 ·obtain rfl:i=k:=by omega
  exact h1
def RChord (P:List QP) (a b:QP) (v:Value):Prop:=
 (ChIn P a b P.length∧loP P a b P.length<hiP P a b P.length∧v=.tuple #[.string (tx (loP P a b P.length)),.string (tx (hiP P a b P.length)),.bool true]) ∨
 (¬ (ChIn P a b P.length∧loP P a b P.length<hiP P a b P.length)∧v=.tuple #[.string ⟨#[]⟩,.string ⟨#[]⟩,.bool false])
theorem rch_early {P:List QP} {a b:QP} {k:Nat} (hk:k<P.length) (h1:sdU P a k=sdU P b k) (h2:sdU P a k<0):RChord P a b (.tuple #[.string ⟨#[]⟩,.string ⟨#[]⟩,.bool false]):=
 .inr ⟨fun h=>h.1 k hk ⟨h2,by rw [←h1];exact h2⟩,rfl⟩
theorem rch_in {P:List QP} {a b:QP} (h:ChNE P a b P.length) (hlt:loR P a b P.length<hiR P a b P.length):ChIn P a b P.length∧loP P a b P.length=loR P a b P.length∧hiP P a b P.length=hiR P a b P.length:=by
 have hin:ChIn P a b P.length:=fun i hi h2=>by
  have hne:sdU P a i≠sdU P b i:=fun e=>h i hi ⟨e,h2.1⟩
  have:=chord_none P a b hi h2.1 h2.2 hne
  grind
 exact ⟨hin,chord_same P a b _ hin⟩
theorem rch_yes {P:List QP} {a b:QP} (h:ChNE P a b P.length) (hlt:loR P a b P.length<hiR P a b P.length):RChord P a b (.tuple #[.string (tx (loR P a b P.length)),.string (tx (hiR P a b P.length)),.bool true]):=by
 obtain ⟨h1,h2,h3⟩:=rch_in h hlt
 refine .inl ⟨h1,by rw [h2,h3];exact hlt,by rw [h2,h3]⟩
theorem rch_no {P:List QP} {a b:QP} (hlt:¬ loR P a b P.length<hiR P a b P.length):RChord P a b (.tuple #[.string ⟨#[]⟩,.string ⟨#[]⟩,.bool false]):=
 .inr ⟨fun h=>by
  obtain ⟨e1,e2⟩:=chord_same P a b _ h.1
  rw [e1,e2] at h
  exact hlt h.2,rfl⟩
theorem loR_sz {P:List QP} {a b:QP} {n:Nat} (h:∀ k,k<P.length→Sz n (sdK P a b k)) (h0:1≤n):∀ k,k≤P.length→Sz n (loR P a b k)
 | 0,_=>Nat.le_trans (show (tx 0).size≤1 by decide +kernel) h0
 | k+1,hk=>by
  unfold loR
  split
  ·exact h k hk
  ·exact loR_sz h h0 k (by omega)
theorem hiR_sz {P:List QP} {a b:QP} {n:Nat} (h:∀ k,k<P.length→Sz n (sdK P a b k)) (h0:1≤n):∀ k,k≤P.length→Sz n (hiR P a b k)
 | 0,_=>Nat.le_trans (show (tx 1).size≤1 by decide +kernel) h0
 | k+1,hk=>by
  unfold hiR
  split
  ·exact h k hk
  ·exact hiR_sz h h0 k (by omega)
theorem tx_beq (u v:Rat):((tx u).toList == (tx v).toList)=decide (u=v):=by
 rw [Bool.eq_iff_iff,beq_iff_eq,decide_eq_true_iff]
 refine ⟨fun h=>?_,fun h=>by rw [h]⟩
 have e:rtext u=rtext v:=by simpa using h
 exact rtext_inj e
def RChPost (P:List QP) (a b:QP) (w:World) (e:Ending) (w':World):Prop:=∃ r,e=.returned r∧RChord P a b r∧Below w.heap.size w w'
set_option maxRecDepth 100000 in
set_option maxHeartbeats 8000000 in
theorem r9_chord (v:Value) (P:List QP) (a b:QP) (h3:3≤P.length) (hn:P.length≤1000) (hz:∀ p∈P,Sz2 402 p) (ha:Sz2 402 a) (hb:Sz2 402 b) (w:World) (hw:Good w) (hv:Pts w v P) :
  Calls Tryz.prog 22 #[v,ptV a,ptV b] w (RChPost P a b w):=by
 have hsU:∀ k,k<P.length→Sz 20000 (sdU P a k):=fun k hk=>(sz_crs (hz _ (pt_mem hk)) (hz _ (pt_mem (nxI_lt (by omega)))) ha).mono (by decide)
 have hsV:∀ k,k<P.length→Sz 20000 (sdU P b k):=fun k hk=>(sz_crs (hz _ (pt_mem hk)) (hz _ (pt_mem (nxI_lt (by omega)))) hb).mono (by decide)
 have hsD:∀ k,k<P.length→Sz 100000 (sdU P a k-sdU P b k):=fun k hk=>((hsU k hk).sub (hsV k hk)).mono (by decide)
 have hsK:∀ k,k<P.length→Sz 200000 (sdK P a b k):=fun k hk=>((hsU k hk).div (hsD k hk)).mono (by decide)
 have hsL:∀ k,k≤P.length→Sz 200000 (loR P a b k):=loR_sz hsK (by decide)
 have hsH:∀ k,k≤P.length→Sz 200000 (hiR P a b k):=hiR_sz hsK (by decide)
 have HA:=Lib.hid (fun k (hk:k<P.length) w' (hg:Good w')=>r5_area (pt P k) (pt P (nxI P.length k)) a ((hz _ (pt_mem hk)).mono (by decide)) ((hz _ (pt_mem (nxI_lt (by omega)))).mono (by decide)) (ha.mono (by decide)) w' hg)
 have HB:=Lib.hid (fun k (hk:k<P.length) w' (hg:Good w')=>r5_area (pt P k) (pt P (nxI P.length k)) b ((hz _ (pt_mem hk)).mono (by decide)) ((hz _ (pt_mem (nxI_lt (by omega)))).mono (by decide)) (hb.mono (by decide)) w' hg)
 have HSG:=Lib.hid (fun k w'=>r_sign (sdU P a k) w')
 have HCU:=Lib.hid (fun k (hk:k<P.length) w' (hg:Good w')=>r_cmp (sdU P a k) (sdU P b k) ((hsU k hk).mono (by decide)) ((hsV k hk).mono (by decide)) w' hg)
 have HSU:=Lib.hid (fun k (hk:k<P.length) w' (hg:Good w')=>r_sub (sdU P a k) (sdU P b k) ((hsU k hk).mono (by decide)) ((hsV k hk).mono (by decide)) w' hg)
 have HDV:=Lib.hid (fun k (hk:k<P.length) (h0:sdU P a k-sdU P b k≠0) w' (hg:Good w')=>r_div (sdU P a k) (sdU P a k-sdU P b k) h0 ((hsU k hk).mono (by decide)) ((hsD k hk).mono (by decide)) w' hg)
 have HCL:=Lib.hid (fun k (hk:k<P.length) w' (hg:Good w')=>r_cmp (sdK P a b k) (loR P a b k) ((hsK k hk).mono (by decide)) ((hsL k (by omega)).mono (by decide)) w' hg)
 have HCH:=Lib.hid (fun k (hk:k<P.length) w' (hg:Good w')=>r_cmp (sdK P a b k) (hiR P a b k) ((hsK k hk).mono (by decide)) ((hsH k (by omega)).mono (by decide)) w' hg)
 have HCE:=Lib.hid (fun w' (hg:Good w')=>r_cmp (loR P a b P.length) (hiR P a b P.length) ((hsL _ (Nat.le_refl _)).mono (by decide)) ((hsH _ (Nat.le_refl _)).mono (by decide)) w' hg)
 have HEQ:=Lib.hid (fun k=>tx_beq (sdU P a k) (sdU P b k))
 have HUD:=Lib.hid (fun k=>show crs (pt P k) (pt P (nxI P.length k)) a=sdU P a k from rfl)
 have HVD:=Lib.hid (fun k=>show crs (pt P k) (pt P (nxI P.length k)) b=sdU P b k from rfl)
 have HKD:=Lib.hid (fun k=>show sdU P a k*(sdU P a k-sdU P b k)⁻¹=sdK P a b k from rfl)
 unfold RV ptV at HA HB
 unfold RV at HSG HCU HSU HDV HCL HCH HCE
 unfold ptV
 obtain ⟨p,c,rfl,hcl,hcm⟩:=hv.slice
 unfold maxLen at hcm
 obtain ⟨B,off,rfl,hbl,hcell⟩:=Pts.cells hv (by omega)
 have HCC:=Lib.hid (fun i (hi:i<P.length) wx (h:Below w.heap.size w wx)=>And.intro ((h.cell (p:=⟨B,off+i*2,none⟩) hbl).trans (hcell i hi).1) ((h.cell (p:=⟨B,off+i*2+1,none⟩) hbl).trans (hcell i hi).2))
 have HT0:=Lib.hid tx0
 have HT1:=Lib.hid tx1
 have HL0:=Lib.hid (show loR P a b 0=0 from rfl)
 have HH0:=Lib.hid (show hiR P a b 0=1 from rfl)
 clear hv hcell hz hsU hsV hsD hsK hsL hsH ha hb
 generalize tx a.1=a1 at *
 generalize tx a.2=a2 at *
 generalize tx b.1=b1 at *
 generalize tx b.2=b2 at *
 obtain ⟨wA,hwA⟩ : ∃ wA,wA=(w.alloc (Obj.cells #[.string a1,.string a2] 31)).alloc (Obj.cells #[.string b1,.string b2] 31):=⟨_,rfl⟩
 have HWA:=Lib.hid hwA
 obtain ⟨hbA,x1,x2⟩:=boxes2 hwA
 have lA:=lt_of_blk x1
 have lB:=lt_of_blk x2
 have HG:=Lib.hid (And.intro x1 x2)
 clear hwA x1 x2
 go_enter Tryz.func22,Tryz.ntmps22
 go_upto_region 1 with fail
 rw [←HWA.out]
 go_wp2_with fail
 go_loopw [6,7,8,9,10,11,12,13,14,15,16,55,62] (fun r1 r2 r3 lv hv iv _ _ _ _ _ _ _ wr=>∃ k:Nat,k≤P.length∧iv=.int .i64 (k:Int)∧r1=.string ⟨#[]⟩∧r2=.string ⟨#[]⟩∧r3=.bool false∧ChNE P a b k∧lv=.string (tx (loR P a b k))∧hv=.string (tx (hiR P a b k))∧Below wA.heap.size wA wr) (fun _ _ _ _ _ iv _ _ _ _ _ _ _ _=>P.length-(intOf iv).toNat)
 case atStart=>exact ⟨0,Nat.zero_le _,rfl,rfl,rfl,rfl,fun i hi=>absurd hi (Nat.not_lt_zero _),by rw [HL0.out,HT0.out],by rw [HH0.out,HT1.out],Below.refl _ _⟩
 case round =>
  obtain ⟨k,hkl,rfl,rfl,rfl,rfl,hne,rfl,rfl,hbrA⟩:=hrel
  have HNE:=Lib.hid hne
  clear hne
  have hbr:=hbA.trans (hbrA.mono hbA.size)
  by_cases hk:k<P.length
  ·have hblr0:B<wr.heap.size:=Nat.lt_of_lt_of_le hbl hbr.size
   have hkn:decide ((k:Int)<(P.length:Int))=true:=decide_eq_true (by omega)
   have hnl:nxI P.length k<P.length:=nxI_lt (by omega)
   have t1:=tmod_nx hk
   have t2:(0:Int)≤((nxI P.length k:Nat):Int):=by omega
   have t3:((nxI P.length k:Nat):Int)<(P.length:Int):=by omega
   have t4:IntKind.i64.wrap ((k:Int)+1)=(k:Int)+1:=IntWalk.i64_in _ (by omega)
   have t5:IntKind.i64.wrap ((nxI P.length k:Nat):Int)=((nxI P.length k:Nat):Int):=IntWalk.i64_in _ (by omega)
   have t6:(P.length:Int)≠0:=by omega
   have t8:((P.length:Int) == 0)=false:=beq_eq_false_iff_ne.2 (by omega)
   have t7:¬ P=[]:=fun e=>by rw [e] at hk;exact absurd hk (Nat.not_lt_zero _)
   have i1:(0:Int)≤(k:Int):=by omega
   have i2:(k:Int)<(P.length:Int):=by omega
   obtain ⟨c0,c1⟩:=HCC.out k hk wr hbr
   obtain ⟨d0,d1⟩:=HCC.out (nxI P.length k) hnl wr hbr
   have H1:=Lib.hid (HA.out k hk)
   have H2:=Lib.hid (HB.out k hk)
   rw [HUD.out k] at H1
   rw [HVD.out k] at H2
   generalize tx (pt P k).1=p1 at *
   generalize tx (pt P k).2=p2 at *
   generalize tx (pt P (nxI P.length k)).1=q1 at *
   generalize tx (pt P (nxI P.length k)).2=q2 at *
   go_upto_region 6 with fail
   obtain ⟨wC,hwwC⟩ : ∃ wC,wC=wr.alloc (Obj.cells #[.string q1,.string q2] 31):=⟨_,rfl⟩
   obtain ⟨hbwC,lC,z0,z1⟩:=box_new hwwC
   rw [←hwwC]
   clear hwwC d0 d1
   have hbC:=hbr.trans (hbwC.mono hbr.size)
   have hblr:B<wC.heap.size:=Nat.lt_of_lt_of_le hblr0 hbwC.size
   replace c0:=(hbwC.cell (p:=⟨B,off+k*2,none⟩) hblr0).trans c0
   replace c1:=(hbwC.cell (p:=⟨B,off+k*2+1,none⟩) hblr0).trans c1
   have hbAC:=hbrA.trans (hbwC.mono hbrA.size)
   have lAr:=Nat.lt_of_lt_of_le lA hbAC.size
   have lBr:=Nat.lt_of_lt_of_le lB hbAC.size
   obtain ⟨g0,g1,_,_⟩:=two_cells ((hbAC.block _ lA).trans HG.out.1)
   obtain ⟨e0,e1,_,_⟩:=two_cells ((hbAC.block _ lB).trans HG.out.2)
   refine wp_held_list (fun W'=>Below wC.heap.size wC W') [0,1,2,3,4,5,7,8,9,10,11,12] [6,13] 14 (by kernel_rfl) (by kernel_rfl) ⟨rfl,rfl,rfl,Nat.le_refl _,fun _ _=>rfl⟩ ?_
   iterate 12
    refine wpTakeL_step rfl ?_ rfl ?_ ?_
    rotate_left
    ·intro W' hS'
     have s0:=(hS'.cell (p:=⟨w.heap.size,0,none⟩) lAr).trans g0
     have s1:=(hS'.cell (p:=⟨w.heap.size,1,none⟩) lAr).trans g1
     have s2:=(hS'.cell (p:=⟨w.heap.size+1,0,none⟩) lBr).trans e0
     have s3:=(hS'.cell (p:=⟨w.heap.size+1,1,none⟩) lBr).trans e1
     have s4:=(hS'.cell (p:=⟨wr.heap.size,0,none⟩) lC).trans z0
     have s5:=(hS'.cell (p:=⟨wr.heap.size,1,none⟩) lC).trans z1
     have s6:=(hS'.cell (p:=⟨B,off+k*2,none⟩) hblr).trans c0
     have s7:=(hS'.cell (p:=⟨B,off+k*2+1,none⟩) hblr).trans c1
     go_simp
     try with_reducible rfl
    try simp only [zA,zB,zC,Act.put,zD,zE,zF]
   have hR0:Below wC.heap.size wC wC.drew:=⟨rfl,rfl,rfl,Nat.le_refl _,fun _ _=>rfl⟩
   refine wpKeepL_step rfl rfl (fun K hK=>?_)
   go_simp
   refine (H1.out _ (hw.below (hbC.trans (hR0.mono hbC.size)))).mono ?_
   rintro e u1 ⟨rfl,hbu1⟩
   have hR1:=hR0.trans (hbu1.mono hR0.size)
   refine hK _ _ ⟨hR1,?_⟩
   clear hK K
   try simp only [zA,zB,zC,Act.put,zD,zE,zF]
   refine wpKeepL_step rfl rfl (fun K hK=>?_)
   go_simp
   refine (H2.out _ (hw.below (hbC.trans (hR1.mono hbC.size)))).mono ?_
   rintro e u2 ⟨rfl,hbu2⟩
   have hR2:=hR1.trans (hbu2.mono hR1.size)
   refine hK _ _ ⟨hR2,?_⟩
   clear hK K
   try simp only [zA,zB,zC,Act.put,zD,zE,zF]
   unfold wpKeepL
   simp only [List.drop_succ_cons,List.drop_zero]
   try simp only [zA,zB,zC,Act.put,zD,zE,zF]
   refine wpKeep_step rfl (fun K hK=>?_)
   go_simp
   refine hK _ _ ⟨trivial,?_⟩
   clear hK K
   try simp only [zA,zB,zC,Act.put,zD,zE,zF]
   refine wpKeep_step rfl (fun K hK=>?_)
   go_simp
   refine hK _ _ ⟨trivial,wpKeep_nil ?_⟩
   clear hK K
   try simp only [zA,zB,zC,Act.put,zD,zE,zF]
   refine NormalOnly.mk ?_
   have hbZ:=hbAC.trans (hR2.mono hbAC.size)
   have hbY:=hbA.trans (hbZ.mono hbA.size)
   clear g0 g1 e0 e1 c0 c1 z0 z1 H1 H2 lAr lBr lC hblr hblr0
   have HE:=Lib.hid (HEQ.out k)
   have HS:=Lib.hid (HSG.out k)
   by_cases huv:sdU P a k=sdU P b k
   ·have q1:((tx (sdU P a k)).toList == (tx (sdU P b k)).toList)=true:=by rw [HE.out];exact decide_eq_true huv
    have HUV:=Lib.hid huv
    rcases sgnR_cases (sdU P a k) with ⟨hs,hg⟩ | ⟨hs,hg⟩ | ⟨hs,hg⟩
    ·have HR:=Lib.hid (rch_early hk HUV.out hs)
     rw [hg] at HS
     clear hs hg huv HUV
     generalize tx (sdU P a k)=tu at *
     generalize tx (sdU P b k)=tv at *
     go_wp2_with fail
     refine (HS.out _).mono ?_
     rintro e w9 ⟨rfl,hb9⟩
     go_wp2
     refine bodyPost_ret (v:=.tuple #[.string ⟨#[]⟩,.string ⟨#[]⟩,.bool false]) (by simp [results,Tryz.results22,go_sem]) rfl ?_
     exact ⟨_,rfl,HR.out,hbY.trans (hb9.mono hbY.size)⟩
    ·have HLO:=Lib.hid (show loR P a b (k+1)=loR P a b k by rw [loR,if_neg (fun h=>by have:=h.1;rw [HUV.out] at this;exact absurd this (Rat.lt_irrefl))])
     have HHI:=Lib.hid (show hiR P a b (k+1)=hiR P a b k by rw [hiR,if_neg (fun h=>by have:=h.1;rw [HUV.out] at this;exact absurd this (Rat.lt_irrefl))])
     have HNE2:=Lib.hid (HNE.out.succ (fun h=>by have:=h.2;grind))
     rw [hg] at HS
     clear hs hg huv HUV
     generalize tx (sdU P a k)=tu at *
     generalize tx (sdU P b k)=tv at *
     go_wp2_with fail
     refine (HS.out _).mono ?_
     rintro e w9 ⟨rfl,hb9⟩
     go_wp2
     refine ⟨⟨k+1,hk,int_succ k,rfl,rfl,rfl,HNE2.out,by rw [HLO.out],by rw [HHI.out],hbZ.trans (hb9.mono hbZ.size)⟩,?_⟩
     show P.length-((k:Int)+1).toNat<P.length-((k:Int)).toNat
     omega
    ·have HLO:=Lib.hid (show loR P a b (k+1)=loR P a b k by rw [loR,if_neg (fun h=>by have:=h.1;rw [HUV.out] at this;exact absurd this (Rat.lt_irrefl))])
     have HHI:=Lib.hid (show hiR P a b (k+1)=hiR P a b k by rw [hiR,if_neg (fun h=>by have:=h.1;rw [HUV.out] at this;exact absurd this (Rat.lt_irrefl))])
     have HNE2:=Lib.hid (HNE.out.succ (fun h=>by have:=h.2;grind))
     rw [hg] at HS
     clear hs hg huv HUV
     generalize tx (sdU P a k)=tu at *
     generalize tx (sdU P b k)=tv at *
     go_wp2_with fail
     refine (HS.out _).mono ?_
     rintro e w9 ⟨rfl,hb9⟩
     go_wp2
     refine ⟨⟨k+1,hk,int_succ k,rfl,rfl,rfl,HNE2.out,by rw [HLO.out],by rw [HHI.out],hbZ.trans (hb9.mono hbZ.size)⟩,?_⟩
     show P.length-((k:Int)+1).toNat<P.length-((k:Int)).toNat
     omega
   ·have q1:((tx (sdU P a k)).toList == (tx (sdU P b k)).toList)=false:=by rw [HE.out];exact decide_eq_false huv
    have H0:sdU P a k-sdU P b k≠0:=fun e=>huv (by grind)
    have HNE2:=Lib.hid (HNE.out.succ (fun h=>huv h.1))
    have HSB:=Lib.hid (HSU.out k hk)
    have HD:=Lib.hid (HDV.out k hk H0)
    have HKK:=Lib.hid (HCL.out k hk)
    have HKH:=Lib.hid (HCH.out k hk)
    have HC1:=Lib.hid (HCU.out k hk)
    rw [HKD.out k] at HD
    have HCD:=Lib.hid (sgnR_cases (sdU P a k-sdU P b k))
    have HKL:=Lib.hid (sgnR_cases (sdK P a b k-loR P a b k))
    have HKM:=Lib.hid (sgnR_cases (sdK P a b k-hiR P a b k))
    have HX:=Lib.hid (fun h:sdU P a k-sdU P b k=0=>H0 h)
    clear huv H0 HE HS
    rcases HCD.out with ⟨hs,hg⟩ | ⟨hs,hg⟩ | ⟨hs,hg⟩
    ·have hlt:sdU P a k<sdU P b k:=by grind
     have HHI:=Lib.hid (show hiR P a b (k+1)=hiR P a b k by rw [hiR,if_neg (fun h=>by have:=h.1;grind)])
     rw [hg] at HC1
     by_cases hup:loR P a b k<sdK P a b k
     ·have HLO:=Lib.hid (show loR P a b (k+1)=sdK P a b k by rw [loR,if_pos ⟨hlt,hup⟩])
      have hg2:sgnR (sdK P a b k-loR P a b k)=1:=sgnR_pos (by grind)
      rw [hg2] at HKK
      clear hs hg hlt hup hg2 HCD HKL HKM
      generalize tx (sdU P a k)=tu at *
      generalize tx (sdU P b k)=tv at *
      go_wp2_with fail
      refine (HC1.out _ (hw.below hbY)).mono ?_
      rintro e v1 ⟨rfl,k1⟩
      have hz1:=hbZ.trans (k1.mono hbZ.size)
      go_wp2_with fail
      refine (HSB.out _ (hw.below (hbA.trans (hz1.mono hbA.size)))).mono ?_
      rintro e v2 ⟨rfl,k2⟩
      have hz2:=hz1.trans (k2.mono hz1.size)
      go_wp2_with fail
      refine (HD.out _ (hw.below (hbA.trans (hz2.mono hbA.size)))).mono ?_
      rintro e v3 ⟨rfl,k3⟩
      have hz3:=hz2.trans (k3.mono hz2.size)
      go_wp2_with fail
      refine (HKK.out _ (hw.below (hbA.trans (hz3.mono hbA.size)))).mono ?_
      rintro e v4 ⟨rfl,k4⟩
      have hz4:=hz3.trans (k4.mono hz3.size)
      go_wp2
      refine ⟨⟨k+1,hk,int_succ k,rfl,rfl,rfl,HNE2.out,by rw [HLO.out],by rw [HHI.out],hz4⟩,?_⟩
      show P.length-((k:Int)+1).toNat<P.length-((k:Int)).toNat
      omega
     ·have HLO:=Lib.hid (show loR P a b (k+1)=loR P a b k by rw [loR,if_neg (fun h=>hup h.2)])
      have hg2:sgnR (sdK P a b k-loR P a b k)=0∨sgnR (sdK P a b k-loR P a b k) = -1:=by
       rcases HKL.out with ⟨y,z⟩ | ⟨y,z⟩ | ⟨y,z⟩
       ·exact .inr z
       ·exact .inl z
       ·exact absurd (by grind) hup
      clear hs hg hlt hup HCD HKL HKM
      rcases hg2 with hg2 | hg2
      ·rw [hg2] at HKK
       clear hg2
       generalize tx (sdU P a k)=tu at *
       generalize tx (sdU P b k)=tv at *
       go_wp2_with fail
       refine (HC1.out _ (hw.below hbY)).mono ?_
       rintro e v1 ⟨rfl,k1⟩
       have hz1:=hbZ.trans (k1.mono hbZ.size)
       go_wp2_with fail
       refine (HSB.out _ (hw.below (hbA.trans (hz1.mono hbA.size)))).mono ?_
       rintro e v2 ⟨rfl,k2⟩
       have hz2:=hz1.trans (k2.mono hz1.size)
       go_wp2_with fail
       refine (HD.out _ (hw.below (hbA.trans (hz2.mono hbA.size)))).mono ?_
       rintro e v3 ⟨rfl,k3⟩
       have hz3:=hz2.trans (k3.mono hz2.size)
       go_wp2_with fail
       refine (HKK.out _ (hw.below (hbA.trans (hz3.mono hbA.size)))).mono ?_
       rintro e v4 ⟨rfl,k4⟩
       have hz4:=hz3.trans (k4.mono hz3.size)
       go_wp2
       refine ⟨⟨k+1,hk,int_succ k,rfl,rfl,rfl,HNE2.out,by rw [HLO.out],by rw [HHI.out],hz4⟩,?_⟩
       show P.length-((k:Int)+1).toNat<P.length-((k:Int)).toNat
       omega
      ·rw [hg2] at HKK
       clear hg2
       generalize tx (sdU P a k)=tu at *
       generalize tx (sdU P b k)=tv at *
       go_wp2_with fail
       refine (HC1.out _ (hw.below hbY)).mono ?_
       rintro e v1 ⟨rfl,k1⟩
       have hz1:=hbZ.trans (k1.mono hbZ.size)
       go_wp2_with fail
       refine (HSB.out _ (hw.below (hbA.trans (hz1.mono hbA.size)))).mono ?_
       rintro e v2 ⟨rfl,k2⟩
       have hz2:=hz1.trans (k2.mono hz1.size)
       go_wp2_with fail
       refine (HD.out _ (hw.below (hbA.trans (hz2.mono hbA.size)))).mono ?_
       rintro e v3 ⟨rfl,k3⟩
       have hz3:=hz2.trans (k3.mono hz2.size)
       go_wp2_with fail
       refine (HKK.out _ (hw.below (hbA.trans (hz3.mono hbA.size)))).mono ?_
       rintro e v4 ⟨rfl,k4⟩
       have hz4:=hz3.trans (k4.mono hz3.size)
       go_wp2
       refine ⟨⟨k+1,hk,int_succ k,rfl,rfl,rfl,HNE2.out,by rw [HLO.out],by rw [HHI.out],hz4⟩,?_⟩
       show P.length-((k:Int)+1).toNat<P.length-((k:Int)).toNat
       omega
    ·exact absurd hs HX.out
    ·have hlt:sdU P b k<sdU P a k:=by grind
     have HLO:=Lib.hid (show loR P a b (k+1)=loR P a b k by rw [loR,if_neg (fun h=>by have:=h.1;grind)])
     rw [hg] at HC1
     by_cases hup:sdK P a b k<hiR P a b k
     ·have HHI:=Lib.hid (show hiR P a b (k+1)=sdK P a b k by rw [hiR,if_pos ⟨hlt,hup⟩])
      have hg2:sgnR (sdK P a b k-hiR P a b k) = -1:=sgnR_neg (by grind)
      rw [hg2] at HKH
      clear hs hg hlt hup hg2 HCD HKL HKM
      generalize tx (sdU P a k)=tu at *
      generalize tx (sdU P b k)=tv at *
      go_wp2_with fail
      refine (HC1.out _ (hw.below hbY)).mono ?_
      rintro e v1 ⟨rfl,k1⟩
      have hz1:=hbZ.trans (k1.mono hbZ.size)
      go_wp2_with fail
      refine (HSB.out _ (hw.below (hbA.trans (hz1.mono hbA.size)))).mono ?_
      rintro e v2 ⟨rfl,k2⟩
      have hz2:=hz1.trans (k2.mono hz1.size)
      go_wp2_with fail
      refine (HD.out _ (hw.below (hbA.trans (hz2.mono hbA.size)))).mono ?_
      rintro e v3 ⟨rfl,k3⟩
      have hz3:=hz2.trans (k3.mono hz2.size)
      go_wp2_with fail
      refine (HKH.out _ (hw.below (hbA.trans (hz3.mono hbA.size)))).mono ?_
      rintro e v4 ⟨rfl,k4⟩
      have hz4:=hz3.trans (k4.mono hz3.size)
      go_wp2
      refine ⟨⟨k+1,hk,int_succ k,rfl,rfl,rfl,HNE2.out,by rw [HLO.out],by rw [HHI.out],hz4⟩,?_⟩
      show P.length-((k:Int)+1).toNat<P.length-((k:Int)).toNat
      omega
     ·have HHI:=Lib.hid (show hiR P a b (k+1)=hiR P a b k by rw [hiR,if_neg (fun h=>hup h.2)])
      have hg2:sgnR (sdK P a b k-hiR P a b k)=0∨sgnR (sdK P a b k-hiR P a b k)=1:=by
       rcases HKM.out with ⟨y,z⟩ | ⟨y,z⟩ | ⟨y,z⟩
       ·exact absurd (by grind) hup
       ·exact .inl z
       ·exact .inr z
      clear hs hg hlt hup HCD HKL HKM
      rcases hg2 with hg2 | hg2
      ·rw [hg2] at HKH
       clear hg2
       generalize tx (sdU P a k)=tu at *
       generalize tx (sdU P b k)=tv at *
       go_wp2_with fail
       refine (HC1.out _ (hw.below hbY)).mono ?_
       rintro e v1 ⟨rfl,k1⟩
       have hz1:=hbZ.trans (k1.mono hbZ.size)
       go_wp2_with fail
       refine (HSB.out _ (hw.below (hbA.trans (hz1.mono hbA.size)))).mono ?_
       rintro e v2 ⟨rfl,k2⟩
       have hz2:=hz1.trans (k2.mono hz1.size)
       go_wp2_with fail
       refine (HD.out _ (hw.below (hbA.trans (hz2.mono hbA.size)))).mono ?_
       rintro e v3 ⟨rfl,k3⟩
       have hz3:=hz2.trans (k3.mono hz2.size)
       go_wp2_with fail
       refine (HKH.out _ (hw.below (hbA.trans (hz3.mono hbA.size)))).mono ?_
       rintro e v4 ⟨rfl,k4⟩
       have hz4:=hz3.trans (k4.mono hz3.size)
       go_wp2
       refine ⟨⟨k+1,hk,int_succ k,rfl,rfl,rfl,HNE2.out,by rw [HLO.out],by rw [HHI.out],hz4⟩,?_⟩
       show P.length-((k:Int)+1).toNat<P.length-((k:Int)).toNat
       omega
      ·rw [hg2] at HKH
       clear hg2
       generalize tx (sdU P a k)=tu at *
       generalize tx (sdU P b k)=tv at *
       go_wp2_with fail
       refine (HC1.out _ (hw.below hbY)).mono ?_
       rintro e v1 ⟨rfl,k1⟩
       have hz1:=hbZ.trans (k1.mono hbZ.size)
       go_wp2_with fail
       refine (HSB.out _ (hw.below (hbA.trans (hz1.mono hbA.size)))).mono ?_
       rintro e v2 ⟨rfl,k2⟩
       have hz2:=hz1.trans (k2.mono hz1.size)
       go_wp2_with fail
       refine (HD.out _ (hw.below (hbA.trans (hz2.mono hbA.size)))).mono ?_
       rintro e v3 ⟨rfl,k3⟩
       have hz3:=hz2.trans (k3.mono hz2.size)
       go_wp2_with fail
       refine (HKH.out _ (hw.below (hbA.trans (hz3.mono hbA.size)))).mono ?_
       rintro e v4 ⟨rfl,k4⟩
       have hz4:=hz3.trans (k4.mono hz3.size)
       go_wp2
       refine ⟨⟨k+1,hk,int_succ k,rfl,rfl,rfl,HNE2.out,by rw [HLO.out],by rw [HHI.out],hz4⟩,?_⟩
       show P.length-((k:Int)+1).toNat<P.length-((k:Int)).toNat
       omega
  ·have hkn:decide ((k:Int)<(P.length:Int))=false:=decide_eq_false (by omega)
   have e:k=P.length:=by omega
   subst e
   have HCD:=Lib.hid (sgnR_cases (loR P a b P.length-hiR P a b P.length))
   by_cases hlt:loR P a b P.length<hiR P a b P.length
   ·have HR:=Lib.hid (rch_yes HNE.out hlt)
    have hg:sgnR (loR P a b P.length-hiR P a b P.length) = -1:=sgnR_neg (by grind)
    rw [hg] at HCE
    clear hlt hg HCD
    generalize tx (loR P a b P.length)=t1 at *
    generalize tx (hiR P a b P.length)=t2 at *
    go_wp2_with fail
    refine (HCE.out _ (hw.below hbr)).mono ?_
    rintro e w9 ⟨rfl,hb9⟩
    go_wp2
    refine bodyPost_ret (v:=.tuple #[.string t1,.string t2,.bool true]) (by simp [results,Tryz.results22,go_sem]) rfl ?_
    exact ⟨_,rfl,HR.out,hbr.trans (hb9.mono hbr.size)⟩
   ·have HR:=Lib.hid (rch_no (P:=P) (a:=a) (b:=b) hlt)
    have hg:sgnR (loR P a b P.length-hiR P a b P.length)=0∨sgnR (loR P a b P.length-hiR P a b P.length)=1:=by
     rcases HCD.out with ⟨y,z⟩ | ⟨y,z⟩ | ⟨y,z⟩
     ·exact absurd (by grind) hlt
     ·exact .inl z
     ·exact .inr z
    clear hlt HCD
    generalize tx (loR P a b P.length)=t1 at *
    generalize tx (hiR P a b P.length)=t2 at *
    rcases hg with hg | hg
    ·rw [hg] at HCE
     clear hg
     go_wp2_with fail
     refine (HCE.out _ (hw.below hbr)).mono ?_
     rintro e w9 ⟨rfl,hb9⟩
     go_wp2
     refine bodyPost_ret (v:=.tuple #[.string ⟨#[]⟩,.string ⟨#[]⟩,.bool false]) (by simp [results,Tryz.results22,go_sem]) rfl ?_
     exact ⟨_,rfl,HR.out,hbr.trans (hb9.mono hbr.size)⟩
    ·rw [hg] at HCE
     clear hg
     go_wp2_with fail
     refine (HCE.out _ (hw.below hbr)).mono ?_
     rintro e w9 ⟨rfl,hb9⟩
     go_wp2
     refine bodyPost_ret (v:=.tuple #[.string ⟨#[]⟩,.string ⟨#[]⟩,.bool false]) (by simp [results,Tryz.results22,go_sem]) rfl ?_
     exact ⟨_,rfl,HR.out,hbr.trans (hb9.mono hbr.size)⟩
end Go.Proofs.YtgohnjdgoglcfaaGreatDoor
namespace Go.Proofs.YtgohnjdgoglcfaaGreatDoor
open Go.RowKit Go.Shelf
open Go.Lib (decDigits itoa nDigits)
theorem law_fits (v:Value) (D:List Plc) (w:World) (hv:Dft w v D):Calls Tryz.prog 19 #[v] w fun e w'=>e=.returned (.bool (decide (D.length≤8)))∧w=w':=by
 obtain ⟨p,c,rfl,hcl,hcm,_⟩:=hv
 unfold maxLen at hcm
 by_cases h:D.length≤8
 ·rw [decide_eq_true h]
  have q1:decide ((D.length:Int)≤8)=true:=decide_eq_true (by omega)
  go_enter Tryz.func19,Tryz.ntmps19
  go_wp2
  go_ret
  exact ⟨rfl,rfl⟩
 ·rw [decide_eq_false h]
  have q1:decide ((D.length:Int)≤8)=false:=decide_eq_false (by omega)
  go_enter Tryz.func19,Tryz.ntmps19
  go_wp2
  go_ret
  exact ⟨rfl,rfl⟩
theorem right_point (a b:ByteArray) (ha:a.size≤4000000) (hb:b.size≤4000000) (w:World) (hw:Good w):Calls Tryz.prog 15 #[.agg #[.string a,.string b]] w (RV (.bool (okPr (a,b))) w):=r5_rightpoint a b ha hb w hw
theorem okS_tx {s:ByteArray} (h:okS s=true):∃ q:Rat,s=tx q∧OkB q:=by
 unfold okS at h
 have e:s=tx (ratV s):=(ratV_isR h).unique (isR_mk _)
 exact ⟨ratV s,e,by unfold OkB;rw [←e];exact h⟩
theorem okPr_pt {a b:ByteArray} (h:okPr (a,b)=true):∃ q:QP,a=tx q.1∧b=tx q.2∧OkB q.1∧OkB q.2:=by
 unfold okPr at h
 rw [Bool.and_eq_true] at h
 obtain ⟨p,h1,h2⟩:=okS_tx h.1
 obtain ⟨q,h3,h4⟩:=okS_tx h.2
 exact ⟨(p,q),h1,h3,h2,h4⟩
set_option maxRecDepth 100000 in
set_option maxHeartbeats 4000000 in
theorem pg_where_wrong (v:Value) (P:List QP) (a b:ByteArray) (hP:Poly P) (h60:P.length≤60) (hz:∀ p∈P,OkB p.1∧OkB p.2) (ha:a.size≤4000000) (hb:b.size≤4000000) (hno:okPr (a,b)=false) (w:World) (hw:Good w) (hv:Pts w v P) :
  Calls Tryz.prog 29 #[v,.agg #[.string a,.string b]] w (RV (.tuple #[.int .i64 0,.int .i64 2]) w):=by
 have HCK:=Lib.hid (fun w' (hg:Good w') (hp:Pts w' v P)=>pg_checkP v P hP.1.1 h60 hz w' hg hp)
 rw [polyC_poly hP] at HCK
 have HCP:=Lib.hid (fun w' (hg:Good w')=>vec_pointS a b ha hb w' hg)
 rw [hno] at HCP
 unfold RV at HCK HCP
 have HV:=Lib.hid hv
 clear hno hv hz hP
 obtain ⟨wA,hwA⟩ : ∃ wA,wA=w.alloc (Obj.cells #[.string a,.string b] 31):=⟨_,rfl⟩
 have HWA:=Lib.hid hwA
 obtain ⟨hbA,hx⟩:=box_any hwA
 have HX:=Lib.hid hx
 clear hwA hx
 go_enter Tryz.func29,Tryz.ntmps29
 go_upto_region 1 with fail
 rw [←HWA.out]
 go_wp2_with fail
 refine (HCK.out _ (hw.below hbA) (HV.out.below hbA)).mono ?_
 rintro e w1 ⟨rfl,hb1⟩
 have hbw1:=hbA.trans (hb1.mono hbA.size)
 obtain ⟨g0,g1,_,_⟩:=two_cells ((hb1.block _ (lt_of_blk HX.out)).trans HX.out)
 go_wp2_with fail
 refine (HCP.out _ (hw.below hbw1)).mono ?_
 rintro e w2 ⟨rfl,hb2⟩
 go_wp2
 go_ret2
 exact ⟨rfl,hbw1.trans (hb2.mono hbw1.size)⟩
theorem leastTo_nonneg {P:List QP} {x:QP} (h:InP P x):∀ k,k≤P.length→0≤leastTo P x sgnR k
 | 0,_=>(by decide:(0:Int)≤1)
 | k+1,hk=>by
  have h1:=leastTo_nonneg h k (by omega)
  have h2:=h k (by omega)
  unfold leastTo
  have h3:0≤sgnR (sdU P x k):=by
   rcases sgnR_cases (sdU P x k) with ⟨a,b⟩ | ⟨a,b⟩ | ⟨a,b⟩
   ·exact absurd h2 (by unfold sdU at a;grind)
   ·omega
   ·omega
  omega
theorem leastTo_le {P:List QP} {x:QP} {i:Nat}:∀ k,i<k→leastTo P x sgnR k≤sgnR (sdU P x i)
 | k+1,hk=>by
  unfold leastTo
  rcases Nat.lt_or_ge i k with h | h
  ·have:=leastTo_le (P:=P) (x:=x) (i:=i) k h
   omega
  ·obtain rfl:i=k:=by omega
   omega
theorem where_side {P:List QP} (hP:Poly P) {s:Rat} (h0:0≤s) (h1:s≤1):whereP P (towP (pt P 0) (pt P 1) s)=0:=by
 have h3:=hP.1.1
 have hn:nxI P.length 0=1:=by unfold nxI;rw [if_pos (by omega)]
 have hin:InP P (towP (pt P 0) (pt P 1) s):=fun i hi=>by
  rw [crs_tow]
  have a:=hP.1.inP (pt_mem (show 0<P.length by omega)) i hi
  have b:=hP.1.inP (pt_mem (show 1<P.length by omega)) i hi
  have c:=Rat.mul_nonneg (show 0≤1-s by grind) a
  have d:=Rat.mul_nonneg h0 b
  grind
 have hz:sdU P (towP (pt P 0) (pt P 1) s) 0=0:=by
  unfold sdU
  rw [hn,crs_tow]
  have a:crs (pt P 0) (pt P 1) (pt P 0)=0:=by unfold crs;grind
  have b:crs (pt P 0) (pt P 1) (pt P 1)=0:=by unfold crs;grind
  rw [a,b]
  grind
 have l1:=leastTo_nonneg hin P.length (Nat.le_refl _)
 have l2:=leastTo_le (P:=P) (x:=towP (pt P 0) (pt P 1) s) (i:=0) P.length (by omega)
 rw [sgnR_zero hz] at l2
 unfold whereP
 omega
theorem tow_ok {P:List QP} (h:Drf P) {s:Rat} (hs:s.num.natAbs≤32768∧s.den≤256):OkB (towP (pt P 0) (pt P 1) s).1∧OkB (towP (pt P 0) (pt P 1) s).2:=by
 have h3:=h.poly.1.1
 have hp:=h.corner (i:=0) (by omega)
 have hq:=h.corner (i:=1) (by omega)
 obtain ⟨ex,x0,x1,xp,xq⟩:=fd_two hp.1.1 hq.1.1 hp.1.2 hq.1.2
 obtain ⟨ey,y0,y1,yp,yq⟩:=fd_two hp.2.1 hq.2.1 hp.2.2 hq.2.2
 have ks:=(Fd.own s).mono hs.1
 unfold towP
 constructor
 ·have k:=(xp.wide' hs.2).add (ks.mul (xq.sub xp))
  exact ok_nat (N:=32768*256*256+32768*(32768*256+32768*256)) (D:=256*(256*256)) ⟨(k.parts (Nat.mul_pos s.den_pos x0)).1,Nat.le_trans (k.parts (Nat.mul_pos s.den_pos x0)).2 (Nat.mul_le_mul hs.2 x1)⟩ (by decide) (by decide)
 ·have k:=(yp.wide' hs.2).add (ks.mul (yq.sub yp))
  exact ok_nat (N:=32768*256*256+32768*(32768*256+32768*256)) (D:=256*(256*256)) ⟨(k.parts (Nat.mul_pos s.den_pos y0)).1,Nat.le_trans (k.parts (Nat.mul_pos s.den_pos y0)).2 (Nat.mul_le_mul hs.2 y1)⟩ (by decide) (by decide)
end Go.Proofs.YtgohnjdgoglcfaaGreatDoor
