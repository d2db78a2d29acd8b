import Derived.Test.YtglncfkoohgdaaaGreatDoorE5R
import Derived.Test.YtglncfkoohgdaaaGreatDoorStillR
import Derived.Deep.OwnRows
import Derived.RangeFuncLeaves
import Derived.LoopNIn
import Derived.RangeFuncBox
set_option maxRecDepth 100000
set_option maxHeartbeats 8000000
namespace Go.Proofs.YtglncfkoohgdaaaGreatDoor
open Go.RowKit Go.Shelf
open Go.Lib (decDigits itoa nDigits)
open Go.Lib (hid)
attribute [local go_sem] Oper.semAt_some
def dX (n:Nat) (bs:List Nat) (W W':World):Prop:=Below n W W'∧∀ b∈bs,W'.heap[b]?=W.heap[b]?
theorem dX.refl (n:Nat) (bs:List Nat) (W:World):dX n bs W W:=⟨Below.refl _ _,fun _ _=>rfl⟩
theorem dX.trans {n:Nat} {bs:List Nat} {A B C:World} (h:dX n bs A B) (k:dX n bs B C):dX n bs A C:=⟨h.1.trans k.1,fun b hb=>(k.2 b hb).trans (h.2 b hb)⟩
theorem dX.of_below {n:Nat} {bs:List Nat} {W W':World} (h:Below W.heap.size W W') (h1:n≤W.heap.size) (h2:∀ b∈bs,b<W.heap.size):dX n bs W W':=⟨h.mono h1,fun b hb=>h.block b (h2 b hb)⟩
theorem dh {T:TypeId} {B:Nat} {J:Nat→World→Prop} (h:kP T B J) {k:Nat} {W W':World} (hs:J k W) (hb:Below W.heap.size W W'):J k W':=
 h k W W' none hs ⟨hb.os,hb.tape,hb.output,hb.size,fun k hk _=>hb.block k hk⟩ (fun r e=>by cases e)
def eU (L R:List Iv) (i j:Nat):List Nat:=kinds.filter fun k=>bF L R k i j
def mH (L R:List Iv) (i j n:Nat):Nat:=((kinds.take n).filter fun k=>bF L R k i j).length
theorem vE {n:Nat} (h:n<5):kinds.take (n+1)=kinds.take n ++ [n+1]∧kinds=kinds.take n++(n+1) :: kinds.drop (n+1):=by
 rcases n with _ | _ | _ | _ | _ | n
 ·decide
 ·decide
 ·decide
 ·decide
 ·decide
 ·omega
theorem Qp (L R:List Iv) (i j:Nat):mH L R i j 5=(eU L R i j).length:=rfl
theorem Qq {L R:List Iv} {i j n:Nat} (h:n<5) (hc:bF L R (n+1) i j=false):mH L R i j (n+1)=mH L R i j n:=by
 unfold mH
 rw [(vE h).1,List.filter_append]
 simp [hc]
theorem Qr {L R:List Iv} {i j n:Nat} (h:n<5) (hc:bF L R (n+1) i j=true):mH L R i j (n+1)=mH L R i j n+1∧∃ hl:mH L R i j n<(eU L R i j).length,(eU L R i j)[mH L R i j n]=n+1:=by
 have e1:mH L R i j (n+1)=mH L R i j n+1:=by
  unfold mH
  rw [(vE h).1,List.filter_append]
  simp [hc]
 have e2:eU L R i j=((kinds.take n).filter fun k=>bF L R k i j)++(n+1) :: ((kinds.drop (n+1)).filter fun k=>bF L R k i j):=by
  unfold eU
  conv=>lhs;rw [(vE h).2]
  rw [List.filter_append]
  simp [hc]
 have e3:(eU L R i j)[mH L R i j n]?=some (n+1):=by
  rw [e2]
  unfold mH
  simp
 obtain ⟨h1,h2⟩:=List.getElem?_eq_some_iff.1 e3
 exact ⟨e1,h1,h2⟩
theorem MR {L R:List Iv} {i j k:Nat} (h1:1≤k) (h:k≤5) (hc:bF L R k i j=true):mH L R i j k=mH L R i j (k-1)+1∧∃ hl:mH L R i j (k-1)<(eU L R i j).length,(eU L R i j)[mH L R i j (k-1)]=k:=by
 obtain ⟨n,rfl⟩ : ∃ n,k=n+1:=⟨k-1,by omega⟩
 exact Qr (by omega) hc
theorem MS {L R:List Iv} {i j k:Nat} (h1:1≤k) (h:k≤5) (hc:bF L R k i j=false):mH L R i j k=mH L R i j (k-1):=by
 obtain ⟨n,rfl⟩ : ∃ n,k=n+1:=⟨k-1,by omega⟩
 exact Qq (by omega) hc
theorem Qs {k:Nat}:k∈kinds↔1≤k∧k≤5:=by
 unfold kinds
 simp only [List.mem_cons,List.not_mem_nil,or_false]
 omega
def uD (C:Cs) (L R:List Iv) (i j k:Nat):Array Value:=#[oF k i j,.string (tx (bY C L R k i j))]
def dO (i:Nat):Obj:=.cells #[.int .i64 (i:Int)] 3
theorem bL {w:World} {i B:Nat} (h:w.heap[B]?=some (dO i)):w.cell? ⟨B,0,none⟩=some (.int .i64 (i:Int)):=by unfold dO at h;simp [World.cell?,h]
theorem Kg (n:Nat) (vl vr:Value) (C:Cs) (i j:Nat) (w:World) (L R:List Iv) (hvl:gm w vl L) (eO:gm w vr R) :
  CallsIn Fence.wide n Tryz.prog 189 #[uC vl vr C,.int .i64 (i:Int),.int .i64 (j:Int)] w fun e w'=>e=.returned (.func (.func 237) #[] #[.pointer (some ⟨w.heap.size+1,0,none⟩),.pointer (some ⟨w.heap.size+2,0,none⟩),.pointer (some ⟨w.heap.size,0,none⟩)])∧w'=((w.alloc (OA vl vr C)).alloc (dO i)).alloc (dO j):=by
 obtain ⟨pl,cl,rfl,hcl,hcm⟩:=hvl.slice
 obtain ⟨pr,cr,rfl,gZ,hcm2⟩:=eO.slice
 unfold OA dO uC
 clear hvl eO
 refine callsIn_of_wp Tryz.func189 rfl trivial ?_ rfl
 simp only [Tryz.ntmps189,List.size_toArray,List.length_cons,List.length_nil,Nat.reduceAdd,Nat.reduceSub,Array.replicate_succ,Array.replicate_zero,List.push_toArray,List.append_toArray,List.nil_append,List.cons_append]
 gi_wp2
 go_ret
 exact ⟨rfl,rfl⟩
theorem Qt {T:TypeId} (n:Nat) (_hn:1≤n) (l Bq Bi Bj:Nat) (wd:World) (C:Cs) (L R:List Iv) (i j:Nat) (hi:i≤L.length) (hj:j≤R.length) (hn:L.length≤999) (hm:R.length≤999) (hC:CsZ 1000 C) (hzl:∀ i,i<L.length→I7 1000 (ah L i)) (YS:∀ j,j<R.length→I7 1000 (ah R j)) (vl vr:Value) (hvl:gm wd vl L) (eO:gm wd vr R) (hw:Good wd) (J Jx:Nat→World→Prop)
  (W:World) (hbW:Below wd.heap.size wd W) (hJ:kP T W.heap.size J)
  (hY:∀ k (hk:k<(eU L R i j).length) W1,J k W1→YieldAt Fence.wide (n-1) Tryz.prog l (uD C L R i j (eU L R i j)[k]) W1 fun e W'=>(e=.returned (.bool true)∧J (k+1) W'∧dX wd.heap.size [Bq,Bi,Bj] W1 W')∨(e=.returned (.bool false)∧Jx k W'))
  (hq:W.heap[Bq]?=some (OA vl vr C)) (hbi:W.heap[Bi]?=some (dO i)) (hbj:W.heap[Bj]?=some (dO j)) (h0:J 0 W) :
  CallsIn Fence.wide n Tryz.prog 237 #[.func (.yield l) #[] #[],.pointer (some ⟨Bi,0,none⟩),.pointer (some ⟨Bj,0,none⟩),.pointer (some ⟨Bq,0,none⟩)] W fun e W'=>(∃ v,e=.returned v)∧(J (eU L R i j).length W'∨∃ k,k<(eU L R i j).length∧Jx k W'):=by
 have CB:=hid (fun k (hk:k∈kinds) w' (hb:Below wd.heap.size wd w')=>G7 vl vr C L R k i j hk hi hj hn hm (hvl.below hb) (eO.below hb))
 have Kh:=hid (fun k (hk:k∈kinds) (hc:bF L R k i j=true) w' (hb:Below wd.heap.size wd w')=>ZG vl vr C L R k i j hk hc (by omega) (by omega) hC hzl YS (hvl.below hb) (eO.below hb) (hw.below hb))
 have HSC:=hid (fun k (hk:k∈kinds)=>Qo (L:=L) (R:=R) hk hi hj)
 obtain ⟨pl,cl,rfl,hcl,hcm⟩:=hvl.slice
 obtain ⟨pr,cr,rfl,gZ,hcm2⟩:=eO.slice
 have hlq:=aa hq
 have hli:=aa hbi
 have hlj:=aa hbj
 have HLB:=hid (show ∀ b∈[Bq,Bi,Bj],b<W.heap.size by
  intro b hb
  simp only [List.mem_cons,List.not_mem_nil,or_false] at hb
  rcases hb with rfl | rfl | rfl <;> assumption)
 have HJ:=hid hJ
 have HY:=hid hY
 have HQ:=hid hq
 have G8:=hid hbi
 have E8:=hid hbj
 clear hJ hY hvl eO hcl gZ hcm hcm2 hC hzl YS hq hbi hbj hn hm hi hj hlq hli hlj
 refine callsIn_of_wp Tryz.func237 rfl trivial ?_ rfl
 simp only [Tryz.ntmps237,List.size_toArray,List.length_cons,List.length_nil,Nat.reduceAdd,Nat.reduceSub,Array.replicate_succ,Array.replicate_zero,List.push_toArray,List.append_toArray,List.nil_append,List.cons_append]
 gi_wp2
 gi_loopw [5] (fun iv wr=>∃ k:Nat,1≤k∧k≤6∧iv=.int .i64 (k:Int)∧J (mH L R i j (k-1)) wr∧dX wd.heap.size [Bq,Bi,Bj] W wr∧W.heap.size≤wr.heap.size) (fun iv _=>6-(intOf iv).toNat)
 case atStart=>exact ⟨1,Nat.le_refl _,by omega,rfl,h0,dX.refl _ _ _,Nat.le_refl _⟩
 case round =>
  obtain ⟨k,hk1,hk6,rfl,hJs,hnx,hsz⟩:=hrel
  have sZ:=hid (hbW.trans hnx.1)
  have vC:=hid hnx
  have HJS:=hid hJs
  have e0:=bL ((hnx.2 Bi (by simp)).trans G8.out)
  have e1:=bL ((hnx.2 Bj (by simp)).trans E8.out)
  have eq:=(hnx.2 Bq (by simp)).trans HQ.out
  clear hnx hJs h0
  by_cases hk5:k≤5
  ·have hkk:k∈kinds:=Qs.2 ⟨hk1,hk5⟩
   have Ki:=hid (CB.out k hkk)
   have Qu:=hid (Kh.out k hkk)
   have hsc:=HSC.out k hkk
   obtain ⟨E,hE⟩ : ∃ E,E=E5 L R k i j:=⟨_,rfl⟩
   rw [←hE] at Ki hsc
   clear CB Kh HSC hE
   unfold uC oF at Ki Qu
   unfold RV at Ki Qu
   unfold OA at eq
   obtain ⟨t1,ht1⟩ : ∃ t,t=tx C.ch:=⟨_,rfl⟩
   obtain ⟨t2,ht2⟩ : ∃ t,t=tx C.mi:=⟨_,rfl⟩
   obtain ⟨t3,ht3⟩ : ∃ t,t=tx C.ga:=⟨_,rfl⟩
   obtain ⟨t4,Us⟩ : ∃ t,t=tx C.re:=⟨_,rfl⟩
   obtain ⟨tc,htc⟩ : ∃ t,t=tx (bY C L R k i j):=⟨_,rfl⟩
   rw [←ht1,←ht2,←ht3,←Us] at Ki Qu eq
   rw [←htc] at Qu
   have YT:=hid htc
   clear ht1 ht2 ht3 Us htc
   have d1:decide ((k:Int)≤5)=true:=decide_eq_true (by omega)
   have d2:decide (k≤5)=true:=decide_eq_true hk5
   have t5:IntKind.i64.wrap ((k:Int)+1)=(k:Int)+1:=IntWalk.i64_in _ (by omega)
   gi_wp2
   obtain ⟨wB,iy⟩ : ∃ wB,wB=wr.alloc (Obj.cells #[.int .i64 (k:Int),.int .i64 (i:Int),.int .i64 (j:Int)] 57):=⟨_,rfl⟩
   obtain ⟨il,lB,g0,g1,g2⟩:=aY iy
   rw [←iy]
   clear iy
   have eqB:=(il.block _ (lt_of_some eq)).trans eq
   obtain ⟨q0,q1,q2,q3,q4,q5⟩:=aW eqB
   have lq:=lt_of_some eqB
   have HB:=hid (sZ.out.trans (il.mono sZ.out.size))
   have ad4:=hid (fun w' (h:Below wB.heap.size wB w')=>Ki.out w' (HB.out.trans (h.mono HB.out.size)))
   have ace:=hid (fun hc w' (h:Below wB.heap.size wB w')=>Qu.out hc w' (HB.out.trans (h.mono HB.out.size)))
   clear eq eqB e0 e1 Ki Qu
   by_cases hc:bF L R k i j=true
   ·have hE0:E=0:=by rw [hc] at hsc;simpa using hsc
    subst hE0
    obtain ⟨p1,hl,p2⟩:=MR hk1 hk5 hc
    have HY1:=HY.out _ hl
    rw [p2] at HY1
    unfold uD oF at HY1
    rw [←YT.out] at HY1
    have HY1:=hid HY1
    have HC:=hid (ace.out hc)
    clear hsc p2 ace
    refine fJ bT (fun W'=>Below wB.heap.size wB W') (.take 0 (.take 1 (.one 2 (.take 3 (.take 4 (.take 5 (.take 6 (.take 7 (.take 8 (.one 9 .fin)))))))))) 10 (by kernel_rfl) (by kernel_rfl) (by kernel_rfl) ⟨rfl,rfl,rfl,Nat.le_refl _,fun _ _=>rfl⟩ ?_
    have bZ:Below wB.heap.size wB wB.drew:=⟨rfl,rfl,rfl,Nat.le_refl _,fun _ _=>rfl⟩
    generalize wB.drew=dW at *
    iterate 2
     refine bJ rfl ?_ rfl ?_ ?_
     rotate_left
     ·intro W' hS'
      have s0:=(hS'.cell (p:=⟨Bq,0,none⟩) lq).trans q0
      have s1:=(hS'.cell (p:=⟨Bq,1,none⟩) lq).trans q1
      have s2:=(hS'.cell (p:=⟨Bq,2,none⟩) lq).trans q2
      have s3:=(hS'.cell (p:=⟨Bq,3,none⟩) lq).trans q3
      have s4:=(hS'.cell (p:=⟨Bq,4,none⟩) lq).trans q4
      have s5:=(hS'.cell (p:=⟨Bq,5,none⟩) lq).trans q5
      have s6:=(hS'.cell (p:=⟨wr.heap.size,0,none⟩) lB).trans g0
      have s7:=(hS'.cell (p:=⟨wr.heap.size,1,none⟩) lB).trans g1
      have s8:=(hS'.cell (p:=⟨wr.heap.size,2,none⟩) lB).trans g2
      go_simp
      try with_reducible rfl
     try simp only [zA,zB,zC,Act.put,zD,zE,zF]
    refine aK rfl rfl (fun K hK=>?_)
    go_simp
    refine (ad4.out _ bZ).mono ?_
    rintro e gK ⟨rfl,cK⟩
    have hP1:=bZ.trans (cK.mono bZ.size)
    refine hK _ _ ⟨hP1,?_⟩
    clear hK K
    try simp only [zA,zB,zC,Act.put,zD,zE,zF]
    iterate 6
     refine bJ rfl ?_ rfl ?_ ?_
     rotate_left
     ·intro W' hS'
      have s0:=(hS'.cell (p:=⟨Bq,0,none⟩) lq).trans q0
      have s1:=(hS'.cell (p:=⟨Bq,1,none⟩) lq).trans q1
      have s2:=(hS'.cell (p:=⟨Bq,2,none⟩) lq).trans q2
      have s3:=(hS'.cell (p:=⟨Bq,3,none⟩) lq).trans q3
      have s4:=(hS'.cell (p:=⟨Bq,4,none⟩) lq).trans q4
      have s5:=(hS'.cell (p:=⟨Bq,5,none⟩) lq).trans q5
      have s6:=(hS'.cell (p:=⟨wr.heap.size,0,none⟩) lB).trans g0
      have s7:=(hS'.cell (p:=⟨wr.heap.size,1,none⟩) lB).trans g1
      have s8:=(hS'.cell (p:=⟨wr.heap.size,2,none⟩) lB).trans g2
      go_simp
      try with_reducible rfl
     try simp only [zA,zB,zC,Act.put,zD,zE,zF]
    refine aK rfl rfl (fun K hK=>?_)
    go_simp
    refine (HC.out _ hP1).mono ?_
    rintro e sW ⟨rfl,dK⟩
    have hP2:=hP1.trans (dK.mono hP1.size)
    refine hK _ _ ⟨hP2,?_⟩
    clear hK K
    try simp only [zA,zB,zC,Act.put,zD,zE,zF]
    unfold gP
    simp only [List.drop_succ_cons,List.drop_zero]
    have hBr:Below wr.heap.size wr sW:=il.trans (hP2.mono il.size)
    have HBr:=hid hBr
    have hJv:J (mH L R i j (k-1)) sW:=dh HJ.out HJS.out hBr
    have HKv:=hid (vC.out.trans (dX.of_below (n:=wd.heap.size) (bs:=[Bq,Bi,Bj]) hBr sZ.out.size (fun b hb=>Nat.lt_of_lt_of_le (HLB.out b hb) hsz)))
    obtain ⟨fn,tmps,assign,body,hy,hR⟩:=HY1.out sW hJv
    clear hJv hBr q0 q1 q2 q3 q4 q5 g0 g1 g2
    gi_wp2
    refine hR.mono ?_
    rintro e W9 (⟨rfl,CE,RS⟩ | ⟨rfl,pR⟩)
    ·have Ay:=hid CE
     have RU:=hid (HKv.out.trans RS)
     clear CE RS
     gi_wp2
     go_roundw
     case rel=>exact ⟨k+1,by omega,by omega,aA k,(by rw [Nat.add_sub_cancel,p1];exact Ay.out),RU.out,RU.out.1.size⟩
     case measure=>show 6-((k:Int)+1).toNat<6-((k:Int)).toNat;omega
    ·gi_wp2
     refine bodyPost_ret (results_none rfl _ _ _) rfl ?_
     exact ⟨⟨_,rfl⟩,.inr ⟨_,hl,pR⟩⟩
   ·have hcf:bF L R k i j=false:=by cases h:bF L R k i j <;> simp_all
    rw [hcf] at hsc
    have hs2:decide (E=0)=false:=by simpa using hsc
    have hs3:¬ E=0:=by simpa using hsc
    have p1:=MS hk1 hk5 hcf
    clear ace hc hcf
    refine fJ bT (fun W'=>Below wB.heap.size wB W') (.take 0 (.take 1 (.one 2 (.take 3 (.take 4 (.take 5 (.take 6 (.take 7 (.take 8 (.take 9 (.take 10 (.take 11 .fin)))))))))))) 12 (by kernel_rfl) (by kernel_rfl) (by kernel_rfl) ⟨rfl,rfl,rfl,Nat.le_refl _,fun _ _=>rfl⟩ ?_
    have bZ:Below wB.heap.size wB wB.drew:=⟨rfl,rfl,rfl,Nat.le_refl _,fun _ _=>rfl⟩
    generalize wB.drew=dW at *
    iterate 2
     refine bJ rfl ?_ rfl ?_ ?_
     rotate_left
     ·intro W' hS'
      have s0:=(hS'.cell (p:=⟨Bq,0,none⟩) lq).trans q0
      have s1:=(hS'.cell (p:=⟨Bq,1,none⟩) lq).trans q1
      have s2:=(hS'.cell (p:=⟨Bq,2,none⟩) lq).trans q2
      have s3:=(hS'.cell (p:=⟨Bq,3,none⟩) lq).trans q3
      have s4:=(hS'.cell (p:=⟨Bq,4,none⟩) lq).trans q4
      have s5:=(hS'.cell (p:=⟨Bq,5,none⟩) lq).trans q5
      have s6:=(hS'.cell (p:=⟨wr.heap.size,0,none⟩) lB).trans g0
      have s7:=(hS'.cell (p:=⟨wr.heap.size,1,none⟩) lB).trans g1
      have s8:=(hS'.cell (p:=⟨wr.heap.size,2,none⟩) lB).trans g2
      go_simp
      try with_reducible rfl
     try simp only [zA,zB,zC,Act.put,zD,zE,zF]
    refine aK rfl rfl (fun K hK=>?_)
    go_simp
    refine (ad4.out _ bZ).mono ?_
    rintro e gK ⟨rfl,cK⟩
    have hP1:=bZ.trans (cK.mono bZ.size)
    refine hK _ _ ⟨hP1,?_⟩
    clear hK K
    try simp only [zA,zB,zC,Act.put,zD,zE,zF]
    iterate 2
     refine bJ rfl ?_ rfl ?_ ?_
     rotate_left
     ·intro W' hS'
      have s0:=(hS'.cell (p:=⟨Bq,0,none⟩) lq).trans q0
      have s1:=(hS'.cell (p:=⟨Bq,1,none⟩) lq).trans q1
      have s2:=(hS'.cell (p:=⟨Bq,2,none⟩) lq).trans q2
      have s3:=(hS'.cell (p:=⟨Bq,3,none⟩) lq).trans q3
      have s4:=(hS'.cell (p:=⟨Bq,4,none⟩) lq).trans q4
      have s5:=(hS'.cell (p:=⟨Bq,5,none⟩) lq).trans q5
      have s6:=(hS'.cell (p:=⟨wr.heap.size,0,none⟩) lB).trans g0
      have s7:=(hS'.cell (p:=⟨wr.heap.size,1,none⟩) lB).trans g1
      have s8:=(hS'.cell (p:=⟨wr.heap.size,2,none⟩) lB).trans g2
      go_simp
      try with_reducible rfl
     try simp only [zA,zB,zC,Act.put,zD,zE,zF]
    iterate 7
     refine EG rfl rfl ?_
     try simp only [zA,zB,zC,Act.put,zD,zE,zF]
    unfold gP
    simp only [List.drop_succ_cons,List.drop_zero]
    have hBr:Below wr.heap.size wr gK:=il.trans (hP1.mono il.size)
    have HBr:=hid hBr
    have hJv:J (mH L R i j (k-1)) gK:=dh HJ.out HJS.out hBr
    have HKv:=hid (vC.out.trans (dX.of_below (n:=wd.heap.size) (bs:=[Bq,Bi,Bj]) hBr sZ.out.size (fun b hb=>Nat.lt_of_lt_of_le (HLB.out b hb) hsz)))
    have HJv:=hid hJv
    clear hJv hBr q0 q1 q2 q3 q4 q5 g0 g1 g2
    gi_wp2
    go_roundw
    case rel=>exact ⟨k+1,by omega,by omega,aA k,(by rw [Nat.add_sub_cancel,p1];exact HJv.out),HKv.out,HKv.out.1.size⟩
    case measure=>show 6-((k:Int)+1).toNat<6-((k:Int)).toNat;omega
  ·obtain rfl:k=6:=by omega
   gi_wp2
   go_end0
   exact ⟨⟨_,rfl⟩,.inl (by have:=HJS.out;rwa [show 6-1=5 from rfl,Qp] at this)⟩
structure QOk (C:Cs) (L R:List Iv):Prop where
 nl:L.length≤999
 nr:R.length≤999
 cz:CsZ 1000 C
 zl:∀ i,i<L.length→I7 1000 (ah L i)
 zr:∀ j,j<R.length→I7 1000 (ah R j)
theorem Kj (T:TypeId) (n:Nat) (hn:1≤n) (Bq Bi Bj:Nat) (wd:World) (C:Cs) (L R:List Iv) (hQ:QOk C L R) (i j:Nat) (hi:i≤L.length) (hj:j≤R.length) (vl vr:Value) (hvl:gm wd vl L) (eO:gm wd vr R) (hwg:Good wd)
  (w:World) (hw:Below wd.heap.size wd w) (hq:w.heap[Bq]?=some (OA vl vr C)) (hbi:w.heap[Bi]?=some (dO i)) (hbj:w.heap[Bj]?=some (dO j)) :
  Sk T Fence.wide n Tryz.prog 237 #[.pointer (some ⟨Bi,0,none⟩),.pointer (some ⟨Bj,0,none⟩),.pointer (some ⟨Bq,0,none⟩)] (uD C L R i j) (dX wd.heap.size [Bq,Bi,Bj]) (eU L R i j) w:=by
 intro l J Jx W hW hJ _ hY h0
 exact Qt n hn l Bq Bi Bj wd C L R i j hi hj hQ.nl hQ.nr hQ.cz hQ.zl hQ.zr vl vr hvl eO hwg J Jx W (hw.trans (hW.mono hw.size)) hJ hY ((hW.block _ (aa hq)).trans hq) ((hW.block _ (aa hbi)).trans hbi) ((hW.block _ (aa hbj)).trans hbj) h0
end Go.Proofs.YtglncfkoohgdaaaGreatDoor
namespace Go.Proofs.YtglncfkoohgdaaaGreatDoor
open Go.RowKit Go.Shelf
open Go.Lib (decDigits itoa nDigits)
open Go.Lib (hid)
def ot:Option Rat→ByteArray
 | none=>⟨#[]⟩
 | some q=>tx q
structure TabAt (b0:Nat) (W:World) (B:Nat) (r:Nat→Nat) (m n:Nat) (F:Nat→Nat→Option Rat):Prop where
 outer:W.rowIs B 32 m (fun a=>.slice (some ⟨r a,0,none⟩) n n)
 rows:∀ a,a<m→W.rowIs (r a) 33 n (fun b=>.string (ot (F a b)))
 ne:∀ a,a<m→r a≠B
 inj:∀ a a',a<m→a'<m→r a=r a'→a=a'
 base:b0≤B∧∀ a,a<m→b0≤r a
def CF (F:Nat→Nat→Option Rat) (i j:Nat) (t:Option Rat):Nat→Nat→Option Rat:=fun a b=>if a=i∧b=j then t else F a b
theorem Qv (F:Nat→Nat→Option Rat) (i j:Nat):CF F i j (F i j)=F:=by
 funext a b
 unfold CF
 split
 ·rename_i h;rw [h.1,h.2]
 ·rfl
theorem TabAt.lt {b0:Nat} {W:World} {B:Nat} {r:Nat→Nat} {m n:Nat} {F:Nat→Nat→Option Rat} (h:TabAt b0 W B r m n F):B<W.heap.size∧∀ a,a<m→r a<W.heap.size:=⟨h.outer.lt,fun a ha=>(h.rows a ha).lt⟩
theorem TabAt.congr {b0:Nat} {W:World} {B:Nat} {r:Nat→Nat} {m n:Nat} {F G:Nat→Nat→Option Rat} (h:TabAt b0 W B r m n F) (e:∀ a b,a<m→b<n→F a b=G a b):TabAt b0 W B r m n G:=
 ⟨h.outer,fun a ha=>(h.rows a ha).congr (fun b hb=>by rw [e a b ha hb]),h.ne,h.inj,h.base⟩
theorem TabAt.same {b0:Nat} {W W':World} {B:Nat} {r:Nat→Nat} {m n:Nat} {F:Nat→Nat→Option Rat} (h:TabAt b0 W B r m n F) (e:∀ k,k<W.heap.size→W'.heap[k]?=W.heap[k]?):TabAt b0 W' B r m n F:=
 ⟨h.outer.of_block (e _ h.lt.1),fun a ha=>(h.rows a ha).of_block (e _ (h.lt.2 a ha)),h.ne,h.inj,h.base⟩
theorem TabAt.below {b0:Nat} {W W':World} {B:Nat} {r:Nat→Nat} {m n:Nat} {F:Nat→Nat→Option Rat} (h:TabAt b0 W B r m n F) (hb:Below W.heap.size W W'):TabAt b0 W' B r m n F:=h.same hb.block
theorem TabAt.put {b0:Nat} {W:World} {B:Nat} {r:Nat→Nat} {m n:Nat} {F:Nat→Nat→Option Rat} (h:TabAt b0 W B r m n F) {i j:Nat} (hi:i<m) (t:Option Rat):TabAt b0 (W.setCell ⟨r i,j,none⟩ (.string (ot t))) B r m n (CF F i j t):=by
 refine ⟨h.outer.setOther (Ne.symm (h.ne i hi)) _,fun a ha=>?_,h.ne,h.inj,h.base⟩
 by_cases e:a=i
 ·subst e
  refine ((h.rows a ha).set j (.string (ot t))).congr (fun b hb=>?_)
  unfold CF
  by_cases e:b=j
  ·simp [e]
  ·simp [e]
 ·refine ((h.rows a ha).setOther (fun e'=>e (h.inj a i ha hi e')) _).congr (fun b hb=>?_)
  unfold CF
  rw [if_neg (fun h'=>e h'.1)]
theorem Kk {w w1 w2:World} {row:Option Nat} (h:Below w.heap.size w w1) (k:w1.grownBy w2 row):w.grownBy w2 row:=
 ⟨k.os.trans h.os,k.tape.trans h.tape,k.output.trans h.output,Nat.le_trans h.size k.size,fun j hj hne=>(k.block j (Nat.lt_of_lt_of_le hj h.size) hne).trans (h.block j hj)⟩
theorem jd {w w1:World} (row:Option Nat) (h:Below w.heap.size w w1):w.grownBy w1 row:=⟨h.os,h.tape,h.output,h.size,fun j hj _=>h.block j hj⟩
theorem bK (w:World) (k j:Nat) (v:Value):w.grownBy (w.setCell ⟨k,j,none⟩ v) (some k):=
 ⟨rfl,rfl,rfl,by simp [World.setCell],fun i _ hne=>by
  show (w.heap.modify k _)[i]?=_
  rw [Array.getElem?_modify,if_neg (fun e=>hne (by rw [e]))]⟩
theorem ad5 (q:Rat):(tx q).toList.isEmpty=false:=by
 have h:=bU q
 unfold gN at h
 have h2:=vV q
 rw [←h] at h2
 cases hh:(tx q).toList with
 | nil=>exact absurd hh (by simpa using h2)
 | cons a b=>rfl
theorem CG {w:World} (b0 B:Nat) (r:Nat→Nat) (m n:Nat) (F:Nat→Nat→Option Rat) (i j:Nat) (hi:i<m) (hj:j<n) (x:Rat) (hx:Sz 1000000 x) (hF:∀ y,F i j=some y→Sz 1000000 y) (hT:TabAt b0 w B r m n F) (hw:Good w) :
  Calls Tryz.prog 190 #[.slice (some ⟨B,0,none⟩) m m,.int .i64 (i:Int),.int .i64 (j:Int),.string (tx x)] w fun e w'=>(∃ v,e=.returned v)∧TabAt b0 w' B r m n (CF F i j (o9 (F i j) x))∧w.grownBy w' (some (r i)):=by
 have HT:=hid hT
 have c0:=hT.outer.cell hi
 have c1:=(hT.rows i hi).cell hj
 have lB:=hT.lt.1
 have lr:=hT.lt.2 i hi
 have f1:=(hT.rows i hi).frozen j
 have i1:(0:Int)≤(i:Int):=by omega
 have i2:(i:Int)<(m:Int):=by omega
 have j1:(0:Int)≤(j:Int):=by omega
 have j2:(j:Int)<(n:Int):=by omega
 obtain ⟨R,hR⟩ : ∃ R,R=r i:=⟨_,rfl⟩
 have HR:=hid hR
 rw [←hR] at c0 c1 lr f1
 rw [←hR]
 clear hT hR
 obtain ⟨t,ht⟩ : ∃ t,t=F i j:=⟨_,rfl⟩
 have ZH:=hid ht
 rw [←ht] at c1 hF
 rw [←ht]
 have HC:=hid (fun y (hy:Sz 1000000 y) w' (hg:Good w')=>rq x y (hx.mono (by decide)) (hy.mono (by decide)) w' hg)
 cases t with
 | none =>
  obtain ⟨e,he,hee⟩ : ∃ e:ByteArray,e=⟨#[]⟩∧e.toList.isEmpty=true:=⟨_,rfl,by simp⟩
  replace c1:w.cell? ⟨R,j,none⟩=some (.string ⟨#[]⟩):=c1
  rw [←he] at c1
  clear he
  have fin:∀ v,v=.string (tx x)→TabAt b0 (w.setCell ⟨R,j,none⟩ v) B r m n (CF F i j (o9 none x))∧w.grownBy (w.setCell ⟨R,j,none⟩ v) (some R):=fun v hv=>by
   rw [hv,HR.out]
   exact ⟨HT.out.put hi (some x),bK _ _ _ _⟩
  have FIN:=hid fin
  clear fin ht hF HC ZH
  generalize tx x=s at *
  go_enter Tryz.func190,Tryz.ntmps190
  go_wp2
  go_end0
  exact ⟨⟨_,rfl⟩,FIN.out _ rfl⟩
 | some y =>
  replace c1:w.cell? ⟨R,j,none⟩=some (.string (tx y)):=c1
  have d0:=ad5 y
  have Ep:=hid (HC.out y (hF y rfl) w hw)
  by_cases hxy:x<y
  ·have d1:decide (dx x y<0)=true:=decide_eq_true (jV.2 hxy)
   have fin:∀ w1 v,Below w.heap.size w w1→v=.string (tx x)→TabAt b0 (w1.setCell ⟨R,j,none⟩ v) B r m n (CF F i j (o9 (some y) x))∧w.grownBy (w1.setCell ⟨R,j,none⟩ v) (some R):=fun w1 v hb hv=>by
    have e:o9 (some y) x=some x:=by unfold o9;exact if_pos hxy
    rw [hv,HR.out,e]
    exact ⟨(HT.out.below hb).put hi (some x),Kk hb (bK _ _ _ _)⟩
   have FIN:=hid fin
   unfold RV at Ep
   clear fin ht hF HC ZH hxy
   generalize tx x=s at *
   generalize tx y=s2 at *
   generalize dx x y=cc at *
   go_enter Tryz.func190,Tryz.ntmps190
   go_wp2_with fail
   refine Ep.out.mono ?_
   rintro e w1 ⟨rfl,hb1⟩
   have c0:=(hb1.cell (p:=⟨B,i,none⟩) lB).trans c0
   have c1:=(hb1.cell (p:=⟨R,j,none⟩) lr).trans c1
   have f1:=(World.frozen?_of_block (a:=⟨R,j,none⟩) (hb1.block R lr)).trans f1
   go_wp2
   go_end0
   exact ⟨⟨_,rfl⟩,FIN.out _ _ hb1 rfl⟩
  ·have d1:decide (dx x y<0)=false:=decide_eq_false (fun h=>hxy (jV.1 h))
   have fin:∀ w1,Below w.heap.size w w1→TabAt b0 w1 B r m n (CF F i j (o9 (some y) x))∧w.grownBy w1 (some R):=fun w1 hb=>by
    have e:o9 (some y) x=F i j:=(if_neg hxy:(if x<y then some x else some y)=some y).trans ZH.out
    rw [e,Qv]
    exact ⟨HT.out.below hb,jd _ hb⟩
   have FIN:=hid fin
   unfold RV at Ep
   clear fin ht hF HC ZH hxy
   generalize tx x=s at *
   generalize tx y=s2 at *
   generalize dx x y=cc at *
   go_enter Tryz.func190,Tryz.ntmps190
   go_wp2_with fail
   refine Ep.out.mono ?_
   rintro e w1 ⟨rfl,hb1⟩
   go_wp2
   go_end0
   exact ⟨⟨_,rfl⟩,FIN.out _ hb1⟩
structure MU (b0:Nat) (W:World) (B:Nat) (r:Nat→Nat) (m n k:Nat):Prop where
 outer:W.rowIs B 32 m (fun a=>if a<k then .slice (some ⟨r a,0,none⟩) n n else .slice none 0 0)
 rows:∀ a,a<k→W.rowIs (r a) 33 n (fun _=>.string ⟨#[]⟩)
 ne:∀ a,a<k→r a≠B
 inj:∀ a a',a<k→a'<k→r a=r a'→a=a'
 base:b0≤B∧∀ a,a<k→b0≤r a
theorem MU.step {b0:Nat} {W:World} {B:Nat} {r:Nat→Nat} {m n k:Nat} (h:MU b0 W B r m n k) (hk:k<m) (hb:b0≤W.heap.size) :
  MU b0 ((W.setCell ⟨B,k,none⟩ (.slice (some ⟨W.heap.size,0,none⟩) n n)).alloc (.cells (madeCells #[.string ⟨#[]⟩] n) 33)) B (fun a=>if a=k then W.heap.size else r a) m n (k+1):=by
 have hlB:=h.outer.lt
 have hlr:∀ a,a<k→r a<W.heap.size:=fun a ha=>(h.rows a ha).lt
 refine ⟨?_,?_,?_,?_,?_⟩
 ·refine ((h.outer.set k _).alloc _).congr (fun a ha=>?_)
  by_cases e:a=k
  ·subst e;simp
  ·rw [if_neg e,if_neg e]
   by_cases h1:a<k
   ·rw [if_pos h1,if_pos (by omega)]
   ·rw [if_neg h1,if_neg (by omega)]
 ·intro a ha
  by_cases e:a=k
  ·subst e
   rw [if_pos rfl]
   have h1:=World.rowIs_made (W.setCell ⟨B,a,none⟩ (.slice (some ⟨W.heap.size,0,none⟩) n n)) (.string ⟨#[]⟩) n 33
   have h2:(W.setCell ⟨B,a,none⟩ (.slice (some ⟨W.heap.size,0,none⟩) n n)).heap.size=W.heap.size:=by simp [World.setCell]
   rw [h2] at h1
   exact h1
  ·rw [if_neg e]
   exact ((h.rows a (by omega)).setOther (by show r a≠B;exact h.ne a (by omega)) _).alloc _
 ·intro a ha
  by_cases e:a=k
  ·rw [if_pos e];omega
  ·rw [if_neg e];exact h.ne a (by omega)
 ·intro a a' ha ha' he
  by_cases e:a=k
  ·by_cases e':a'=k
   ·rw [e,e']
   ·rw [if_pos e,if_neg e'] at he
    have:=hlr a' (by omega)
    omega
  ·by_cases e':a'=k
   ·rw [if_neg e,if_pos e'] at he
    have:=hlr a (by omega)
    omega
   ·rw [if_neg e,if_neg e'] at he
    exact h.inj a a' (by omega) (by omega) he
 ·refine ⟨h.base.1,fun a ha=>?_⟩
  by_cases e:a=k
  ·rw [if_pos e];exact hb
  ·rw [if_neg e];exact h.base.2 a (by omega)
theorem MU.done {b0:Nat} {W:World} {B:Nat} {r:Nat→Nat} {m n:Nat} (h:MU b0 W B r m n m):TabAt b0 W B r m n (fun _ _=>none):=
 ⟨h.outer.congr (fun _ ha=>if_pos ha),h.rows,h.ne,h.inj,h.base⟩
theorem Ut {w:World} (vl vr:Value) (C:Cs) (L R:List Iv) (hn:L.length≤999) (hm:R.length≤999) (hvl:gm w vl L) (eO:gm w vr R) :
  Calls Tryz.prog 188 #[uC vl vr C] w fun e w'=>∃ B r,e=.returned (.slice (some ⟨B,0,none⟩) (L.length+1) (L.length+1))∧TabAt w.heap.size w' B r (L.length+1) (R.length+1) (fun _ _=>none)∧Below w.heap.size w w':=by
 obtain ⟨pl,cl,rfl,hcl,hcm⟩:=hvl.slice
 obtain ⟨pr,cr,rfl,gZ,hcm2⟩:=eO.slice
 unfold maxLen at hcm hcm2
 unfold uC
 generalize tx C.ch=t1 at *
 generalize tx C.mi=t2 at *
 generalize tx C.ga=t3 at *
 generalize tx C.re=t4 at *
 obtain ⟨m,hm1⟩ : ∃ m,m=L.length+1:=⟨_,rfl⟩
 obtain ⟨n,hn1⟩ : ∃ n,n=R.length+1:=⟨_,rfl⟩
 have w1:IntKind.i64.wrap ((L.length:Int)+1)=(m:Int):=by rw [hm1];exact IntWalk.i64_in _ (by omega)
 have w2:IntKind.i64.wrap ((R.length:Int)+1)=(n:Int):=by rw [hn1];exact IntWalk.i64_in _ (by omega)
 have af2:=run_make_row' (P:=Tryz.prog) 185 32 (.slice none 0 0) 24 rfl (by kernel_rfl) rfl .i64 .i64 m (by omega) (by omega)
 have ahn:=run_make_row' (P:=Tryz.prog) 32 33 (.string ⟨#[]⟩) 16 rfl (by kernel_rfl) rfl .i64 .i64 n (by omega) (by omega)
 have ag8:m≤1000:=by omega
 rw [←hm1,←hn1]
 clear hvl eO hm1 hn1 hcl gZ hn hm
 go_enter Tryz.func188,Tryz.ntmps188
 go_upto_region 1 with fail
 obtain ⟨wP,bX⟩ : ∃ wP,wP=w.alloc (Obj.cells #[.slice pl L.length cl,.slice pr R.length cr,.string t1,.string t2,.string t3,.string t4] 122):=⟨_,rfl⟩
 have hsP:wP.heap.size=w.heap.size+1:=by rw [bX];simp
 have eT:Below w.heap.size w wP:=by rw [bX];exact ae _ _
 have hpq:wP.heap[w.heap.size]?=some (.cells #[.slice pl L.length cl,.slice pr R.length cr,.string t1,.string t2,.string t3,.string t4] 122 (0,0)):=by rw [bX];exact World.alloc_heap_new _ _
 rw [←bX]
 clear bX
 obtain ⟨q0,_,_,_,_,_⟩:=aW hpq
 go_wp2_with fail
 obtain ⟨wA,aS⟩ : ∃ wA,wA=wP.alloc (Obj.cells (madeCells #[.slice none 0 0] m) 32):=⟨_,rfl⟩
 obtain ⟨B,hB⟩ : ∃ B,B=w.heap.size+1:=⟨_,rfl⟩
 have aP:Below w.heap.size w wA:=by rw [aS];exact eT.trans ((ae _ _).mono eT.size)
 have HP0:=hid (show MU w.heap.size wA B (fun _=>0) m n 0 from ⟨by
  rw [aS,hB,←hsP]
  exact (World.rowIs_made wP (.slice none 0 0) m _).congr (fun a _=>by simp),fun a ha=>absurd ha (Nat.not_lt_zero _),fun a ha=>absurd ha (Nat.not_lt_zero _),fun a _ ha=>absurd ha (Nat.not_lt_zero _),by omega,fun a ha=>absurd ha (Nat.not_lt_zero _)⟩)
 have kI:wA.heap[w.heap.size]?=some (.cells #[.slice pl L.length cl,.slice pr R.length cr,.string t1,.string t2,.string t3,.string t4] 122 (0,0)):=by
  rw [aS]
  exact ((ae _ _).block _ (lt_of_some hpq)).trans hpq
 rw [←aS]
 try rw [hsP]
 rw [←hB]
 have mG:=hid kI
 clear aS hsP eT hpq q0 kI af2 w1 hB
 go_loopw [12] (fun iv wr=>∃ (k:Nat) (r:Nat→Nat),k≤m∧iv=.int .i64 (k:Int)∧MU w.heap.size wr B r m n k∧Below w.heap.size w wr∧wr.heap[w.heap.size]?=some (.cells #[.slice pl L.length cl,.slice pr R.length cr,.string t1,.string t2,.string t3,.string t4] 122 (0,0))) (fun iv _=>m-(intOf iv).toNat)
 case atStart=>exact ⟨0,_,Nat.zero_le _,rfl,HP0.out,aP,mG.out⟩
 case round =>
  clear HP0 mG aP
  obtain ⟨k,r,YU,rfl,hP,hbr,hpq⟩:=hrel
  by_cases hk:k<m
  ·have hkn:decide ((k:Int)<(m:Int))=true:=decide_eq_true (by omega)
   have i1:(0:Int)≤(k:Int):=by omega
   have i2:(k:Int)<(m:Int):=by omega
   have t5:IntKind.i64.wrap ((k:Int)+1)=(k:Int)+1:=IntWalk.i64_in _ (by omega)
   obtain ⟨_,q1,_,_,_,_⟩:=aW hpq
   have aho:∀ o,(wr.alloc o).cell? ⟨B,k,none⟩=some (.slice none 0 0):=fun o=>by
    have:=(hP.outer.alloc o).cell hk
    simpa using this
   have acf:∀ o,(wr.alloc o).frozen? ⟨B,k,none⟩=false:=fun o=>(hP.outer.alloc o).frozen k
   have ZI:=hid (hP.step hk hbr.size)
   have dY:=hid hbr
   have hlB:=hP.outer.lt
   have hlq:w.heap.size≠B:=by
    rintro rfl
    obtain ⟨c,h1,h2,h3⟩:=hP.outer
    rw [hpq] at h1
    cases h1
   have mG:=hid hpq
   have hB0:=hP.base.1
   clear hP hbr hpq
   go_wp2
   go_roundw
   case rel =>
    refine ⟨k+1,_,hk,aA k,ZI.out,?_,?_⟩
    ·have h1:=dY.out.setCell (p:=⟨B,k,none⟩) hB0 (.slice (some ⟨wr.heap.size,0,none⟩) n n)
     exact h1.trans ((ae _ _).mono h1.size)
    ·refine ((ae _ _).block _ ?_).trans ?_
     ·have:=lt_of_some mG.out
      simpa [World.setCell] using this
     ·rw [Below.heap_setCell _ _ _ _ hlq]
      exact mG.out
   case measure=>show m-((k:Int)+1).toNat<m-((k:Int)).toNat;omega
  ·obtain rfl:k=m:=by omega
   have hkn:decide ((k:Int)<(k:Int))=false:=decide_eq_false (by omega)
   have HF:=hid hP.done
   clear hpq hP
   go_wp2
   go_ret
   exact ⟨_,_,rfl,HF.out,hbr⟩
end Go.Proofs.YtglncfkoohgdaaaGreatDoor
namespace Go.Proofs.YtglncfkoohgdaaaGreatDoor
open Go.RowKit Go.Shelf
theorem wpIn_loop_ghost {F:Fence} {n:Nat} {P:Program} {Q:Exit→Act→World→Prop} {a:Act} {w:World} {c:Code} (I:Nat→Act→World→Prop) (m:Nat) (h0:I m a w)
  (round:∀ g a w,I g a w→c.wpIn F n P (Exit.then (fun a' w'=>∃ g',g'<g∧I g' a' w') Q) a w):(Code.loop c).wpIn F n P Q a w:=by
 refine wpIn_loop_rounds (m+1) ?_
 have key:∀ m g a w,g≤m→I g a w→Code.roundsIn F n P c Q (m+1) a w:=by
  intro m
  induction m with
  | zero =>
   intro g a w hg hI
   refine wpIn_mono (round g a w hI) ?_
   intro e a' w' h
   cases e with
   | normal=>obtain ⟨g',h1,_⟩:=h;omega
   | _=>exact h
  | succ m ih =>
   intro g a w hg hI
   refine wpIn_mono (round g a w hI) ?_
   intro e a' w' h
   cases e with
   | normal=>obtain ⟨g',h1,h2⟩:=h;exact ih g' a' w' (by omega) h2
   | _=>exact h
 exact key m m a w (Nat.le_refl _) h0
def CJ (D:Nat):Deferred:={ target:=.collected D,args:=#[] }
structure Marks (b:Nat) (W:World) (ds:List Nat):Prop where
 all:∀ D∈ds,b≤D∧W.heap[D]?=some (.deferred (some []))
 nd:ds.Nodup
theorem Marks.nil (b:Nat) (W:World):Marks b W []:=⟨fun _ h=>absurd h List.not_mem_nil,List.nodup_nil⟩
theorem Marks.lt {b:Nat} {W:World} {ds:List Nat} (h:Marks b W ds):∀ D∈ds,D<W.heap.size:=fun D hD=>(Array.getElem?_eq_some_iff.1 (h.all D hD).2).1
theorem Marks.same {b:Nat} {W W':World} {ds:List Nat} (h:Marks b W ds) (e:∀ D∈ds,W'.heap[D]?=W.heap[D]?):Marks b W' ds:=⟨fun D hD=>⟨(h.all D hD).1,(e D hD).trans (h.all D hD).2⟩,h.nd⟩
theorem Marks.below {b:Nat} {W W':World} {ds:List Nat} (h:Marks b W ds) (hb:Below W.heap.size W W'):Marks b W' ds:=h.same fun D hD=>hb.block D (h.lt D hD)
theorem Marks.cons {b:Nat} {W:World} {ds:List Nat} {D:Nat} (h:Marks b W ds) (h1:b≤D) (h2:W.heap[D]?=some (.deferred (some []))) (h3:D∉ds):Marks b W (D :: ds):=
 ⟨fun E hE=>by
  rcases List.mem_cons.1 hE with rfl | hE
  ·exact ⟨h1,h2⟩
  ·exact h.all E hE,List.nodup_cons.2 ⟨h3,h.nd⟩⟩
def Shut (b:Nat) (W W':World):Prop:=Below b W W'∧(∀ (k:Nat) (o:Obj),W.heap[k]?=some o→o.isCells=true→W'.heap[k]?=some o)
theorem Shut.refl (b:Nat) (W:World):Shut b W W:=⟨Below.refl _ _,fun _ _ h _=>h⟩
theorem Shut.trans {b:Nat} {A B C:World} (h:Shut b A B) (k:Shut b B C):Shut b A C:=⟨h.1.trans k.1,fun i o h1 h2=>k.2 i o (h.2 i o h1 h2) h2⟩
theorem E9 (b D:Nat) (W:World) (o:Obj) (h:b≤D):Below b W (W.putObj D o):=by
 refine ⟨rfl,rfl,rfl,by simp [World.putObj],fun k hk=>?_⟩
 simp only [World.putObj]
 rw [Array.getElem?_setIfInBounds,if_neg (by omega)]
theorem Shut.put {b D:Nat} {W:World} {l:Option (List Deferred)} {l':Option (List Deferred)} (h:b≤D) (hD:W.heap[D]?=some (.deferred l)):Shut b W (W.putObj D (.deferred l')):=by
 refine ⟨E9 b D W _ h,fun k o h1 h2=>?_⟩
 have hne:D≠k:=by
  rintro rfl
  rw [hD] at h1
  cases h1
  cases h2
 simp only [World.putObj]
 rw [Array.getElem?_setIfInBounds,if_neg hne]
 exact h1
theorem ic {F:Fence} {n:Nat} {P:Program} {fn:Func} {tmps:Array Value} {R:Ending→World→Prop} {b:Nat}:∀ (ds:List Nat) (W:World),Marks b W ds→(∀ W',Shut b W W'→LeavesIn F n P fn tmps R [] .returning W')→LeavesInM F n P fn tmps R (ds.map CJ) .returning W
 | [],W,_,H=>H W (Shut.refl _ _)
 | D :: ds,W,hM,H=>by
  obtain ⟨h1,h2⟩:=hM.all D List.mem_cons_self
  have hs:Shut b W (W.putObj D (.deferred none)):=Shut.put h1 h2
  refine ⟨by simp,.inl ⟨D,_,rfl,run_takeDeferred h2,ic ds _ ⟨fun E hE=>?_,(List.nodup_cons.1 hM.nd).2⟩ (fun W' h=>H W' (hs.trans h))⟩⟩
  obtain ⟨k1,k2⟩:=hM.all E (List.mem_cons_of_mem _ hE)
  refine ⟨k1,?_⟩
  have hne:D≠E:=by
   rintro rfl
   exact (List.nodup_cons.1 hM.nd).1 hE
  simp only [World.putObj]
  rw [Array.getElem?_setIfInBounds,if_neg hne]
  exact k2
theorem TabAt.shut {b0 b:Nat} {W W':World} {B:Nat} {r:Nat→Nat} {m n:Nat} {F:Nat→Nat→Option Rat} (h:TabAt b0 W B r m n F) (hs:Shut b W W'):TabAt b0 W' B r m n F:=by
 refine ⟨?_,fun a ha=>?_,h.ne,h.inj,h.base⟩
 ·obtain ⟨c,h1,h2,h3⟩:=h.outer
  exact ⟨c,hs.2 _ _ h1 rfl,h2,h3⟩
 ·obtain ⟨c,h1,h2,h3⟩:=h.rows a ha
  exact ⟨c,hs.2 _ _ h1 rfl,h2,h3⟩
def rH (C:Cs) (L R:List Iv) (i j:Nat) (t0:Option Rat) (p:Nat):Option Rat:=dP C L R (um C L R) i j ((eU L R i j).take p) t0
theorem xB {C:Cs} {L R:List Iv} {T:Nat→Nat→Option Rat} {i j:Nat}:∀ (l l':List Nat) (t:Option Rat),dP C L R T i j (l++l') t=dP C L R T i j l' (dP C L R T i j l t)
 | [],_,_=>rfl
 | _ :: l,l',_=>xB l l' _
theorem pU {C:Cs} {L R:List Iv} {T:Nat→Nat→Option Rat} {i j:Nat}:∀ (l:List Nat) (t:Option Rat),dP C L R T i j (l.filter fun k=>bF L R k i j) t=dP C L R T i j l t
 | [],_=>rfl
 | k :: l,t=>by
  by_cases h:bF L R k i j=true
  ·rw [List.filter_cons_of_pos (by exact h)]
   exact pU l _
  ·rw [List.filter_cons_of_neg (by exact h)]
   show _=dP C L R T i j l (if bF L R k i j then _ else t)
   rw [if_neg h]
   exact pU l _
theorem rJ {L R:List Iv} {i j k:Nat} (h:k∈eU L R i j):k∈kinds∧bF L R k i j=true:=by
 unfold eU at h
 exact List.mem_filter.1 h
theorem Fa (C:Cs) (L R:List Iv) (i j:Nat) (t0:Option Rat) {p:Nat} (h:p<(eU L R i j).length):rH C L R i j t0 (p+1)=o9 (rH C L R i j t0 p) (bI C L R (gD (eU L R i j)[p] i) (iD (eU L R i j)[p] j)+bY C L R (eU L R i j)[p] i j):=by
 unfold rH
 rw [List.take_succ_eq_append_getElem h,xB]
 show (if bF L R (eU L R i j)[p] i j then _ else _)=_
 rw [if_pos (rJ (List.getElem_mem h)).2]
 rfl
theorem Kl {L R:List Iv}:eU L R L.length R.length=[]:=by
 unfold eU
 rw [List.filter_eq_nil_iff]
 intro k hk
 unfold kinds at hk
 simp only [List.mem_cons,List.not_mem_nil,or_false] at hk
 unfold bF
 rcases hk with rfl | rfl | rfl | rfl | rfl <;> simp
def t0Q (L R:List Iv) (i j:Nat):Option Rat:=if i=L.length∧j=R.length then some 0 else none
theorem CK {C:Cs} {L R:List Iv} {i j:Nat} (hi:i≤L.length) (hj:j≤R.length):rH C L R i j (t0Q L R i j) (eU L R i j).length=some (bI C L R i j):=by
 rw [←yt hi hj]
 unfold t0Q rH
 by_cases h:i=L.length∧j=R.length
 ·obtain ⟨rfl,rfl⟩:=h
  rw [if_pos ⟨rfl,rfl⟩,Kl,sN]
  rfl
 ·rw [if_neg h,List.take_length,wQ hi hj h]
  exact pU kinds none
def xC (C:Cs) (L R:List Iv) (i j:Nat) (t:Option Rat):Nat→Nat→Option Rat:=fun a b=>if a=i∧b=j then t else if i<a∨(a=i∧j<b) then some (bI C L R a b) else none
def ni (C:Cs) (L R:List Iv) (i j:Nat):Nat→Nat→Option Rat:=fun a b=>if i<a∨(a=i∧j≤b) then some (bI C L R a b) else none
theorem CL (C:Cs) (L R:List Iv) (i j:Nat) (t t':Option Rat):CF (xC C L R i j t) i j t'=xC C L R i j t':=by
 funext a b
 unfold CF xC
 by_cases h:a=i∧b=j
 ·rw [if_pos h,if_pos h]
 ·rw [if_neg h,if_neg h,if_neg h]
theorem Qw (C:Cs) (L R:List Iv) (i j:Nat):xC C L R i j none=ni C L R i (j+1):=by
 funext a b
 unfold xC ni
 by_cases h:a=i∧b=j
 ·rw [if_pos h,if_neg (by omega)]
 ·rw [if_neg h]
  rfl
theorem yL (C:Cs) (L R:List Iv) (i j:Nat):xC C L R i j (some (bI C L R i j))=ni C L R i j:=by
 funext a b
 unfold xC ni
 by_cases h:a=i∧b=j
 ·rw [if_pos h,if_pos (by omega),h.1,h.2]
 ·rw [if_neg h]
  by_cases h2:i<a∨(a=i∧j<b)
  ·rw [if_pos h2,if_pos (by omega)]
  ·rw [if_neg h2,if_neg (by omega)]
theorem AU (C:Cs) (L R:List Iv) (i j:Nat) (t:Option Rat):xC C L R i j t i j=t:=if_pos ⟨rfl,rfl⟩
theorem zX (C:Cs) (L R:List Iv) {i j a b:Nat} (t:Option Rat) (h:i≤a∧j≤b∧i+j<a+b):xC C L R i j t a b=some (bI C L R a b):=by
 unfold xC
 rw [if_neg (by omega),if_pos (by omega)]
def AxT (a:Act) (B p1 p2 j1 j2:Nat) (C:Cs) (L R:List Iv) (i j k:Nat) (a':Act) (W:World):Prop:=
 ∃ B6,B≤B6∧W.heap[B6]?=some (.cells #[.int .i64 (k:Int),.int .i64 (i:Int),.int .i64 (j:Int)] 57 (0,0)) ∧
  a'={ tmps:=(((a.tmps.setIfInBounds p1 (oF k i j)).setIfInBounds p2 (.string (tx (bY C L R k i j)))).setIfInBounds j1 (.pointer (some ⟨B6,0,none⟩))).setIfInBounds j2 (.string (tx (bY C L R k i j))),defers:=[] }
theorem eZ {F:Fence} {n:Nat} {P:Program} {g:Operand} {ps:Array Tmp} {assign body:Code} {Q:Exit→Act→World→Prop} {a:Act} {w:World} (p1 p2 j1 j2:Nat) (C:Cs) (L R:List Iv) (i j:Nat)
  (hro:F.round=none) (h1:1≤n) {gf:Nat} {lb:Array Value} (hg:a.eval g=.func (.func gf) #[] lb) (hFg:F.fn gf) (eg:∀ args w,(callFunc gf args).run P w=.ok (.enter gf args) w)
  {Kp:World→World→Prop} {w0:World} {T:TypeId} (hseq:Sk T F (n-1) P gf lb (uD C L R i j) Kp (eU L R i j) w0)
  (hKt:∀ {A B C:World},Kp A B→Kp B C→Kp A C) (hKb:∀ (W:World) (l:Nat) (o o':Obj),w.heap.size≤l→W.heap[l]?=some o→o.isCells=false→o.isWalk=false→Kp W (W.putObj l o')) (hb0:Below w0.heap.size w0 w) (hps:∀ k,(uD C L R i j k).size=ps.size)
  (I:Nat→World→Prop) (Ix:Code→Nat→World→Prop) (hI:kQ T w.heap.size I) (hIx:∀ c,kQ T w.heap.size (Ix c)) (h0:I 0 w)
  (hassign:∀ (l p k:Nat) (_:p<(eU L R i j).length) (_:k∈kinds) (W:World) (K:Act→World→Prop),I p W→(∀ a' W',KeepsFrom w.heap.size W W'→Kp W W'→I p W'→AxT a w.heap.size p1 p2 j1 j2 C L R i j k a' W'→K a' W') →
   assign.wpIn (F.inRound l) (n-1-1) P (Exit.then K (fun _ _ _=>False)) { tmps:=(ps.zip (uD C L R i j k)).foldl (fun t (p,v)=>t.setIfInBounds p v) a.tmps,defers:=[] } W)
  (hbody:∀ (l p k:Nat) (hp:p<(eU L R i j).length) (_:(eU L R i j)[p]=k) (_:k∈kinds) (_:bF L R k i j=true) (a':Act) (W:World),w.heap.size≤l→I p W→AxT a w.heap.size p1 p2 j1 j2 C L R i j k a' W→body.wpIn (F.inRound l) (n-1-1) P (NT w.heap.size Kp I Ix p W) a' W)
  (hdone:∀ (Dk:Nat) (W:World),w.heap.size≤Dk→I (eU L R i j).length W→W.heap[Dk]?=some (.deferred (some []))→Q .normal { a with defers:={ target:=.collected Dk,args:=#[] } :: a.defers } W)
  (hstop:∀ (Dk:Nat) (c:Code) (k:Nat) (W:World),w.heap.size≤Dk→k<(eU L R i j).length→Ix c k W→W.heap[Dk]?=some (.deferred (some []))→c.wpIn F n P Q { a with defers:={ target:=.collected Dk,args:=#[] } :: a.defers } W) :
  (Code.rangeFunc g ps assign body).wpIn F n P Q a w:=by
 refine vQ (Q:=Q) hro h1 hg hFg eg hseq hKt hKb hb0 hps I Ix hI hIx h0 (fun p a' W=>∃ h:p<(eU L R i j).length,AxT a w.heap.size p1 p2 j1 j2 C L R i j (eU L R i j)[p] a' W)
  (fun k a' _ X Y row hs hg hr=>by obtain ⟨h,B6,h1,h2,h3⟩:=hs;exact ⟨h,B6,h1,iR hg hr h2,h3⟩) ?_ ?_ ?_ ?_
 ·intro l p hp W K hi hK
  exact hassign l p _ hp (rJ (List.getElem_mem hp)).1 W K hi (fun a' W' k1 k2 k3 k4=>hK a' W' k1 k2 k3 ⟨hp,k4⟩)
 ·intro l p hp a' W hl' _ hi ⟨_,hx⟩
  exact hbody l p _ hp rfl (rJ (List.getElem_mem hp)).1 (rJ (List.getElem_mem hp)).2 a' W hl' hi hx
 ·intro Dk W hD hi hK
  exact hdone Dk W hD hi hK
 ·intro Dk c k W hD hk hi hK
  exact hstop Dk c k W hD hk hi hK
def Fb (B m:Nat):Obj:=.cells #[.slice (some ⟨B,0,none⟩) m m] 185
structure RInv (w:World) (qo:Obj) (B:Nat) (r:Nat→Nat) (m n bo:Nat) (F:Nat→Nat→Option Rat) (ds:List Nat) (W:World):Prop where
 tab:TabAt w.heap.size W B r m n F
 low:Below w.heap.size w W
 qb:W.heap[w.heap.size]?=some qo
 ob:W.heap[bo]?=some (Fb B m)
 ms:Marks w.heap.size W ds
structure RLt (w:World) (B:Nat) (r:Nat→Nat) (m bo:Nat) (ds:List Nat) (N:Nat):Prop where
 B:B<N
 r:∀ a,a<m→r a<N
 bo:bo<N
 q:w.heap.size<N
 ds:∀ D∈ds,D<N
theorem RInv.rlt {w:World} {qo:Obj} {B:Nat} {r:Nat→Nat} {m n bo:Nat} {F:Nat→Nat→Option Rat} {ds:List Nat} {W:World} (h:RInv w qo B r m n bo F ds W):RLt w B r m bo ds W.heap.size:=
 ⟨h.tab.lt.1,h.tab.lt.2,aa h.ob,(Array.getElem?_eq_some_iff.1 h.qb).1,h.ms.lt⟩
theorem RLt.mono {w:World} {B:Nat} {r:Nat→Nat} {m bo:Nat} {ds:List Nat} {N N':Nat} (h:RLt w B r m bo ds N) (hN:N≤N'):RLt w B r m bo ds N':=
 ⟨Nat.lt_of_lt_of_le h.B hN,fun a ha=>Nat.lt_of_lt_of_le (h.r a ha) hN,Nat.lt_of_lt_of_le h.bo hN,Nat.lt_of_lt_of_le h.q hN,fun D hD=>Nat.lt_of_lt_of_le (h.ds D hD) hN⟩
theorem RInv.keep {w:World} {qo:Obj} {B:Nat} {r:Nat→Nat} {m n bo:Nat} {F:Nat→Nat→Option Rat} {ds:List Nat} {W W':World} {N:Nat} (h:RInv w qo B r m n bo F ds W) (hl:RLt w B r m bo ds N) (hb:Below N W W'):RInv w qo B r m n bo F ds W':=
 ⟨⟨h.tab.outer.of_block (hb.block _ hl.B),fun a ha=>(h.tab.rows a ha).of_block (hb.block _ (hl.r a ha)),h.tab.ne,h.tab.inj,h.tab.base⟩,h.low.trans (hb.mono (Nat.le_of_lt hl.q)),(hb.block _ hl.q).trans h.qb,(hb.block _ hl.bo).trans h.ob,h.ms.same fun D hD=>hb.block _ (hl.ds D hD)⟩
theorem RInv.below {w:World} {qo:Obj} {B:Nat} {r:Nat→Nat} {m n bo:Nat} {F:Nat→Nat→Option Rat} {ds:List Nat} {W W':World} (h:RInv w qo B r m n bo F ds W) (hb:Below W.heap.size W W'):RInv w qo B r m n bo F ds W':=h.keep h.rlt hb
theorem RInv.congr {w:World} {qo:Obj} {B:Nat} {r:Nat→Nat} {m n bo:Nat} {F G:Nat→Nat→Option Rat} {ds:List Nat} {W:World} (h:RInv w qo B r m n bo F ds W) (e:∀ a b,a<m→b<n→F a b=G a b):RInv w qo B r m n bo G ds W:=⟨h.tab.congr e,h.low,h.qb,h.ob,h.ms⟩
theorem TabAt.tu {b0 b1:Nat} {W:World} {B:Nat} {r:Nat→Nat} {m n:Nat} {F:Nat→Nat→Option Rat} (h:TabAt b1 W B r m n F) (hb:b0≤b1):TabAt b0 W B r m n F:=⟨h.outer,h.rows,h.ne,h.inj,Nat.le_trans hb h.base.1,fun a ha=>Nat.le_trans hb (h.base.2 a ha)⟩
theorem RInv.row {w:World} {q2:Array Value} {tq:TypeId} {B:Nat} {r:Nat→Nat} {m n bo:Nat} {F G:Nat→Nat→Option Rat} {ds:List Nat} {W W':World} {i:Nat} (h:RInv w (.cells q2 tq) B r m n bo F ds W) (hi:i<m) (hT:TabAt w.heap.size W' B r m n G) (hg:W.grownBy W' (some (r i))) (hq:tq≠33):RInv w (.cells q2 tq) B r m n bo G ds W':=by
 obtain ⟨c,hc,_⟩:=h.tab.rows i hi
 have hne:∀ (k:Nat) (o:Obj),W.heap[k]?=some o→o≠.cells c 33→W'.heap[k]?=some o:=fun k o ho hno=>by
  refine (hg.block k (Array.getElem?_eq_some_iff.1 ho).1 (fun e=>?_)).trans ho
  cases e
  rw [hc] at ho
  cases ho
  exact hno rfl
 refine ⟨hT,h.low.trans ⟨hg.os,hg.tape,hg.output,hg.size,fun k hk=>hg.block k (by have:=h.low.size;omega) (fun e=>?_)⟩,hne _ _ h.qb (fun e=>by cases e;exact hq rfl),hne _ _ h.ob (fun e=>by cases e),⟨fun D hD=>⟨(h.ms.all D hD).1,hne _ _ (h.ms.all D hD).2 (fun e=>by cases e)⟩,h.ms.nd⟩⟩
 cases e
 have:=h.tab.base.2 i hi
 omega
inductive Seg where
 | k (v:Value):Seg
 | n (m:Nat):Seg
def frU (u:Nat→Value):Nat→Nat→List Value→List Value
 | _,0,r=>r
 | i,n+1,r=>u i :: frU u (i+1) n r
def frS (u:Nat→Value):Nat→List Seg→List Value
 | _,[]=>[]
 | i,.k v :: r=>v :: frS u (i+1) r
 | i,.n m :: r=>frU u i m (frS u (i+m) r)
def Frm (a:Act) (S:List Seg) (ds:List Nat):Prop:=∃ u,a={ tmps:=(frS u 0 S).toArray,defers:=ds.map CJ }
theorem Frm.of {l:List Value} {d:List Deferred} {S:List Seg} {ds:List Nat} (h:frS (fun k=>l.getD k undef) 0 S=l) (hd:d=ds.map CJ):Frm { tmps:=l.toArray,defers:=d } S ds:=⟨_,by rw [h,hd]⟩
theorem nT {w0 w:World} {vs:Array Value} {t:TypeId} (h:Below w0.heap.size w0 w):∃ w' A,w.alloc (Obj.cells vs t)=w'∧w.heap.size=A∧w'.heap[A]?=some (.cells vs t (0,0))∧Below w.heap.size w w'∧Below w0.heap.size w0 w'∧w0.heap.size≤A∧w.heap.size≤A:=
 ⟨_,_,rfl,rfl,World.alloc_heap_new _ _,ae _ _,h.trans ((ae _ _).mono h.size),h.size,Nat.le_refl _⟩
end Go.Proofs.YtglncfkoohgdaaaGreatDoor
