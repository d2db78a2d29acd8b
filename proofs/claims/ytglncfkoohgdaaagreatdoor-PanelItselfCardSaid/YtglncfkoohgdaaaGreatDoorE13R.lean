import Derived.Test.YtglncfkoohgdaaaGreatDoorE12R
import Derived.Test.YtglncfkoohgdaaaGreatDoorStillR
set_option maxRecDepth 100000
set_option maxHeartbeats 8000000
namespace Go.Proofs.YtglncfkoohgdaaaGreatDoor
open Go.RowKit Go.Shelf
open Go.Lib (decDigits itoa nDigits)
open Go.Lib (hid)
attribute [local go_sem] Oper.semAt_some
theorem QC {C:Cs} {L R:List Iv} {i j:Nat} (hi:i≤L.length) (hj:j≤R.length) (h:¬ (i=L.length∧j=R.length)):∃ p0,∃ hl:p0<(eU L R i j).length,(eU L R i j)[p0]=eX C L R i j∧fV C L R i j (eX C L R i j)=true∧∀ q (hq:q<(eU L R i j).length),q<p0→fV C L R i j (eU L R i j)[q]=false:=by
 obtain ⟨h1,h2,_⟩:=lN (C:=C) hi hj h
 have hf:kinds.find? (fV C L R i j)=some (eX C L R i j):=by
  cases hf:kinds.find? (fV C L R i j) with
  | none =>
   rw [List.find?_eq_none] at hf
   exact absurd h2 (hf _ h1)
  | some k=>unfold eX;rw [hf];rfl
 have hc:(eU L R i j).find? (fV C L R i j)=some (eX C L R i j):=by
  unfold eU
  rw [List.find?_filter,←hf]
  congr 1
  funext k
  cases hg:fV C L R i j k with
  | false=>simp
  | true=>rw [lH hg];simp
 obtain ⟨hb,p0,hl,e,hq⟩:=List.find?_eq_some_iff_getElem.1 hc
 exact ⟨p0,hl,e,h2,fun q hql hq'=>by simpa using hq q hq'⟩
theorem Ko {F:Fence} {n:Nat} {P:Program} {fn:Func} {tmps:Array Value} {R:Ending→World→Prop} {D:Nat} {W:World} (h:W.heap[D]?=some (.deferred (some []))) (H:LeavesInM F n P fn tmps R [] .returning (W.putObj D (.deferred none))):LeavesInM F n P fn tmps R [{ target:=.collected D,args:=#[] }] .returning W:=
 ⟨by simp,.inl ⟨D,_,rfl,run_takeDeferred h,H⟩⟩
theorem MV {W wS:World} {q a b c:Obj} (h:wS=(((W.alloc q).alloc a).alloc b).alloc c):Below W.heap.size W wS∧wS.heap.size=W.heap.size+4∧wS.heap[W.heap.size]?=some q∧wS.heap[W.heap.size+1]?=some a∧wS.heap[W.heap.size+2]?=some b∧wS.heap[W.heap.size+3]?=some c:=by
 obtain ⟨h1,h2,h3,h4,h5⟩:=dU (W:=W) (q:=q) (a:=a) (b:=b) rfl
 have e:=World.alloc_heap_new (((W.alloc q).alloc a).alloc b) c
 have hb:=ae (((W.alloc q).alloc a).alloc b) c
 rw [h2] at e
 rw [h]
 refine ⟨h1.trans (hb.mono h1.size),by simp,?_,?_,?_,e⟩
 ·exact dM _ _ h3
 ·exact dM _ _ h4
 ·exact dM _ _ h5
theorem ZL (n:Nat) (vl vr:Value) (C:Cs) (B m i j:Nat) (w:World) (L R:List Iv) (hvl:gm w vl L) (eO:gm w vr R) :
  CallsIn Fence.wide n Tryz.prog 122 #[uC vl vr C,.slice (some ⟨B,0,none⟩) m m,.int .i64 (i:Int),.int .i64 (j:Int)] w fun e w'=>e=.returned (.func (.func 191) #[] #[.pointer (some ⟨w.heap.size,0,none⟩),.pointer (some ⟨w.heap.size+2,0,none⟩),.pointer (some ⟨w.heap.size+3,0,none⟩),.pointer (some ⟨w.heap.size+1,0,none⟩)])∧w'=(((w.alloc (OA vl vr C)).alloc (Fb B m)).alloc (dO i)).alloc (dO j):=by
 obtain ⟨pl,cl,rfl,hcl,hcm⟩:=hvl.slice
 obtain ⟨pr,cr,rfl,gZ,hcm2⟩:=eO.slice
 unfold OA dO uC Fb
 clear hvl eO
 refine callsIn_of_wp Tryz.func122 rfl trivial ?_ rfl
 simp only [Tryz.ntmps122,List.size_toArray,List.length_cons,List.length_nil,Nat.reduceAdd,Nat.reduceSub,Array.replicate_succ,Array.replicate_zero,List.push_toArray,List.append_toArray,List.nil_append,List.cons_append]
 gi_wp2
 go_ret
 exact ⟨rfl,rfl⟩
structure GInv (J:Unit→World→Prop) (C:Cs) (L R:List Iv) (i j:Nat) (w W:World) (bs:List Nat) (Ny l N p:Nat) (W':World):Prop where
 jj:J () W'
 no:∀ q (hq:q<(eU L R i j).length),q<p→fV C L R i j (eU L R i j)[q]=false
 bl:Below W.heap.size W W'
 y:W'.heap[Ny]?=some (.cells #[.func (.yield l) #[] #[]] 240 (0,0))
 s:N≤W'.heap.size
theorem GInv.own {T:TypeId} {J:Unit→World→Prop} {C:Cs} {L R:List Iv} {i j:Nat} {w W:World} {bs:List Nat} {Ny l N:Nat} (hJ:kQ T W.heap.size J) (hW:W.heap.size≤N) (hy:Ny<N):kQ T N (GInv J C L R i j w W bs Ny l N):=by
 intro p X Y row h hg hr
 have hb:Below N X Y:=⟨hg.os,hg.tape,hg.output,hg.size,fun k hk=>hg.block k (by have:=h.s;omega) fun e=>by have:=(hr _ e.symm).1;omega⟩
 exact ⟨hJ () X Y row h.jj hg (fun r e=>⟨by have:=(hr r e).1;omega,(hr r e).2⟩),h.no,h.bl.trans (hb.mono hW),(hb.block _ hy).trans h.y,Nat.le_trans h.s hg.size⟩
theorem pV {T:TypeId} {B:Nat} {J:Unit→World→Prop} (h:kQ T B J) {W W':World} (hs:J () W) (hb:Below W.heap.size W W'):J () W':=
 h () W W' none hs ⟨hb.os,hb.tape,hb.output,hb.size,fun k hk _=>hb.block k hk⟩ (fun r e=>by cases e)
theorem CR (a b:Rat):((tx a).toList == (tx b).toList)=decide (a=b):=by
 rw [Bool.eq_iff_iff,beq_iff_eq,decide_eq_true_eq,Lib.toList_data,Lib.toList_data]
 exact ⟨fun h=>sI (by simpa using h),fun h=>by rw [h]⟩
theorem Ha {n m l l2:Nat} {P:Program} {f:FuncId} {t:Array Value} {a b:Code} {w:World} {R:Ending→World→Prop} (h:RoundIn Fence.wide n P l f t a b w R):RoundIn (Fence.wide.inRound l2) m P l f t a b w R:=⟨h.1,fun c cs _=>h.2 c cs (room_wide _)⟩
theorem UB {T:TypeId} (l Bq Br Bi Bj B m:Nat) (r:Nat→Nat) (b0:Nat) (wd:World) (C:Cs) (L R:List Iv) (i j:Nat) (hi:i≤L.length) (hj:j≤R.length) (hne:¬ (i=L.length∧j=R.length)) (hQ:QSz C L R) (vl vr:Value) (hvl:gm wd vl L) (eO:gm wd vr R) (hw:Good wd)
  (hm:m=L.length+1) (hT:TabAt b0 wd B r m (R.length+1) (fun a b=>some (bI C L R a b))) (J Jx:Unit→World→Prop)
  (W:World) (hbW:Below wd.heap.size wd W) (hJ:kQ T W.heap.size J) (hJx:kQ T W.heap.size Jx)
  (hY:∀ W1,J () W1→YieldAt Fence.wide 8 Tryz.prog l #[oF (eX C L R i j) i j] W1 fun e W'=>e=.returned (.bool false)∧Jx () W'∧KeepsFrom W.heap.size W1 W')
  (hq:W.heap[Bq]?=some (OA vl vr C)) (hbr:W.heap[Br]?=some (Fb B m)) (hbi:W.heap[Bi]?=some (dO i)) (hbj:W.heap[Bj]?=some (dO j)) (h0:J () W) :
  CallsIn Fence.wide 9 Tryz.prog 191 #[.func (.yield l) #[] #[],.pointer (some ⟨Bq,0,none⟩),.pointer (some ⟨Bi,0,none⟩),.pointer (some ⟨Bj,0,none⟩),.pointer (some ⟨Br,0,none⟩)] W fun e W'=>(∃ v,e=.returned v)∧Jx () W':=by
 have HST:=hid (fun W' (hb:Below wd.heap.size wd W')=>Kg 8 vl vr C i j W' L R (hvl.below hb) (eO.below hb))
 have J7:=hid (fun (Bq Bi Bj:Nat) (W':World) (hb:Below wd.heap.size wd W') h1 h2 h3=>Kj T 8 (by decide) Bq Bi Bj wd C L R hQ.ok i j hi hj vl vr hvl eO hw W' hb h1 h2 h3)
 have HGF:=hid (QC (C:=C) hi hj hne)
 obtain ⟨n,hn⟩ : ∃ n,n=R.length+1:=⟨_,rfl⟩
 rw [←hn] at hT
 have Ff:=hQ.ok.nl
 have HNR:=hQ.ok.nr
 have acg:m≤1000:=by omega
 have ach:n≤1000:=by omega
 have HM:=hid (And.intro hm hn)
 have HQ:=hid hQ
 have HTW:=hid (hT.below hbW)
 have HJ:=hid hJ
 have HJX:=hid hJx
 have HY:=hid hY
 have qA:=hid hbW
 have ZM:=hid h0
 obtain ⟨pl,cl,rfl,hcl,hcm⟩:=hvl.slice
 obtain ⟨pr,cr,rfl,gZ,hcm2⟩:=eO.slice
 unfold maxLen at hcm hcm2
 unfold OA at hq
 unfold uC at HST
 generalize tx C.ch=t1 at *
 generalize tx C.mi=t2 at *
 generalize tx C.ga=t3 at *
 generalize tx C.re=t4 at *
 obtain ⟨Ny,hNy⟩ : ∃ Ny,Ny=W.heap.size:=⟨_,rfl⟩
 obtain ⟨wY,hwY⟩ : ∃ wY,wY=W.alloc (.cells #[.func (.yield l) #[] #[]] 240):=⟨_,rfl⟩
 have hbY:Below W.heap.size W wY:=by rw [hwY];exact ae _ _
 have hyY:wY.heap[Ny]?=some (.cells #[.func (.yield l) #[] #[]] 240 (0,0)):=by rw [hwY,hNy];exact World.alloc_heap_new _ _
 have hsY:wY.heap.size=W.heap.size+1:=by rw [hwY];simp
 have UC:=hid hyY
 have UD:=hid hbY
 have HQB:=hid hq
 have HRB:=hid hbr
 have RN:=hid hbi
 have HJB:=hid hbj
 have HNY:=hid hNy
 have HSY:=hid hsY
 have HWY:=hid hwY
 clear hT hJ hJx hY hvl eO hbW hq hbr hbi hbj h0 hQ hm hn hyY hbY hsY hne
 refine callsIn_of_wp_marks Tryz.func191 rfl trivial ?_ rfl
 simp only [Tryz.ntmps191,List.size_toArray,List.length_cons,List.length_nil,Nat.reduceAdd,Nat.reduceSub,Array.replicate_succ,Array.replicate_zero,List.push_toArray,List.append_toArray,List.nil_append,List.cons_append]
 have z0:=bL ((UD.out.block _ (aa RN.out)).trans RN.out)
 have z1:=bL ((UD.out.block _ (aa HJB.out)).trans HJB.out)
 obtain ⟨q0,q1,q2,q3,q4,q5⟩:=aW ((UD.out.block _ (aa HQB.out)).trans HQB.out)
 gi_upto_region 1 with fail
 rw [←hwY,←hNy]
 clear hwY hNy
 gi_wp2_with fail
 refine ⟨trivial,?_⟩
 refine (HST.out wY (qA.out.trans (UD.out.mono qA.out.size))).mono ?_
 rintro e wS ⟨rfl,qV⟩
 obtain ⟨hbS,I5,k1,k2,k3⟩:=dU qV
 have HK:=hid (And.intro k1 (And.intro k2 k3))
 have qE:=hid hbS
 have mF:=hid I5
 have yM:=hid (show Below W.heap.size W wS from UD.out.trans (hbS.mono UD.out.size))
 have HWD:=hid (qA.out.trans (yM.out.mono qA.out.size))
 have HYS:=hid ((hbS.block _ (aa UC.out)).trans UC.out)
 have LD:∀ b∈[wY.heap.size,wY.heap.size+1,wY.heap.size+2],b<wS.heap.size:=by
  intro b hb
  simp only [List.mem_cons,List.not_mem_nil,or_false] at hb
  omega
 have Uy:=hid (show GInv J C L R i j wd W [] Ny l wS.heap.size 0 wS from ⟨pV HJ.out ZM.out yM.out,fun q _ hq=>absurd hq (Nat.not_lt_zero _),yM.out,HYS.out,Nat.le_refl _⟩)
 have HNS:=hid (show Ny<wS.heap.size from aa HYS.out)
 clear qV hbS I5 k1 k2 k3 q0 q1 q2 q3 q4 q5 z0 z1
 gi_wp2
 refine eZ (n:=9) 14 15 6 7 C L R i j rfl (by decide) (gf:=237) (lb:=#[.pointer (some ⟨wY.heap.size+1,0,none⟩),.pointer (some ⟨wY.heap.size+2,0,none⟩),.pointer (some ⟨wY.heap.size,0,none⟩)]) rfl trivial (enters_of Tryz.func237 (by kernel_rfl) rfl)
  (J7.out wY.heap.size (wY.heap.size+1) (wY.heap.size+2) wS HWD.out HK.out.1 HK.out.2.1 HK.out.2.2)
  dX.trans (dX.put HWD.out.size LD) (Below.refl _ _) (fun _=>rfl)
  (GInv J C L R i j wd W [] Ny l wS.heap.size) (fun c (_:Nat) W'=>c=.ret∧Jx () W'∧W.heap.size≤W'.heap.size) (GInv.own HJ.out yM.out.size HNS.out)
  (fun c k X Y row hs hg hr=>⟨hs.1,HJX.out () X Y row hs.2.1 hg (fun r e=>⟨by have:=(hr r e).1;have:=yM.out.size;omega,(hr r e).2⟩),Nat.le_trans hs.2.2 hg.size⟩) Uy.out ?assign ?body ?done ?stop
 case assign =>
  intro l2 p k hp hk W0 K hi0 hK
  have hsz:=hi0.s
  have HI:=hid hi0
  have HKK:=hid hK
  simp only [uD,oF]
  obtain ⟨tc,htc⟩ : ∃ t,t=tx (bY C L R k i j):=⟨_,rfl⟩
  rw [←htc]
  have YT:=hid htc
  clear hi0 hK htc
  gi_wp2
  refine HKK.out _ _ (aM (ae _ _)) (dX.of_below (ae _ _) (Nat.le_trans HWD.out.size hsz) (fun b hb=>Nat.lt_of_lt_of_le (LD b hb) hsz)) ⟨pV HJ.out HI.out.jj (ae _ _),HI.out.no,HI.out.bl.trans ((ae _ _).mono HI.out.bl.size),dM _ _ HI.out.y,by simp;omega⟩ ⟨W0.heap.size,hsz,World.alloc_heap_new _ _,?_⟩
  rw [←YT.out]
  rfl
 case body =>
  rintro l2 p k hp hpk hk ym a' W0 hl2 hinv ⟨B6,hB6,hd6,rfl⟩
  simp only [List.setIfInBounds_toArray,List.set_cons_zero,List.set_cons_succ,oF]
  have eH:=hid hinv
  have vC:=hid (fun W'=>xz k i j hk (by have:=HM.out.1;omega) (by have:=HM.out.2;omega) W')
  unfold oF RV at vC
  have hs0:=hinv.s
  have HD6:=hid hd6
  obtain ⟨g0,g1,g2⟩:=az hd6
  clear hinv hd6
  gi_wp2_with fail
  refine ⟨trivial,?_⟩
  refine (CallsIn.inRound l2 (callsIn_wide.2 (vC.out W0))).mono ?_
  rintro e W1 ⟨rfl,hb1⟩
  obtain ⟨hA1,hA2,hA3⟩:=fU hk ym hi hj
  have hd1:=(hb1.block _ (aa HD6.out)).trans HD6.out
  have lD:=aa hd1
  have UA:=hid (eH.out.bl.trans (hb1.mono eH.out.bl.size))
  have HB0:=hid hb1
  have hyl:=(hb1.block _ (aa eH.out.y)).trans eH.out.y
  have ly:=aa hyl
  have ey:=(one_cell hyl).1
  obtain ⟨g0,g1,g2⟩:=az hd1
  have ack:=(UA.out.block _ (aa HRB.out)).trans HRB.out
  have CP:=(UA.out.block _ (aa RN.out)).trans RN.out
  have CQ:=(UA.out.block _ (aa HJB.out)).trans HJB.out
  have c0:W1.cell? ⟨Br,0,none⟩=some (.slice (some ⟨B,0,none⟩) m m):=(one_cell ack).1
  have c1:=bL CP
  have c2:=bL CQ
  have l0:=aa ack
  have l1:=aa CP
  have l2b:=aa CQ
  have Qy:=hid (HTW.out.below UA.out)
  have lB:=Qy.out.lt.1
  have ea:=Qy.out.outer.cell (i:=gD k i) (by have:=HM.out.1;omega)
  have eb:W1.cell? ⟨r (gD k i),iD k j,none⟩=some (.string (tx (bI C L R (gD k i) (iD k j)))):=(Qy.out.rows (gD k i) (by have:=HM.out.1;omega)).cell (i:=iD k j) (by have:=HM.out.2;omega)
  have lA:=Qy.out.lt.2 (gD k i) (by have:=HM.out.1;omega)
  have ec:=Qy.out.outer.cell (i:=i) (by have:=HM.out.1;omega)
  have ed:W1.cell? ⟨r i,j,none⟩=some (.string (tx (bI C L R i j))):=(Qy.out.rows i (by have:=HM.out.1;omega)).cell (i:=j) (by have:=HM.out.2;omega)
  have lI:=Qy.out.lt.2 i (by have:=HM.out.1;omega)
  have HAD:=hid (fun W' (hg:Good W')=>uz (bY C L R k i j) (bI C L R (gD k i) (iD k j)) ((HQ.out.cost k i j hk ym).sm) ((HQ.out.rest _ _ hA1 hA2).sm) W' hg)
  have heq:=CR (bY C L R k i j+bI C L R (gD k i) (iD k j)) (bI C L R i j)
  have ad6:decide (bY C L R k i j+bI C L R (gD k i) (iD k j)=bI C L R i j)=fV C L R i j k:=by unfold fV;rw [ym,Bool.true_and]
  rw [ad6] at heq
  unfold RV at HAD
  have a1:(0:Int)≤((gD k i:Nat):Int):=by omega
  have a2:((gD k i:Nat):Int)<(m:Int):=by have:=HM.out.1;omega
  have a3:(0:Int)≤((iD k j:Nat):Int):=by omega
  have a4:((iD k j:Nat):Int)<(n:Int):=by have:=HM.out.2;omega
  have a5:(0:Int)≤(i:Int):=by omega
  have a6:(i:Int)<(m:Int):=by have:=HM.out.1;omega
  have a7:(0:Int)≤(j:Int):=by omega
  have a8:(j:Int)<(n:Int):=by have:=HM.out.2;omega
  have QD:=hid (qA.out.trans (UA.out.mono qA.out.size))
  clear hA1 hA2 hA3 hb1 ack CP CQ vC ad6 hyl hd1
  generalize gD k i=nA at *
  generalize iD k j=nB at *
  generalize vN:r nA=rA at *
  clear vN
  generalize hrI:r i=rI at *
  clear hrI
  obtain ⟨tc,htc⟩ : ∃ t,t=tx (bY C L R k i j):=⟨_,rfl⟩
  obtain ⟨tr,htr⟩ : ∃ t,t=tx (bI C L R nA nB):=⟨_,rfl⟩
  obtain ⟨ts,hts⟩ : ∃ t,t=tx (bY C L R k i j+bI C L R nA nB):=⟨_,rfl⟩
  obtain ⟨tz,htz⟩ : ∃ t,t=tx (bI C L R i j):=⟨_,rfl⟩
  rw [←htc,←htr,←hts] at HAD
  rw [←hts,←htz] at heq
  rw [←htr] at eb
  rw [←htz] at ed
  rw [←htc]
  clear htc htr hts htz
  gi_upto_region 5 with fail
  by_cases hgd:fV C L R i j k=true
  ·rw [hgd] at heq
   have hgk:k=eX C L R i j:=by
    obtain ⟨p0,hl0,e1,e2,e3⟩:=HGF.out
    rcases Nat.lt_trichotomy p p0 with h | h | h
    ·have:=e3 p hp h
     rw [hpk,hgd] at this
     cases this
    ·subst h
     rw [←e1,←hpk]
    ·have:=eH.out.no p0 hl0 h
     rw [e1,e2] at this
     cases this
   have HYK:=hid (fun W1 (h:J () W1)=>HY.out W1 h)
   rw [←hgk] at HYK
   unfold oF at HYK
   clear hgk hgd
   refine fJ jU (fun W'=>Below W1.heap.size W1 W') (.take 0 (.take 1 (.take 2 (.take 3 (.take 4 (.take 5 (.take 6 (.take 7 (.take 9 (.take 10 (.take 11 (.take 12 (.take 13 (.take 14 (.take 15 (.one 8 (.take 16 (.take 17 (.take 18 (.take 19 .fin)))))))))))))))))))) 20 (by kernel_rfl) (by kernel_rfl) (by kernel_rfl) ⟨rfl,rfl,rfl,Nat.le_refl _,fun _ _=>rfl⟩ ?_
   have bZ:Below W1.heap.size W1 W1.drew:=⟨rfl,rfl,rfl,Nat.le_refl _,fun _ _=>rfl⟩
   generalize W1.drew=dW at *
   iterate 15
    refine bJ rfl ?_ rfl ?_ ?_
    rotate_left
    ·intro W' hS'
     have s0:=(hS'.cell (p:=⟨Br,0,none⟩) l0).trans c0
     have s1:=(hS'.cell (p:=⟨Bi,0,none⟩) l1).trans c1
     have s2:=(hS'.cell (p:=⟨Bj,0,none⟩) l2b).trans c2
     have s3:=(hS'.cell (p:=⟨B,nA,none⟩) lB).trans ea
     have s4:=(hS'.cell (p:=⟨rA,nB,none⟩) lA).trans eb
     have s5:=(hS'.cell (p:=⟨B,i,none⟩) lB).trans ec
     have s6:=(hS'.cell (p:=⟨rI,j,none⟩) lI).trans ed
     have s7:=(hS'.cell (p:=⟨Ny,0,none⟩) ly).trans ey
     have s8:=(hS'.cell (p:=⟨B6,0,none⟩) lD).trans g0
     have s9:=(hS'.cell (p:=⟨B6,1,none⟩) lD).trans g1
     have s10:=(hS'.cell (p:=⟨B6,2,none⟩) lD).trans g2
     go_simp
     try with_reducible rfl
    try simp only [zA,zB,zC,Act.put,zD,zE,zF]
   refine aK rfl rfl (fun K hK=>?_)
   go_simp
   refine (HAD.out _ (hw.below (QD.out.trans (bZ.mono QD.out.size)))).mono ?_
   rintro e gK ⟨rfl,cK⟩
   have hP1:=bZ.trans (cK.mono bZ.size)
   refine hK _ _ ⟨hP1,?_⟩
   clear hK K
   try simp only [zA,zB,zC,Act.put,zD,zE,zF]
   iterate 4
    refine bJ rfl ?_ rfl ?_ ?_
    rotate_left
    ·intro W' hS'
     have s0:=(hS'.cell (p:=⟨Br,0,none⟩) l0).trans c0
     have s1:=(hS'.cell (p:=⟨Bi,0,none⟩) l1).trans c1
     have s2:=(hS'.cell (p:=⟨Bj,0,none⟩) l2b).trans c2
     have s3:=(hS'.cell (p:=⟨B,nA,none⟩) lB).trans ea
     have s4:=(hS'.cell (p:=⟨rA,nB,none⟩) lA).trans eb
     have s5:=(hS'.cell (p:=⟨B,i,none⟩) lB).trans ec
     have s6:=(hS'.cell (p:=⟨rI,j,none⟩) lI).trans ed
     have s7:=(hS'.cell (p:=⟨Ny,0,none⟩) ly).trans ey
     have s8:=(hS'.cell (p:=⟨B6,0,none⟩) lD).trans g0
     have s9:=(hS'.cell (p:=⟨B6,1,none⟩) lD).trans g1
     have s10:=(hS'.cell (p:=⟨B6,2,none⟩) lD).trans g2
     go_simp
     try with_reducible rfl
    try simp only [zA,zB,zC,Act.put,zD,zE,zF]
   unfold gP
   simp only [List.drop_succ_cons,List.drop_zero]
   have HB1:=hid (HB0.out.trans (hP1.mono HB0.out.size))
   have hJv:J () gK:=pV HJ.out eH.out.jj HB1.out
   obtain ⟨fn,tmps,assign,body,hy,hR⟩:=HYK.out gK hJv
   clear hJv c0 c1 c2 ea eb ec ed ey g0 g1 g2
   gi_wp2
   refine RoundIn.mono (Ha hR) ?_
   rintro e W9 ⟨rfl,CE,RS⟩
   have Ay:=hid CE
   have RU:=hid RS
   clear CE RS
   gi_wp2
   exact ⟨(aM HB1.out).trans ⟨RU.out.size,fun k o hk=>RU.out.same k o (Nat.le_trans yM.out.size hk)⟩,rfl,Ay.out,Nat.le_trans eH.out.bl.size (Nat.le_trans HB1.out.size RU.out.size)⟩
  ·have hgf:fV C L R i j k=false:=by cases h:fV C L R i j k <;> simp_all
   rw [hgf] at heq
   have HGD:=hid hgf
   clear hgd hgf
   refine fJ jU (fun W'=>Below W1.heap.size W1 W') (.take 0 (.take 1 (.take 2 (.take 3 (.take 4 (.take 5 (.take 6 (.take 7 (.take 9 (.take 10 (.take 11 (.take 12 (.take 13 (.take 14 (.take 15 (.one 8 (.take 16 (.take 17 (.take 18 (.take 19 (.take 20 (.take 21 .fin)))))))))))))))))))))) 22 (by kernel_rfl) (by kernel_rfl) (by kernel_rfl) ⟨rfl,rfl,rfl,Nat.le_refl _,fun _ _=>rfl⟩ ?_
   have bZ:Below W1.heap.size W1 W1.drew:=⟨rfl,rfl,rfl,Nat.le_refl _,fun _ _=>rfl⟩
   generalize W1.drew=dW at *
   iterate 15
    refine bJ rfl ?_ rfl ?_ ?_
    rotate_left
    ·intro W' hS'
     have s0:=(hS'.cell (p:=⟨Br,0,none⟩) l0).trans c0
     have s1:=(hS'.cell (p:=⟨Bi,0,none⟩) l1).trans c1
     have s2:=(hS'.cell (p:=⟨Bj,0,none⟩) l2b).trans c2
     have s3:=(hS'.cell (p:=⟨B,nA,none⟩) lB).trans ea
     have s4:=(hS'.cell (p:=⟨rA,nB,none⟩) lA).trans eb
     have s5:=(hS'.cell (p:=⟨B,i,none⟩) lB).trans ec
     have s6:=(hS'.cell (p:=⟨rI,j,none⟩) lI).trans ed
     have s7:=(hS'.cell (p:=⟨Ny,0,none⟩) ly).trans ey
     have s8:=(hS'.cell (p:=⟨B6,0,none⟩) lD).trans g0
     have s9:=(hS'.cell (p:=⟨B6,1,none⟩) lD).trans g1
     have s10:=(hS'.cell (p:=⟨B6,2,none⟩) lD).trans g2
     go_simp
     try with_reducible rfl
    try simp only [zA,zB,zC,Act.put,zD,zE,zF]
   refine aK rfl rfl (fun K hK=>?_)
   go_simp
   refine (HAD.out _ (hw.below (QD.out.trans (bZ.mono QD.out.size)))).mono ?_
   rintro e gK ⟨rfl,cK⟩
   have hP1:=bZ.trans (cK.mono bZ.size)
   refine hK _ _ ⟨hP1,?_⟩
   clear hK K
   try simp only [zA,zB,zC,Act.put,zD,zE,zF]
   iterate 2
    refine bJ rfl ?_ rfl ?_ ?_
    rotate_left
    ·intro W' hS'
     have s0:=(hS'.cell (p:=⟨Br,0,none⟩) l0).trans c0
     have s1:=(hS'.cell (p:=⟨Bi,0,none⟩) l1).trans c1
     have s2:=(hS'.cell (p:=⟨Bj,0,none⟩) l2b).trans c2
     have s3:=(hS'.cell (p:=⟨B,nA,none⟩) lB).trans ea
     have s4:=(hS'.cell (p:=⟨rA,nB,none⟩) lA).trans eb
     have s5:=(hS'.cell (p:=⟨B,i,none⟩) lB).trans ec
     have s6:=(hS'.cell (p:=⟨rI,j,none⟩) lI).trans ed
     have s7:=(hS'.cell (p:=⟨Ny,0,none⟩) ly).trans ey
     have s8:=(hS'.cell (p:=⟨B6,0,none⟩) lD).trans g0
     have s9:=(hS'.cell (p:=⟨B6,1,none⟩) lD).trans g1
     have s10:=(hS'.cell (p:=⟨B6,2,none⟩) lD).trans g2
     go_simp
     try with_reducible rfl
    try simp only [zA,zB,zC,Act.put,zD,zE,zF]
   iterate 4
    refine EG rfl rfl ?_
    try simp only [zA,zB,zC,Act.put,zD,zE,zF]
   unfold gP
   simp only [List.drop_succ_cons,List.drop_zero]
   have HB1:=hid (HB0.out.trans (hP1.mono HB0.out.size))
   clear c0 c1 c2 ea eb ec ed ey g0 g1 g2
   gi_wp2
   refine ⟨aM HB1.out,dX.of_below HB1.out (Nat.le_trans HWD.out.size hs0) (fun b hb=>Nat.lt_of_lt_of_le (LD b hb) hs0),pV HJ.out eH.out.jj HB1.out,fun q hq hq2=>?_,eH.out.bl.trans (HB1.out.mono eH.out.bl.size),(HB1.out.block _ (aa eH.out.y)).trans eH.out.y,Nat.le_trans hs0 HB1.out.size⟩
   rcases Nat.lt_or_ge q p with hqp | hqp
   ·exact eH.out.no q hq hqp
   ·obtain rfl:q=p:=by omega
    rw [hpk];exact HGD.out
 case done =>
  intro Dk W0 hD hi0 hK
  exfalso
  obtain ⟨p0,hl0,e1,e2,_⟩:=HGF.out
  have:=hi0.no p0 hl0 hl0
  rw [e1,e2] at this
  cases this
 case stop =>
  rintro Dk c k W0 hD hk ⟨rfl,hx,hsx⟩ hK
  have HX:=hid hx
  have HDK:=hid hK
  have hD2:W.heap.size≤Dk:=Nat.le_trans yM.out.size hD
  clear hx hK
  gi_wp2
  refine Ko HDK.out ⟨_,results_none rfl _ _ _,⟨_,rfl⟩,HJX.out.from.putObj _ HX.out hD2 HDK.out rfl⟩
end Go.Proofs.YtglncfkoohgdaaaGreatDoor
namespace Go.Proofs.YtglncfkoohgdaaaGreatDoor
open Go.RowKit Go.Shelf
open Go.Lib (decDigits itoa nDigits)
open Go.Lib (hid)
theorem UE (q:Rat) (h:oz q) (w:World) (hw:Good w):Calls Tryz.prog 121 #[.string (tx q)] w (RV (.tuple #[.string (tx q),.int .i64 0]) w):=by
 have HC:=hid (fun w' (hg:Good w')=>gY q h w' hg)
 unfold RV at *
 clear h
 generalize tx q=s at *
 go_enter Tryz.func121,Tryz.ntmps121
 go_wp2_with fail
 refine (HC.out w hw).mono ?_
 rintro e w1 ⟨rfl,hb1⟩
 go_wp2
 go_ret2
 exact ⟨rfl,hb1⟩
theorem UF {w:World} (vl vr:Value) (C:Cs) (L R:List Iv) (hvl:gm w vl L) (eO:gm w vr R) :
  Calls Tryz.prog 172 #[uC vl vr C] w fun e w'=>∃ b,e=.returned (.slice (some ⟨b,0,none⟩) 4 4)∧w'.heap[b]?=some (.cells #[.string (tx C.ch),.string (tx C.mi),.string (tx C.ga),.string (tx C.re)] 33 (0,0))∧Below w.heap.size w w':=by
 obtain ⟨pl,cl,rfl,hcl,hcm⟩:=hvl.slice
 obtain ⟨pr,cr,rfl,gZ,hcm2⟩:=eO.slice
 unfold uC
 clear hvl eO
 generalize tx C.ch=t1 at *
 generalize tx C.mi=t2 at *
 generalize tx C.ga=t3 at *
 generalize tx C.re=t4 at *
 go_enter Tryz.func172,Tryz.ntmps172
 go_upto_region 1 with fail
 obtain ⟨wP,bX⟩ : ∃ wP,wP=w.alloc (Obj.cells #[.slice pl L.length cl,.slice pr R.length cr,.string t1,.string t2,.string t3,.string t4] 122):=⟨_,rfl⟩
 have eT:Below w.heap.size w wP:=by rw [bX];exact ae _ _
 have hpq:wP.heap[w.heap.size]?=some (.cells #[.slice pl L.length cl,.slice pr R.length cr,.string t1,.string t2,.string t3,.string t4] 122 (0,0)):=by rw [bX];exact World.alloc_heap_new _ _
 rw [←bX]
 clear bX
 obtain ⟨_,_,q2,q3,q4,q5⟩:=aW hpq
 clear hpq
 go_wp2
 go_ret
 exact ⟨_,rfl,World.alloc_heap_new _ _,eT.trans ((ae _ _).mono eT.size)⟩
structure acm (C:Cs):Prop where
 ok:oz C.ch∧oz C.mi∧oz C.ga∧oz C.re
 nn:0≤C.ch∧0≤C.mi∧0≤C.ga∧0≤C.re
theorem acn {q:Rat} (h:0≤q):decide (nJ q<0)=false:=decide_eq_false (by
 unfold nJ
 have:0≤q.num:=Rat.num_nonneg.2 h
 rcases dA q.num with ⟨x1,x2⟩ | ⟨x1,x2⟩ | ⟨x1,x2⟩ <;> omega)
theorem Kq {w:World} (vl vr:Value) (C:Cs) (L R:List Iv) (hL:Cx L) (hR:Cx R) (hl:L.length≤60) (hr:R.length≤60) (hC:acm C) (hvl:gm w vl L) (eO:gm w vr R) (hw:Good w) :
  Calls Tryz.prog 100 #[uC vl vr C] w (RV (.int .i64 0) w):=by
 have HL:=hid (fun w' (hb:Below w.heap.size w w')=>Ug vl L hL w' (hw.below hb) (hvl.below hb))
 have HR:=hid (fun w' (hb:Below w.heap.size w w')=>Ug vr R hR w' (hw.below hb) (eO.below hb))
 have Kh:=hid (fun w' (hb:Below w.heap.size w w')=>UF vl vr C L R (hvl.below hb) (eO.below hb))
 have hcs:∀ k,k<4→∃ q,oz q∧0≤q∧∀ (W:World) (b:Nat),W.heap[b]?=some (.cells #[.string (tx C.ch),.string (tx C.mi),.string (tx C.ga),.string (tx C.re)] 33 (0,0))→W.cell? ⟨b,k,none⟩=some (.string (tx q)):=fun k hk=>by
  rcases k with _ | _ | _ | _ | k
  ·exact ⟨C.ch,hC.ok.1,hC.nn.1,fun W b h=>(iT h).1⟩
  ·exact ⟨C.mi,hC.ok.2.1,hC.nn.2.1,fun W b h=>(iT h).2.1⟩
  ·exact ⟨C.ga,hC.ok.2.2.1,hC.nn.2.2.1,fun W b h=>(iT h).2.2.1⟩
  ·exact ⟨C.re,hC.ok.2.2.2,hC.nn.2.2.2,fun W b h=>(iT h).2.2.2⟩
  ·omega
 have CB:=hid hcs
 obtain ⟨pl,cl,rfl,hcl,hcm⟩:=hvl.slice
 obtain ⟨pr,cr,rfl,gZ,hcm2⟩:=eO.slice
 unfold maxLen at hcm hcm2
 have d1:decide ((60:Int)<(L.length:Int))=false:=decide_eq_false (by omega)
 have d2:decide ((60:Int)<(R.length:Int))=false:=decide_eq_false (by omega)
 unfold uC at *
 unfold RV at *
 obtain ⟨qc,hqc⟩ : ∃ qc:Array Value,qc=#[.string (tx C.ch),.string (tx C.mi),.string (tx C.ga),.string (tx C.re)]:=⟨_,rfl⟩
 rw [←hqc] at Kh CB
 clear hvl eO hcs hL hR hC hqc
 generalize tx C.ch=t1 at *
 generalize tx C.mi=t2 at *
 generalize tx C.ga=t3 at *
 generalize tx C.re=t4 at *
 generalize L.length=nl at *
 generalize R.length=nr at *
 go_enter Tryz.func100,Tryz.ntmps100
 go_upto_region 1 with fail
 obtain ⟨wP,bX⟩ : ∃ wP,wP=w.alloc (Obj.cells #[.slice pl nl cl,.slice pr nr cr,.string t1,.string t2,.string t3,.string t4] 122):=⟨_,rfl⟩
 have eT:Below w.heap.size w wP:=by rw [bX];exact ae _ _
 have hpq:wP.heap[w.heap.size]?=some (.cells #[.slice pl nl cl,.slice pr nr cr,.string t1,.string t2,.string t3,.string t4] 122 (0,0)):=by rw [bX];exact World.alloc_heap_new _ _
 rw [←bX]
 clear bX
 obtain ⟨q0,q1,_,_,_,_⟩:=aW hpq
 go_upto_region 2 with fail
 obtain ⟨wS,qV⟩ : ∃ wS,wS=wP.alloc (Obj.cells #[.slice pl nl cl,.slice pr nr cr] 66):=⟨_,rfl⟩
 have hbS:Below wP.heap.size wP wS:=by rw [qV];exact ae _ _
 have hpS:wS.heap[wP.heap.size]?=some (.cells #[.slice pl nl cl,.slice pr nr cr] 66 (0,0)):=by rw [qV];exact World.alloc_heap_new _ _
 rw [←qV]
 obtain ⟨s0,s1,_,_⟩:=aj hpS
 have lS:=aa hpS
 have mG:=hid ((hbS.block _ (aa hpq)).trans hpq)
 have qE:=hid (eT.trans (hbS.mono eT.size))
 clear qV hpq q0 q1 hpS hbS eT
 go_loopw [2,4,5,16] (fun _ _ _ iv wr=>∃ k:Nat,k≤2∧iv=.int .i64 (k:Int)∧Below wS.heap.size wS wr) (fun _ _ _ iv _=>2-(intOf iv).toNat)
 case atStart=>exact ⟨0,by omega,rfl,Below.refl _ _⟩
 case round =>
  obtain ⟨k,hk2,rfl,hbr⟩:=hrel
  rcases k with _ | _ | k
  ·have c0:=(hbr.cell (p:=⟨wP.heap.size,0,none⟩) lS).trans s0
   go_wp2_with fail
   refine (HL.out wr (qE.out.trans (hbr.mono qE.out.size))).mono ?_
   rintro e w1 ⟨rfl,hb1⟩
   go_wp2
   refine ⟨⟨1,by omega,rfl,hbr.trans (hb1.mono hbr.size)⟩,?_⟩
   decide
  ·have c0:=(hbr.cell (p:=⟨wP.heap.size,1,none⟩) lS).trans s1
   go_wp2_with fail
   refine (HR.out wr (qE.out.trans (hbr.mono qE.out.size))).mono ?_
   rintro e w1 ⟨rfl,hb1⟩
   go_wp2
   refine ⟨⟨2,by omega,rfl,hbr.trans (hb1.mono hbr.size)⟩,?_⟩
   decide
  ·obtain rfl:k=0:=by omega
   have sZ:=hid (qE.out.trans (hbr.mono qE.out.size))
   have hpr:=(hbr.block _ (aa mG.out)).trans mG.out
   have FB:=hid hpr
   obtain ⟨q0,q1,q2,q3,q4,q5⟩:=aW hpr
   clear hpr s0 s1 lS hbr
   go_wp2_with fail
   refine (Kh.out wr sZ.out).mono ?_
   rintro e wC ⟨b,rfl,hcb,hbC⟩
   have HCB:=hid hcb
   have DX:=hid (sZ.out.trans (hbC.mono sZ.out.size))
   have ZN:=hid ((hbC.block _ (aa FB.out)).trans FB.out)
   clear hcb hbC q0 q1 q2 q3 q4 q5
   go_wp2_with fail
   go_loopw [2,7,39] (fun _ _ iv wx=>∃ k:Nat,k≤4∧iv=.int .i64 (k:Int)∧Below wC.heap.size wC wx) (fun _ _ iv _=>4-(intOf iv).toNat)
   case atStart=>exact ⟨0,by omega,rfl,Below.refl _ _⟩
   case round =>
    obtain ⟨k,hk4,rfl,hbx⟩:=hrel
    by_cases hk:k<4
    ·obtain ⟨q,hq1,hq2,hqc⟩:=CB.out k hk
     have c0:=hqc wr b ((hbx.block _ (aa HCB.out)).trans HCB.out)
     have HK:=hid (fun w' (hg:Good w')=>gY q hq1 w' hg)
     unfold RV at HK
     have kn:decide ((k:Int)<4)=true:=decide_eq_true (by omega)
     have Jc:decide (k<4)=true:=decide_eq_true hk
     have i1:(0:Int)≤(k:Int):=by omega
     have i2:(k:Int)<4:=by omega
     clear hqc hq1 hq2
     generalize tx q=s at *
     go_wp2_with fail
     refine (HK.out wr (hw.below (DX.out.trans (hbx.mono DX.out.size)))).mono ?_
     rintro e w1 ⟨rfl,hb1⟩
     go_wp2
     refine ⟨⟨k+1,by omega,aA k,hbx.trans (hb1.mono hbx.size)⟩,?_⟩
     show 4-((k:Int)+1).toNat<4-((k:Int)).toNat
     omega
    ·obtain rfl:k=4:=by omega
     have Ei:=hid (DX.out.trans (hbx.mono DX.out.size))
     have hpx:=(hbx.block _ (aa ZN.out)).trans ZN.out
     have HPX:=hid hpx
     obtain ⟨q0,q1,q2,q3,q4,q5⟩:=aW hpx
     clear hpx hbx hk hk4
     go_wp2_with fail
     refine (Kh.out wr Ei.out).mono ?_
     rintro e wD ⟨b2,rfl,hcb,hbD⟩
     have HDB:=hid hcb
     have je:=hid (Ei.out.trans (hbD.mono Ei.out.size))
     clear hcb hbD q0 q1 q2 q3 q4 q5
     go_wp2_with fail
     go_loopw [2,9,50] (fun _ _ iv wx=>∃ k:Nat,k≤4∧iv=.int .i64 (k:Int)∧Below wD.heap.size wD wx) (fun _ _ iv _=>4-(intOf iv).toNat)
     case atStart=>exact ⟨0,by omega,rfl,Below.refl _ _⟩
     case round =>
      obtain ⟨k,hk4,rfl,hbx⟩:=hrel
      by_cases hk:k<4
      ·obtain ⟨q,hq1,hq2,hqc⟩:=CB.out k hk
       have c0:=hqc wr b2 ((hbx.block _ (aa HDB.out)).trans HDB.out)
       have HK:=hid (fun w'=>nK (tx q) q (bU _) (oz.siz hq1) w')
       have d3:=acn hq2
       have kn:decide ((k:Int)<4)=true:=decide_eq_true (by omega)
       have Jc:decide (k<4)=true:=decide_eq_true hk
       have i1:(0:Int)≤(k:Int):=by omega
       have i2:(k:Int)<4:=by omega
       clear hqc hq1 hq2
       generalize tx q=s at *
       generalize nJ q=sg at *
       go_wp2_with fail
       refine (HK.out wr).mono ?_
       rintro e w1 ⟨rfl,hw1⟩
       subst hw1
       go_wp2
       refine ⟨⟨k+1,by omega,aA k,hbx⟩,?_⟩
       show 4-((k:Int)+1).toNat<4-((k:Int)).toNat
       omega
      ·obtain rfl:k=4:=by omega
       go_wp2
       go_ret
       exact ⟨rfl,je.out.trans (hbx.mono je.out.size)⟩
end Go.Proofs.YtglncfkoohgdaaaGreatDoor
namespace Go.Proofs.YtglncfkoohgdaaaGreatDoor
open Go.RowKit Go.Shelf
def fP (P:List Stp):List Value:=P.flatMap fun s=>[.int .i64 (s.k:Int),.int .i64 (s.i:Int),.int .i64 (s.j:Int)]
theorem zY (P:List Stp):(fP P).length=P.length*3:=by
 induction P with
 | nil=>rfl
 | cons p r ih=>unfold fP at *; rw [List.flatMap_cons,List.length_append,ih,List.length_cons];simp;omega
theorem Hd (P:List Stp) (s:Stp):fP (P ++ [s])=fP P ++ [.int .i64 (s.k:Int),.int .i64 (s.i:Int),.int .i64 (s.j:Int)]:=by unfold fP;simp
theorem zZ:∀ (P:List Stp) (i:Nat) (hi:i<P.length) (j:Nat) (hj:j<3),(fP P)[i*3+j]?=some ([Value.int .i64 (P[i].k:Int),.int .i64 (P[i].i:Int),.int .i64 (P[i].j:Int)][j])
 | [],i,hi,_,_=>by simp at hi
 | q :: r,0,_,j,hj=>by
  unfold fP
  rw [List.flatMap_cons,List.getElem?_append_left (by simp;omega)]
  simp only [Nat.zero_mul,Nat.zero_add,List.getElem_cons_zero]
  rw [List.getElem?_eq_getElem (by simpa using hj)]
 | q :: r,i+1,hi,j,hj=>by
  unfold fP
  rw [List.flatMap_cons,List.getElem?_append_right (by simp;omega)]
  have:=zZ r i (by simpa using hi) j hj
  unfold fP at this
  rw [show (i+1)*3+j - [Value.int .i64 (q.k:Int),.int .i64 (q.i:Int),.int .i64 (q.j:Int)].length=i*3+j by simp;omega]
  simpa using this
def af3:Stp:=⟨0,0,0⟩
def gy (P:List Stp) (i:Nat):Stp:=P.getD i af3
theorem jZ {P:List Stp} {i:Nat} (h:i<P.length):gy P i=P[i]:=by unfold gy;rw [List.getD_eq_getElem?_getD,List.getElem?_eq_getElem h];rfl
def kz (w:World) (v:Value) (P:List Stp):Prop:=∃ p c,v=.slice p P.length c∧P.length≤c∧c≤maxLen∧(0<P.length→∃ b off,p=some ⟨b,off,none⟩∧(∃ cs fz,w.heap[b]?=some (.cells cs 57 fz)) ∧
 ∀ i,i<P.length→w.cell? ⟨b,off+i*3,none⟩=some (.int .i64 ((gy P i).k:Int))∧w.cell? ⟨b,off+i*3+1,none⟩=some (.int .i64 ((gy P i).i:Int))∧w.cell? ⟨b,off+i*3+2,none⟩=some (.int .i64 ((gy P i).j:Int)))
theorem kz.below {w w':World} {v:Value} {P:List Stp} (h:kz w v P) (hb:Below w.heap.size w w'):kz w' v P:=by
 obtain ⟨p,c,h1,h2,h3,h4⟩:=h
 refine ⟨p,c,h1,h2,h3,fun h0=>?_⟩
 obtain ⟨b,off,k1,⟨cs,fz,kt⟩,k3⟩:=h4 h0
 have k2:=lt_of_some kt
 refine ⟨b,off,k1,⟨cs,fz,(hb.block _ k2).trans kt⟩,fun i hi=>?_⟩
 obtain ⟨m1,m2,m3⟩:=k3 i hi
 exact ⟨(hb.cell (p:=⟨b,off+i*3,none⟩) k2).trans m1,(hb.cell (p:=⟨b,off+i*3+1,none⟩) k2).trans m2,(hb.cell (p:=⟨b,off+i*3+2,none⟩) k2).trans m3⟩
theorem kz.slice {w:World} {v:Value} {P:List Stp} (h:kz w v P):∃ p c,v=.slice p P.length c∧P.length≤c∧c≤maxLen:=by
 obtain ⟨p,c,h1,h2,h3,_⟩:=h
 exact ⟨p,c,h1,h2,h3⟩
theorem kz.at {w:World} {p:Option Addr} {n c:Nat} {P:List Stp} (h:kz w (.slice p n c) P) {i:Nat} (hi:i<P.length):∃ b off,p=some ⟨b,off,none⟩∧b<w.heap.size ∧
  w.cell? ⟨b,off+i*3,none⟩=some (.int .i64 ((gy P i).k:Int))∧w.cell? ⟨b,off+i*3+1,none⟩=some (.int .i64 ((gy P i).i:Int))∧w.cell? ⟨b,off+i*3+2,none⟩=some (.int .i64 ((gy P i).j:Int)):=by
 obtain ⟨p',c',h1,h2,h3,h4⟩:=h
 cases h1
 obtain ⟨b,off,k1,⟨cs,fz,kt⟩,k3⟩:=h4 (by omega)
 exact ⟨b,off,k1,lt_of_some kt,k3 i hi⟩
theorem uF {w:World} {base:Nat} {v:Value} {P:List Stp} (h:w.ownsRow base 57 3 v P.length (fP P)):kz w v P:=by
 obtain ⟨_,p,c,rfl,hc,hm,hx⟩:=Reads.bu h
 refine ⟨p,c,rfl,hc,hm,fun h0=>?_⟩
 obtain ⟨b,off,hp,hbl,hcell⟩:=hx h0
 refine ⟨b,off,hp,?_,fun i hi=>?_⟩
 ·rcases h.2 with ⟨_,e⟩ | ⟨g,cap,cur,e1,_,e3,_⟩
  ·have hl0:=zY P
   rw [e] at hl0
   simp at hl0
   omega
  ·rw [hp] at e1
   cases e1
   exact ⟨_,_,e3⟩
 have hl:=zY P
 rw [jZ hi]
 have go:∀ j (hj:j<3),w.cell? ⟨b,off+(i*3+j),none⟩=some ([Value.int .i64 (P[i].k:Int),.int .i64 (P[i].i:Int),.int .i64 (P[i].j:Int)][j]):=by
  intro j hj
  have h1:=hcell (i*3+j) (by omega)
  rw [h1,←zZ P i hi j hj,List.getElem?_eq_getElem]
 exact ⟨go 0 (by decide),go 1 (by decide),go 2 (by decide)⟩
theorem ZO:SliceOf 52 57 (.agg #[.int .i64 0,.int .i64 0,.int .i64 0]) 3 24:=⟨Tryz.underlying52,by kernel_rfl,rfl,by decide⟩
theorem jw (w:World) (a b c:Value) (t:TypeId):∀ j u,[a,b,c][j]?=some u→(w.alloc (.cells #[a,b,c] t)).cell? ((⟨w.heap.size,0,none⟩ : Addr).add j)=some u:=by
 intro j u hj
 rw [sO,World.cell?_alloc_new]
 simpa using hj
theorem fI {T:TypeId} {B:Nat} {W W':World} {row:Option Nat} (hg:W.grownBy W' row) (hr:∀ r,row=some r→B≤r∧∃ o:Obj,W.heap[r]?=some o∧(o.isCells=false∨∃ c fz,o=.cells c T fz)) {k:Nat} {c:Array Value} {e:TypeId} {fz:Nat × Nat} (hk:W.heap[k]?=some (.cells c e fz)) (he:e≠T):W'.heap[k]?=some (.cells c e fz):=by
 rw [hg.block k (lt_of_some hk) ?_]
 ·exact hk
 ·intro e'
  obtain ⟨_,o,ho,hc⟩:=hr k e'.symm
  rw [hk] at ho
  cases ho
  rcases hc with hc | ⟨c',fz',hc⟩
  ·simp [Obj.isCells] at hc
  ·cases hc;exact he rfl
theorem nN {T:TypeId} {B:Nat} {W W':World} {row:Option Nat} (hg:W.grownBy W' row) (hr:∀ r,row=some r→B≤r∧∃ o:Obj,W.heap[r]?=some o∧(o.isCells=false∨∃ c fz,o=.cells c T fz)) {base:Nat} {e:TypeId} {size n:Nat} {v:Value} {xs:List Value} (h:W.ownsRow base e size v n xs) (he:e≠T):W'.ownsRow base e size v n xs:=by
 refine ⟨h.1,?_⟩
 rcases h.2 with h2 | ⟨g,cap,cur,e1,e2,e3,r⟩
 ·exact .inl h2
 ·exact .inr ⟨g,cap,cur,e1,e2,fI hg hr e3 he,r⟩
theorem rM {T:TypeId} {B n:Nat} {w W W':World} {row:Option Nat} (h:Below n w W) (hn:n≤B) (hw:n≤w.heap.size) (hg:W.grownBy W' row) (hr:∀ r,row=some r→B≤r∧∃ o:Obj,W.heap[r]?=some o∧(o.isCells=false∨∃ c fz,o=.cells c T fz)):Below n w W':=
 h.trans ⟨hg.os,hg.tape,hg.output,hg.size,fun k hk=>hg.block k (by have:=h.size;omega) fun e=>by have:=(hr k e.symm).1;omega⟩
def kJ (vs:Value) (s:ByteArray):Obj:=.cells #[vs,.string s] 54
structure BInv (wd:World) (bo:Nat) (s:ByteArray) (vs:Value) (pre:List Stp) (i j bi bj:Nat) (ds:List Nat) (W:World):Prop where
 low:Below wd.heap.size wd W
 ob:W.heap[bo]?=some (kJ vs s)
 own:W.ownsRow wd.heap.size 57 3 vs pre.length (fP pre)
 hbi:W.heap[bi]?=some (dO i)
 hbj:W.heap[bj]?=some (dO j)
 ms:Marks wd.heap.size W ds
 ge:wd.heap.size≤bo∧wd.heap.size≤bi∧wd.heap.size≤bj∧bi≠bj
theorem lZ {w w1:World} {base:Nat} {e:TypeId} {size n:Nat} {v:Value} {xs:List Value} (h:w.ownsRow base e size v n xs) (hb:Below w.heap.size w w1):w1.ownsRow base e size v n xs:=by
 refine ⟨h.1,?_⟩
 rcases h.2 with h2 | ⟨g,cap,cur,e1,e2,e3,r⟩
 ·exact .inl h2
 ·exact .inr ⟨g,cap,cur,e1,e2,(hb.block _ (lt_of_some e3)).trans e3,r⟩
theorem BInv.below {wd:World} {bo:Nat} {s:ByteArray} {vs:Value} {pre:List Stp} {i j bi bj:Nat} {ds:List Nat} {W W':World} (h:BInv wd bo s vs pre i j bi bj ds W) (hb:Below W.heap.size W W'):BInv wd bo s vs pre i j bi bj ds W':=
 ⟨h.low.trans (hb.mono h.low.size),(hb.block _ (aa h.ob)).trans h.ob,lZ h.own hb,(hb.block _ (aa h.hbi)).trans h.hbi,(hb.block _ (aa h.hbj)).trans h.hbj,h.ms.below hb,h.ge⟩
theorem BInv.own' {wd:World} {bo:Nat} {s:ByteArray} {vs:Value} {pre:List Stp} {i j bi bj:Nat} {ds:List Nat} {N:Nat} (hN:wd.heap.size≤N) (hds:∀ D∈ds,D<N) {W W':World} {row:Option Nat} (h:BInv wd bo s vs pre i j bi bj ds W) (hg:W.grownBy W' row) (hr:∀ r,row=some r→N≤r∧∃ o:Obj,W.heap[r]?=some o∧(o.isCells=false∨∃ c fz,o=.cells c 97 fz)):BInv wd bo s vs pre i j bi bj ds W':=
 ⟨rM h.low hN (Nat.le_refl _) hg hr,fI hg hr h.ob (by decide),nN hg hr h.own (by decide),fI hg hr h.hbi (by decide),fI hg hr h.hbj (by decide),
  h.ms.same fun D hD=>hg.block D (h.ms.lt D hD) fun e=>by have:=(hr D e.symm).1;have:=hds D hD;omega,h.ge⟩
theorem bD {W:World} {base:Nat} {e:TypeId} {size n:Nat} {v:Value} {xs:List Value} (h:W.ownsRow base e size v n xs) {g:Nat} (hg:v.ownBlock=some g):∃ cur fz,W.heap[g]?=some (.cells cur e fz):=by
 rcases h.2 with ⟨rfl,_⟩ | ⟨g',cap,cur,rfl,_,e3,_⟩
 ·cases hg
 ·have:g'=g:=by cases hg;rfl
  rw [this] at e3
  exact ⟨_,_,e3⟩
theorem BInv.rows {wd:World} {bo:Nat} {s:ByteArray} {vs:Value} {pre:List Stp} {i j bi bj:Nat} {ds:List Nat} {W:World} (h:BInv wd bo s vs pre i j bi bj ds W):∀ g,vs.ownBlock=some g→g≠bo∧g≠bi∧g≠bj∧∀ D∈ds,g≠D:=by
 intro g hg
 obtain ⟨cur,fz,e3⟩:=bD h.own hg
 refine ⟨?_,?_,?_,?_⟩
 ·rintro rfl;have:=h.ob;rw [e3] at this;unfold kJ at this;cases this
 ·rintro rfl;have:=h.hbi;rw [e3] at this;unfold dO at this;cases this
 ·rintro rfl;have:=h.hbj;rw [e3] at this;unfold dO at this;cases this
 ·rintro D hD rfl
  have:=(h.ms.all g hD).2
  rw [e3] at this
  cases this
theorem BInv.push {wd:World} {bo:Nat} {s:ByteArray} {vs vz:Value} {pre:List Stp} {st:Stp} {i j bi bj:Nat} {ds:List Nat} {W l5:World} (h:BInv wd bo s vs pre i j bi bj ds W) (hg:W.grownBy l5 vs.ownBlock)
  (hown:l5.ownsRow wd.heap.size 57 3 vz (pre.length+1) (fP pre ++ [.int .i64 (st.k:Int),.int .i64 (st.i:Int),.int .i64 (st.j:Int)])) :
  BInv wd bo s vz (pre ++ [st]) i j bi bj ds (l5.setCell ⟨bo,0,none⟩ vz)∧(∀ (k:Nat) (o:Obj),W.heap[k]?=some o→vs.ownBlock≠some k→k≠bo→(l5.setCell ⟨bo,0,none⟩ vz).heap[k]?=some o):=by
 have hr:=h.rows
 have key:∀ (k:Nat) (o:Obj),W.heap[k]?=some o→vs.ownBlock≠some k→l5.heap[k]?=some o:=fun k o hk hne=>(hg.block k (lt_of_some hk) (fun e=>hne e.symm)).trans hk
 have hne:∀ k,(∀ g,vs.ownBlock=some g→g≠k)→vs.ownBlock≠some k:=fun k hk e=>hk k e rfl
 have vM:=key bo _ h.ob (hne bo fun g e=>(hr g e).1)
 have hbi:=key bi _ h.hbi (hne bi fun g e=>(hr g e).2.1)
 have hbj:=key bj _ h.hbj (hne bj fun g e=>(hr g e).2.2.1)
 have hib:bi≠bo:=by
  rintro rfl
  have:=h.ob
  rw [h.hbi] at this
  unfold dO kJ at this
  cases this
 have hjb:bj≠bo:=by
  rintro rfl
  have:=h.ob
  rw [h.hbj] at this
  unfold dO kJ at this
  cases this
 refine ⟨⟨?_,?_,?_,?_,?_,?_,h.ge⟩,fun k o hk h1 h2=>?_⟩
 ·refine (h.low.trans ⟨hg.os,hg.tape,hg.output,hg.size,fun k hk=>hg.block k (Nat.lt_of_lt_of_le hk h.low.size) fun e=>?_⟩).setCell (p:=⟨bo,0,none⟩) h.ge.1 _
  have:=(h.own.lt k e.symm).1
  omega
 ·unfold kJ at vM ⊢
  exact aU _ vM
 ·rw [List.length_append,Hd]
  refine hown.kept (bK _ _ _ _) ?_
  cases hv:vz.ownBlock with
  | none=>exact .inl rfl
  | some g =>
   refine .inr fun e=>?_
   obtain ⟨cur,fz,e3⟩:=bD hown hv
   have e4:g=bo:=by cases e;rfl
   rw [e4,vM] at e3
   unfold kJ at e3
   cases e3
 ·rw [Below.heap_setCell _ _ _ _ hib];exact hbi
 ·rw [Below.heap_setCell _ _ _ _ hjb];exact hbj
 ·refine h.ms.same fun D hD=>?_
  have h1:=(h.ms.all D hD).2
  have hDb:D≠bo:=by
   rintro rfl
   have:=h.ob
   rw [h1] at this
   unfold kJ at this
   cases this
  rw [Below.heap_setCell _ _ _ _ hDb]
  exact (key D _ h1 (hne D fun g e=>(hr g e).2.2.2 D hD)).trans h1.symm
 ·rw [Below.heap_setCell _ _ _ _ h2]
  exact key k o hk h1
theorem BInv.move {wd:World} {bo:Nat} {s:ByteArray} {vs:Value} {pre:List Stp} {i j bi bj:Nat} {ds:List Nat} {W:World} (h:BInv wd bo s vs pre i j bi bj ds W) (i' j':Nat) :
  BInv wd bo s vs pre i' j' bi bj ds ((W.setCell ⟨bi,0,none⟩ (.int .i64 (i':Int))).setCell ⟨bj,0,none⟩ (.int .i64 (j':Int))):=by
 have hr:=h.rows
 have hij:=h.ge.2.2.2
 have one_set:∀ (X:World) (b:Nat) (u v:Value),X.heap[b]?=some (.cells #[u] 3 (0,0))→(X.setCell ⟨b,0,none⟩ v).heap[b]?=some (.cells #[v] 3 (0,0)):=fun X b u v hx=>aJ v hx
 have hib:bo≠bi:=by
  rintro rfl
  have:=h.ob
  rw [h.hbi] at this
  unfold dO kJ at this
  cases this
 have hjb:bo≠bj:=by
  rintro rfl
  have:=h.ob
  rw [h.hbj] at this
  unfold dO kJ at this
  cases this
 have ad7:∀ (X:World) (b:Nat) (v:Value),X.ownsRow wd.heap.size 57 3 vs pre.length (fP pre)→(∀ g,vs.ownBlock=some g→g≠b)→(X.setCell ⟨b,0,none⟩ v).ownsRow wd.heap.size 57 3 vs pre.length (fP pre):=fun X b v hx hb=>by
  refine hx.kept (bK _ _ _ _) ?_
  cases hv:vs.ownBlock with
  | none=>exact .inl rfl
  | some g=>exact .inr fun e=>hb g hv (by cases e;rfl)
 refine ⟨(h.low.setCell (p:=⟨bi,0,none⟩) h.ge.2.1 _).setCell (p:=⟨bj,0,none⟩) h.ge.2.2.1 _,?_,ad7 _ _ _ (ad7 _ _ _ h.own fun g e=>(hr g e).2.1) fun g e=>(hr g e).2.2.1,?_,?_,?_,h.ge⟩
 ·rw [Below.heap_setCell _ _ _ _ hjb,Below.heap_setCell _ _ _ _ hib];exact h.ob
 ·rw [Below.heap_setCell _ _ _ _ hij];exact one_set _ _ _ _ h.hbi
 ·refine one_set _ _ (.int .i64 (j:Int)) _ ?_
  rw [Below.heap_setCell _ _ _ _ (Ne.symm hij)];exact h.hbj
 ·refine h.ms.same fun D hD=>?_
  have h1:=(h.ms.all D hD).2
  have hDi:D≠bi:=by
   rintro rfl
   have:=h.hbi
   rw [h1] at this
   unfold dO at this
   cases this
  have hDj:D≠bj:=by
   rintro rfl
   have:=h.hbj
   rw [h1] at this
   unfold dO at this
   cases this
  rw [Below.heap_setCell _ _ _ _ hDj,Below.heap_setCell _ _ _ _ hDi]
end Go.Proofs.YtglncfkoohgdaaaGreatDoor
