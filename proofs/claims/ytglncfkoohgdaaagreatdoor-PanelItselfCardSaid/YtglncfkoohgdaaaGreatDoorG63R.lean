import Derived.Test.YtglncfkoohgdaaaGreatDoorG61R
import Derived.Test.YtglncfkoohgdaaaGreatDoorG40R
set_option maxRecDepth 100000
set_option maxHeartbeats 40000000
namespace Go.Proofs.YtglncfkoohgdaaaGreatDoor
open Go.RowKit Go.Shelf
open Go.Lib (decDigits itoa nDigits)
open Go.Lib (hid)
attribute [local go_sem] Oper.semAt_some
structure IW (base:Nat) (W:World) (vo:Value) (T:List iN):Prop where
 row:W.ownsRow base 79 2 vo T.length (gp T)
 own:∀ x∈T,W.ownsRow base 3 1 x.2 x.1.2.length (mq x.1.2)
theorem IW.nil (base:Nat) (W:World):IW base W (.slice none 0 0) []:=⟨World.ownsRow_nil _ _ _ _,fun _ h=>absurd h List.not_mem_nil⟩
theorem IW.below {base:Nat} {W W':World} {vo:Value} {T:List iN} (h:IW base W vo T) (hb:Below W.heap.size W W'):IW base W' vo T:=⟨di h.row hb,fun x hx=>di (h.own x hx) hb⟩
theorem IW.push {base:Nat} {W W':World} {vo vz vb:Value} {T:List iN} {k:Nat} {L:List Nat} {o:Obj} (h:IW base W vo T) (hv:W.ownsRow base 3 1 vb L.length (mq L))
  (hg:(W.alloc o).grownBy W' vo.ownBlock) (hown:W'.ownsRow base 79 2 vz (T.length+1) (gp T ++ [.int .i64 (k:Int),vb])):IW base W' vz (T ++ [((k,L),vb)]):=by
 have hk:∀ {n:Nat} {v:Value} {xs:List Value},W.ownsRow base 3 1 v n xs→W'.ownsRow base 3 1 v n xs:=fun {n v xs} ho =>
  (ho.alloc o).kept hg (dn (ho.alloc o) (h.row.alloc o) (by decide))
 refine ⟨?_,fun x hx=>?_⟩
 ·rw [zk,List.length_append]
  exact hown
 ·rcases List.mem_append.1 hx with hx | hx
  ·exact hk (h.own x hx)
  ·rw [List.mem_singleton] at hx
   rw [hx]
   exact hk hv
def Y6 (P:bQ):Nat→List (Nat × Nat)
 | 0=>[]
 | i+1=>Y6 P i++qD P i
theorem Yv (P:bQ):∀ K,Y6 P (K+1)=LK P K
 | 0=>rfl
 | K+1=>by
  show Y6 P (K+1)++qD P (K+1)=LK P K++qD P (K+1)
  rw [Yv P K]
def Li (P:bQ) (i k:Nat):List (Nat × Nat):=((List.range k).filter (AL P i)).map fun j=>(i,j)
theorem RD (P:bQ) (i k:Nat):Li P i (k+1)=Li P i k++(if AL P i k=true then [(i,k)] else []):=by
 unfold Li
 rw [List.range_succ,List.filter_append,List.map_append]
 congr 1
 cases h:AL P i k <;> simp [h]
def IX (P:bQ) (s:Nat × Nat):Nat × List Nat:=(s.1,Je P (P.lg.length-1-s.1) s.1 s.2)
def frB (P:bQ) (i k j:Nat):Bool:=(List.range j).all fun x=>decide (fQ P (i-1) x≠some k)
theorem Yw (P:bQ) (i k j:Nat):frB P i k (j+1)=(frB P i k j && decide (fQ P (i-1) j≠some k)):=by
 unfold frB
 rw [List.range_succ,List.all_append]
 simp
theorem adz {P:bQ} {l j k:Nat}:(kF P l j != (k:Int))=decide (fQ P l j≠some k):=by
 rw [xY]
 cases fQ P l j with
 | none=>simp
 | some a =>
  show ((a:Int) != (k:Int))=_
  rw [Bool.eq_iff_iff]
  simp
  omega
def chR (P:bQ) (log:Nat) (a:Int):List Nat:=if 0≤a then Je P (P.lg.length-1-log) log a.toNat else []
theorem Yx {P:bQ} {log a:Nat}:chR P log (a:Int)=a :: chR P (log+1) (kF P log a):=by
 unfold chR
 rw [if_pos (by omega),Int.toNat_natCast]
 cases ho:fQ P log a with
 | none =>
  have hq:kF P log a = -1:=by rw [xY,ho]
  rw [hq,if_neg (by decide)]
  cases P.lg.length-1-log with
  | zero=>rfl
  | succ d =>
   unfold Je
   rw [ho]
 | some j =>
  have hq:kF P log a=(j:Int):=by rw [xY,ho]
  obtain ⟨hl,_,_⟩:=jS ho
  rw [hq,if_pos (by omega),Int.toNat_natCast,show P.lg.length-1-log=(P.lg.length-1-(log+1))+1 by omega]
  show a :: (match fQ P log a with | some j=>Je P (P.lg.length-1-(log+1)) (log+1) j | none=>[])=_
  rw [ho]
theorem Yy (P:bQ) (l i:Nat):-1≤kF P l i:=by
 rw [xY]
 cases fQ P l i with
 | none=>exact Int.le_refl _
 | some j=>show (-1:Int)≤(j:Int);omega
theorem Yz {P:bQ} {l i:Nat} (h:0≤kF P l i):l+1<P.lg.length:=by
 cases ho:fQ P l i with
 | none=>rw [xY,ho] at h;exact absurd h (by decide)
 | some j=>exact (jS ho).1
theorem RF (L:List Nat) (a:Nat):mq (L ++ [a])=mq L ++ [.int .i64 (a:Int)]:=by unfold mq;simp
theorem YA {w:World} (vg va vt:Value) (P:bQ) (hO:dm P) (hP:l9 w vg va vt P) (hw:Good w) :
  Calls Tryz.prog 33 #[iX vg va vt P.cs] w fun e w'=>∃ v T,e=.returned v∧T.map (·.1)=PO P∧IW w.heap.size w' v T∧Below w.heap.size w w':=by
 have HPT:=hid (fun (l i:Nat) (hl:l≤100) W' (hb:Below w.heap.size w W')=>Le vg va vt P l i hl hO (hP.below hb) (hw.below hb))
 have xE:=hO.n20
 have hn2:=hO.n2
 have Ue:=hid (fun i (hi:i<P.lg.length)=>(hO.log i hi).2)
 obtain ⟨pg,cg,rfl,hcg,jK⟩:=hP.g.slice
 obtain ⟨pa,ca,rfl,ET,ma⟩:=hP.a.slice
 obtain ⟨oQ,ct,rfl,hct,mf⟩:=hP.t.slice
 obtain ⟨bg,og,v0,rfl,hbl,_,_⟩:=hP.g.at (k:=0) (by omega)
 have HLC:=hid (fun i (hi:i<P.lg.length)=>show ∃ p c,w.cell? ⟨bg,og+i,none⟩=some (.slice p (ai P i).length c) by
  obtain ⟨b,o,v,e,_,h1,h2⟩:=hP.g.at (k:=i) hi
  cases e
  obtain ⟨p,c,rfl,_,_⟩:=h2.slice
  exact ⟨p,c,h1⟩)
 have HFI:=hid (show PO P=(Y6 P P.lg.length).map (IX P) by
  obtain ⟨K,hK⟩ : ∃ K,K+1=P.lg.length:=⟨P.lg.length-1,by omega⟩
  rw [←hK,Yv,show K=P.lg.length-1 by omega]
  rfl)
 obtain ⟨n,hn⟩ : ∃ q,q=P.lg.length:=⟨_,rfl⟩
 have HN:=hid hn
 unfold iX at *
 unfold RV at HPT
 unfold maxLen at jK
 clear hP hO
 rw [←hn] at xE hn2 hcg
 rw [←hn]
 have afn:Go.RowKit.Hid (∀ (l i:Nat),l≤100→∀ W',Below w.heap.size w W'→Calls Tryz.prog 92 #[.agg #[.slice (some ⟨bg,og,none⟩) n cg,.slice pa (P.xs.map tx).length ca,.slice oQ (P.tp.map tx).length ct,.string (tx P.cs.ch),.string (tx P.cs.mi),.string (tx P.cs.ga),.string (tx P.cs.re)],.int .i64 (l:Int),.int .i64 (i:Int)] W' fun e w'=>e=.returned (.int .i64 (kF P l i))∧Below W'.heap.size W' w'):=by rw [hn];exact HPT
 clear HPT hn
 generalize tx P.cs.ch=t1 at *
 generalize tx P.cs.mi=t2 at *
 generalize tx P.cs.ga=t3 at *
 generalize tx P.cs.re=t4 at *
 generalize (P.xs.map tx).length=na at *
 generalize (P.tp.map tx).length=nt at *
 obtain ⟨wP,bX⟩ : ∃ wP,wP=w.alloc (Obj.cells #[.slice (some ⟨bg,og,none⟩) n cg,.slice pa na ca,.slice oQ nt ct,.string t1,.string t2,.string t3,.string t4] 37):=⟨_,rfl⟩
 have eT:Below w.heap.size w wP:=by rw [bX];exact ae _ _
 have hpq:wP.heap[w.heap.size]?=some (.cells #[.slice (some ⟨bg,og,none⟩) n cg,.slice pa na ca,.slice oQ nt ct,.string t1,.string t2,.string t3,.string t4] 37 (0,0)):=by rw [bX];exact World.alloc_heap_new _ _
 have RX:=hid bX
 have uH:=hid eT
 have mG:=hid hpq
 have HAL:=hid (fun W (hb:Below wP.heap.size wP W)=>show W.heap[w.heap.size]?=some (.cells #[.slice (some ⟨bg,og,none⟩) n cg,.slice pa na ca,.slice oQ nt ct,.string t1,.string t2,.string t3,.string t4] 37 (0,0))∧Below w.heap.size w W from ⟨(hb.block _ (aa hpq)).trans hpq,eT.trans (hb.mono eT.size)⟩)
 have HBG:=hid hbl
 clear bX eT hpq hbl
 obtain ⟨i0,hii,hz0,hz1,hz2⟩:=info_parts Ah.info
 obtain ⟨ib,hib,hy0,hy1,hy2⟩:=info_parts xV.info
 have HSI:=hid (And.intro hii (And.intro hz0 (And.intro hz1 hz2)))
 have UL:=hid (And.intro hib (And.intro hy0 (And.intro hy1 hy2)))
 clear hii hz0 hz1 hz2 hib hy0 hy1 hy2
 go_enter Tryz.func33,Tryz.ntmps33
 go_upto_region 1 with fail
 rw [←RX.out]
 go_wp2_with fail
 have HB0:=hid (Below.refl wP.heap.size wP)
 go_loopw [3,4,5,6,7,8,9,10] (fun ov iv _ _ _ _ _ _ wr=>∃ (i:Nat) (T:List iN),i≤n∧iv=.int .i64 (i:Int)∧T.map (·.1)=(Y6 P i).map (IX P)∧IW wP.heap.size wr ov T∧T.length≤8*i∧Below wP.heap.size wP wr) (fun _ iv _ _ _ _ _ _ _=>n-(intOf iv).toNat)
 case atStart=>exact ⟨0,[],Nat.zero_le _,rfl,rfl,IW.nil _ _,Nat.zero_le _,HB0.out⟩
 case round =>
  obtain ⟨i,T,hin,rfl,hT,hW,hTl,hbr⟩:=hrel
  generalize wr=wO at *
  have HT:=hid hT
  have HW:=hid hW
  have uE:=hid hbr
  have hpo:=(HAL.out _ hbr).1
  obtain ⟨p0,p1,p2,p3,p4,p5,p6⟩:=au hpo
  clear hT hW hbr hpo
  by_cases hi:i<n
  ·have kn:decide ((i:Int)<(n:Int))=true:=decide_eq_true (by omega)
   have Gc:i<P.lg.length:=by rw [←HN.out];exact hi
   have HIL:=hid Gc
   obtain ⟨pl,cl,hcl⟩:=HLC.out i Gc
   have Cw:=hid hcl
   obtain ⟨m,hm⟩ : ∃ q,q=(ai P i).length:=⟨_,rfl⟩
   have UG:m≤8:=by rw [hm];exact Ue.out i Gc
   have HM:=hid hm
   have w5:IntKind.i64.wrap ((i:Int)+1)=(i:Int)+1:=IntWalk.i64_in _ (by omega)
   have e1:(0:Int)≤(i:Int):=by omega
   have e2:(i:Int)<(n:Int):=by omega
   clear Gc hcl hm
   go_wp2_with fail
   clear p0 p1 p2 p3 p4 p5 p6
   go_loopw [3,5,6,7,8,9,10] (fun ov kv _ _ _ _ _ wr=>∃ (k:Nat) (U:List iN),k≤m∧kv=.int .i64 (k:Int)∧U.map (·.1)=(Y6 P i++Li P i k).map (IX P)∧IW wP.heap.size wr ov U∧U.length≤8*i+k∧Below wP.heap.size wP wr) (fun _ kv _ _ _ _ _ _=>m-(intOf kv).toNat)
   case atStart=>exact ⟨0,T,Nat.zero_le _,rfl,by rw [HT.out];unfold Li;simp,HW.out,by omega,uE.out⟩
   case round =>
    clear HT HW uE hTl
    obtain ⟨k,U,YU,rfl,hU,hW,hUl,hbr⟩:=hrel
    generalize wr=wI at *
    have HU:=hid hU
    have HW:=hid hW
    have G8:=hid hbr
    obtain ⟨hpo,hbw⟩:=HAL.out _ hbr
    have qA:=hid hbw
    obtain ⟨p0,p1,p2,p3,p4,p5,p6⟩:=au hpo
    have c0:=(hbw.cell (p:=⟨bg,og+i,none⟩) HBG.out).trans Cw.out
    rw [←HM.out] at c0
    have HPO:=hid hpo
    clear hU hW hbr hpo hbw
    by_cases hk:k<m
    ·have Jc:decide ((k:Int)<(m:Int))=true:=decide_eq_true (by omega)
     have w6:IntKind.i64.wrap ((k:Int)+1)=(k:Int)+1:=IntWalk.i64_in _ (by omega)
     go_wp2_with fail
     obtain ⟨q,hq⟩ : ∃ q,q=if 0<i then (ai P (i-1)).length else 0:=⟨_,rfl⟩
     have hq8:q≤8:=by
      rw [hq]
      split
      ·exact Ue.out (i-1) (by have:=HIL.out;omega)
      ·exact Nat.zero_le _
     have HQ:=hid hq
     have agS:=hid (Below.refl wI.heap.size wI)
     clear hq p0 p1 p2 p3 p4 p5 p6 c0
     go_loopw [6,7] (fun fv jv wr=>∃ j:Nat,j≤q∧jv=.int .i64 (j:Int)∧fv=.bool (frB P i k j)∧Below wI.heap.size wI wr) (fun _ jv _=>q-(intOf jv).toNat)
     case atStart=>exact ⟨0,Nat.zero_le _,rfl,rfl,agS.out⟩
     case round =>
      obtain ⟨j,hjq,rfl,rfl,vF⟩:=hrel
      generalize wr=wJ at *
      have E8:=hid vF
      have HB2:=hid (G8.out.trans (vF.mono G8.out.size))
      obtain ⟨hpo,hbw⟩:=HAL.out _ HB2.out
      have adA:=hid hbw
      obtain ⟨p0,p1,p2,p3,p4,p5,p6⟩:=au hpo
      have ahP:=hid hpo
      have c0:=(hbw.cell (p:=⟨bg,og+i,none⟩) HBG.out).trans Cw.out
      rw [←HM.out] at c0
      clear hpo hbw vF
      by_cases hc:0<i∧j<q
      ·obtain ⟨hi0,hj⟩:=hc
       have YB:i-1<P.lg.length:=by have:=HIL.out;omega
       obtain ⟨pl9,cl9,YC⟩:=HLC.out (i-1) YB
       have c9:=(adA.out.cell (p:=⟨bg,og+(i-1),none⟩) HBG.out).trans YC
       have hq2:(ai P (i-1)).length=q:=by rw [HQ.out,if_pos hi0]
       rw [hq2] at c9
       have k1:decide ((0:Int)<(i:Int))=true:=decide_eq_true (by omega)
       have k2:decide ((j:Int)<(q:Int))=true:=decide_eq_true (by omega)
       have n1:decide (0<i)=true:=decide_eq_true hi0
       have n2:decide (j<q)=true:=decide_eq_true hj
       have k3:IntKind.i64.wrap ((i:Int)-1)=(i:Int)-1:=IntWalk.i64_in _ (by omega)
       have k4:(0:Int)≤(i:Int)-1:=by omega
       have k5:(i:Int)-1<(n:Int):=by omega
       have k6:((i:Int)-1).toNat=i-1:=by omega
       have w7:IntKind.i64.wrap ((j:Int)+1)=(j:Int)+1:=IntWalk.i64_in _ (by omega)
       have hpc:=afn.out (i-1) j (by omega) wJ adA.out
       rw [show ((i-1:Nat):Int)=(i:Int)-1 by omega] at hpc
       have ZN:=hid hpc
       have HPN:=hid (adz (P:=P) (l:=i-1) (j:=j) (k:=k))
       have HFS:=hid (Yw P i k j)
       generalize kF P (i-1) j=pq at *
       generalize decide (fQ P (i-1) j≠some k)=pb at *
       clear YC YB hi0 hq2 hpc
       cases hfb:frB P i k j with
       | false =>
        rw [hfb] at HFS
        as_aux_lemma =>
         go_wp2
         refine ⟨⟨j+1,hj,aA j,by rw [HFS.out];rfl,E8.out⟩,?_⟩
         show q-((j:Int)+1).toNat<q-((j:Int)).toNat
         omega
       | true =>
        rw [hfb] at HFS
        have hpn:=HPN.out
        as_aux_lemma =>
         go_wp2_with fail
         refine ZN.out.mono ?_
         rintro e w7 ⟨rfl,Db⟩
         have HB7:=hid (E8.out.trans (Db.mono E8.out.size))
         clear Db p0 p1 p2 p3 p4 p5 p6 c0 c9
         go_wp2
         refine ⟨⟨j+1,hj,aA j,by rw [HFS.out];rfl,HB7.out⟩,?_⟩
         show q-((j:Int)+1).toNat<q-((j:Int)).toNat
         omega
      ·have HFR:=hid (show frB P i k j=AL P i k by
        rcases Nat.eq_zero_or_pos i with rfl | h0
        ·have hj0:j=0:=by have:=HQ.out;simp at this;omega
         rw [hj0]
         rfl
        ·obtain ⟨i',rfl⟩ : ∃ i',i=i'+1:=⟨i-1,by omega⟩
         have hj0:j=q:=by omega
         have h1:=HQ.out
         rw [if_pos h0] at h1
         rw [hj0,h1]
         rfl)
       have HIJ:i=0∨(0<i∧j=q):=by omega
       rcases HIJ with h0 | ⟨h0,h1⟩
       case' inl =>
        have k1:decide ((0:Int)<(i:Int))=false:=decide_eq_false (by omega)
        have n1:decide (0<i)=false:=decide_eq_false (by omega)
        clear hc h0
        go_upto_region 13 with fail
       case' inr =>
        have YB:i-1<P.lg.length:=by have:=HIL.out;omega
        obtain ⟨pl9,cl9,YC⟩:=HLC.out (i-1) YB
        have c9:=(adA.out.cell (p:=⟨bg,og+(i-1),none⟩) HBG.out).trans YC
        have hq2:(ai P (i-1)).length=q:=by rw [HQ.out,if_pos h0]
        rw [hq2] at c9
        have k1:decide ((0:Int)<(i:Int))=true:=decide_eq_true (by omega)
        have k2:decide ((j:Int)<(q:Int))=false:=decide_eq_false (by omega)
        have n1:decide (0<i)=true:=decide_eq_true h0
        have n2:decide (j<q)=false:=decide_eq_false (by omega)
        have k3:IntKind.i64.wrap ((i:Int)-1)=(i:Int)-1:=IntWalk.i64_in _ (by omega)
        have k4:(0:Int)≤(i:Int)-1:=by omega
        have k5:(i:Int)-1<(n:Int):=by omega
        have k6:((i:Int)-1).toNat=i-1:=by omega
        clear YC YB h0 hq2 hc h1
        go_upto_region 13 with fail
       all_goals
        rw [HFR.out]
        have Uh:=hid (RD P i k)
        cases hfr:AL P i k with
        | false =>
         rw [hfr] at Uh
         as_aux_lemma =>
          have HU2:=hid (show U.map (·.1)=(Y6 P i++Li P i (k+1)).map (IX P) by rw [Uh.out,if_neg (by decide),List.append_nil];exact HU.out)
          have HW2:=hid (HW.out.below E8.out)
          go_wp2
          refine ⟨⟨k+1,U,hk,aA k,HU2.out,HW2.out,by omega,HB2.out⟩,?_⟩
          show m-((k:Int)+1).toNat<m-((k:Int)).toNat
          omega
        | true =>
         rw [hfr] at Uh
         as_aux_lemma =>
          have HW2:=hid (HW.out.below E8.out)
          obtain ⟨wB,iy⟩ : ∃ q,q=wJ.alloc (Obj.cells #[.int .i64 (i:Int),.slice none 0 0] 79):=⟨_,rfl⟩
          have il:Below wJ.heap.size wJ wB:=by rw [iy];exact ae _ _
          have Ry:wB.heap[wJ.heap.size]?=some (.cells #[.int .i64 (i:Int),.slice none 0 0] 79 (0,0)):=by rw [iy];exact World.alloc_heap_new _ _
          have xJ:=hid iy
          have dY:=hid il
          have HOB:=hid Ry
          have Mi:=hid (show wB.heap.size=wJ.heap.size+1 by rw [iy];simp)
          clear iy il Ry p0 p1 p2 p3 p4 p5 p6 c0
          go_upto_region 15 with fail
          rw [←xJ.out]
          clear xJ
          go_wp2_with fail
          have HCH:=hid (show Je P (P.lg.length-1-i) i k=[]++chR P i (k:Int) by unfold chR;rw [if_pos (by omega)];simp)
          go_loopw [9,10] (fun lv av wr=>∃ (l:Nat) (a:Int) (L:List Nat) (vb:Value),lv=.int .i64 (l:Int)∧av=.int .i64 a∧l≤n∧(0≤a→l<n) ∧ -1≤a∧Je P (P.lg.length-1-i) i k=L++chR P l a∧L.length≤l∧Below wJ.heap.size wJ wr∧wr.heap[wJ.heap.size]?=some (.cells #[.int .i64 (i:Int),vb] 79 (0,0))∧wr.ownsRow (wJ.heap.size+1) 3 1 vb L.length (mq L)) (fun lv _ _=>n+1-(intOf lv).toNat)
          case atStart=>exact ⟨i,(k:Int),[],.slice none 0 0,rfl,rfl,by omega,fun _=>hi,by omega,HCH.out,Nat.zero_le _,dY.out,HOB.out,World.ownsRow_nil _ _ _ _⟩
          case round =>
           obtain ⟨l,a,L,vb,rfl,rfl,hln,hal,ha1,hch,hLl,hbL,vM,hrow⟩:=hrel
           generalize wr=wL at *
           have afo:=hid hch
           have HBL:=hid hbL
           have HOL:=hid vM
           obtain ⟨_,pb,cb,rfl,hcb,ahQ,_⟩:=Reads.bu hrow
           have HRW:=hid hrow
           have Po:=hid (HB2.out.trans (hbL.mono HB2.out.size))
           obtain ⟨hpo,hbw⟩:=HAL.out _ Po.out
           have ahR:=hid hbw
           obtain ⟨b0,b1,_,_⟩:=aj vM
           have lB:=aa vM
           obtain ⟨p0,p1,p2,p3,p4,p5,p6⟩:=au hpo
           have ahS:=hid hpo
           clear hch hbL vM hbw hpo hrow
           by_cases ha:0≤a
           ·obtain ⟨A,rfl⟩ : ∃ A:Nat,a=(A:Int):=⟨a.toNat,by omega⟩
            have hl1:=hal ha
            have k1:decide ((0:Int)≤(A:Int))=true:=decide_eq_true ha
            have w8:IntKind.i64.wrap ((l:Int)+1)=(l:Int)+1:=IntWalk.i64_in _ (by omega)
            have CB:=hid (show Je P (P.lg.length-1-i) i k=(L ++ [A])++chR P (l+1) (kF P l A) by rw [afo.out,Yx];simp)
            have HPL:=hid (And.intro (Yy P l A) (fun h=>by have:=Yz (P:=P) (l:=l) (i:=A) h;rw [HN.out];exact this:0≤kF P l A→l+1<n))
            have ZN:=hid (fun W' (hb:Below w.heap.size w W')=>afn.out l A (by omega) W' hb)
            generalize kF P l A=pq at *
            obtain ⟨hii,hz0,hz1,hz2⟩:=HSI.out
            obtain ⟨wA,aS⟩ : ∃ q,q=wL.alloc (Obj.cells #[.int .i64 (A:Int)] 3):=⟨_,rfl⟩
            have aP:Below wL.heap.size wL wA:=by rw [aS];exact ae _ _
            have vN:wA.ownsRow (wJ.heap.size+1) 3 1 (.slice pb L.length cb) L.length (mq L):=by rw [aS];exact HRW.out.alloc _
            have hoA:=(aP.block _ (aa HOL.out)).trans HOL.out
            have hcA:∀ j u,[Value.int .i64 (A:Int)][j]?=some u→wA.cell? ((⟨wL.heap.size,0,none⟩ : Addr).add j)=some u:=by rw [aS];exact cell_one_new _ _ _
            have hsA:wJ.heap.size+1≤wA.heap.size:=aa hoA
            have LF:=hid aS
            have HOA:=hid hoA
            have yN:=hid vN
            have eF:=hid (HBL.out.trans (aP.mono HBL.out.size))
            clear aS aP ha hal ha1
            have hNL:L.length≤20:=by omega
            go_upto_region 19 with (at_builtin;rw [←LF.out];refine wpList_append_own _ rfl _ _ 77 rfl (wJ.heap.size+1) 3 i0 (.int .i64 0) 1 8 Ah.ht hii hz0 hz1 hz2 Ah.hzs Ah.hsz _ L.length (mq L) rfl yN.out ⟨wL.heap.size,0,none⟩ 1 1 [.int .i64 (A:Int)] rfl rfl hcA (by simp [Value.oneCell']) (by unfold maxLen;omega) (by omega) hsA ?_;intro v9 wz5 hown5 hg5 xW;obtain ⟨g9,rO,rfl⟩:=ownsRow_succ hown5;have hB5:Below wJ.heap.size wJ wz5:=eF.out.grown hg5 (by omega) (fun r e=>Nat.le_of_succ_le (yN.out.lt r e).1);have hx5:=(hg5.block wJ.heap.size (aa HOA.out) (fun e=>by have:=(yN.out.lt _ e.symm).1;omega)).trans HOA.out;have HX5:=hid hx5;have ze:=hid hB5;have YD:=hid hown5;obtain ⟨_,_,_,_⟩:=aj hx5;have hl5:=aa hx5;clear hown5 hg5 xW hB5 hx5)
            obtain ⟨w6,RQ⟩ : ∃ q,q=wz5.setCell ⟨wJ.heap.size,1,none⟩ (.slice (some ⟨g9,0,none⟩) (L.length+1) rO):=⟨_,rfl⟩
            have hb6:Below wJ.heap.size wJ w6:=by rw [RQ];exact ze.out.setCell (p:=⟨_,1,none⟩) (Nat.le_refl _) _
            have ho6:w6.heap[wJ.heap.size]?=some (.cells #[.int .i64 (i:Int),.slice (some ⟨g9,0,none⟩) (L.length+1) rO] 79 (0,0)):=by rw [RQ];exact aV _ HX5.out
            have hr6:w6.ownsRow (wJ.heap.size+1) 3 1 (.slice (some ⟨g9,0,none⟩) (L.length+1) rO) (L ++ [A]).length (mq (L ++ [A])):=by
             rw [RQ,RF,List.length_append]
             exact ownsRow_setCell_below YD.out (by simp) _
            rw [←RQ]
            have HO6:=hid ho6
            have HR6:=hid hr6
            have Nz:=hid (HB2.out.trans (hb6.mono HB2.out.size))
            have afp:=hid hb6
            obtain ⟨afq,QX⟩:=HAL.out _ Nz.out
            have agT:=hid QX
            clear RQ hb6 ho6 hr6 p0 p1 p2 p3 p4 p5 p6 b0 b1
            obtain ⟨p0,p1,p2,p3,p4,p5,p6⟩:=au afq
            clear afq QX
            go_wp2_with fail
            refine (ZN.out w6 agT.out).mono ?_
            rintro e w7 ⟨rfl,Db⟩
            have HJ7:=hid (afp.out.trans (Db.mono afp.out.size))
            have HO7:=hid ((Db.block _ (aa HO6.out)).trans HO6.out)
            have HR7:=hid (di HR6.out Db)
            clear Db p0 p1 p2 p3 p4 p5 p6
            go_wp2
            refine ⟨⟨l+1,pq,L ++ [A],_,aA l,rfl,by omega,HPL.out.2,HPL.out.1,CB.out,by simp;omega,HJ7.out,HO7.out,HR7.out⟩,?_⟩
            show n+1-((l:Int)+1).toNat<n+1-((l:Int)).toNat
            omega
           ·have k1:decide ((0:Int)≤a)=false:=decide_eq_false ha
            have YQ:=hid (show Je P (P.lg.length-1-i) i k=L by rw [afo.out];unfold chR;rw [if_neg ha,List.append_nil])
            have HUE:=hid (show (U ++ [((i,L),Value.slice pb L.length cb)]).map (·.1)=(Y6 P i++Li P i (k+1)).map (IX P) by
             rw [Uh.out,if_pos trivial,←List.append_assoc,List.map_append,List.map_append,HU.out]
             show _ ++ [(i,L)]=_ ++ [IX P (i,k)]
             unfold IX
             rw [YQ.out])
            obtain ⟨hib,hy0,hy1,hy2⟩:=UL.out
            have hWL:=HW2.out.below (show Below wJ.heap.size wJ wL from HBL.out)
            have HWL:=hid hWL
            have HRL:=hid (show wL.ownsRow wP.heap.size 3 1 (.slice pb L.length cb) L.length (mq L) from nD HRW.out (Nat.le_succ_of_le HB2.out.size))
            obtain ⟨_,po,co,agU,hco,hcom,_⟩:=Reads.bu hWL.row
            subst agU
            have HSL:=hid (show wP.heap.size≤wL.heap.size from Po.out.size)
            have hsl:=HSL.out
            obtain ⟨nU,hnU⟩ : ∃ q,q=U.length:=⟨_,rfl⟩
            have hnu:nU≤500:=by omega
            have YE:=HWL.out.row
            rw [←hnU] at YE ⊢
            have HNU:=hid hnU
            clear hWL hnU
            obtain ⟨wA,aS⟩ : ∃ q,q=wL.alloc (Obj.cells #[.int .i64 (i:Int),.slice pb L.length cb] 79):=⟨_,rfl⟩
            have hcA:∀ j u,[Value.int .i64 (i:Int),.slice pb L.length cb][j]?=some u→wA.cell? ((⟨wL.heap.size,0,none⟩ : Addr).add j)=some u:=by rw [aS];exact cell_two_new _ _ _ _
            have vN:wA.ownsRow wP.heap.size 79 2 (.slice po nU co) nU (gp U):=by rw [aS];exact YE.alloc _
            have aP:Below wL.heap.size wL wA:=by rw [aS];exact ae _ _
            have hsA:wP.heap.size≤wA.heap.size:=Nat.le_trans hsl aP.size
            have eF:=hid (Po.out.trans (aP.mono Po.out.size))
            have LF:=hid aS
            have yN:=hid vN
            clear aS vN aP YE
            go_wp2_with (at_builtin;rw [←LF.out];refine wpList_append_own _ rfl _ _ 74 rfl wP.heap.size 79 ib (.agg #[.int .i64 0,.slice none 0 0]) 2 32 xV.ht hib hy0 hy1 hy2 xV.hzs xV.hsz _ nU (gp U) rfl yN.out ⟨wL.heap.size,0,none⟩ 1 1 [.int .i64 (i:Int),.slice pb L.length cb] rfl rfl hcA (by simp [Value.oneCell']) (by unfold maxLen;omega) (by omega) hsA ?_;intro v9 wz5 hown5 hg5 xW;have YD:=hid hown5;have ze:=hid (show Below wP.heap.size wP wz5 from eF.out.grown hg5 (by omega) (fun r e=>(yN.out.lt r e).1));have Wi:=hid (show wA.grownBy wz5 (Value.slice po nU co).ownBlock from hg5);clear hown5 hg5 xW)
            refine ⟨⟨k+1,U ++ [((i,L),.slice pb L.length cb)],hk,aA k,HUE.out,?_,by simp;omega,ze.out⟩,?_⟩
            ·have hw:=YD.out
             have hg:=Wi.out
             rw [HNU.out] at hw hg
             rw [LF.out] at hg
             exact HWL.out.push (k:=i) (L:=L) HRL.out hg hw
            show m-((k:Int)+1).toNat<m-((k:Int)).toNat
            omega
    ·obtain rfl:k=m:=by omega
     have Jc:decide ((k:Int)<(k:Int))=false:=decide_eq_false (by omega)
     have HUU:=hid (show U.map (·.1)=(Y6 P (i+1)).map (IX P) by rw [HU.out];show _=(Y6 P i++qD P i).map (IX P);unfold Li qD;rw [HM.out])
     have HWI:=hid HPO.out
     go_wp2
     refine ⟨⟨i+1,U,hi,aA i,HUU.out,HW.out,by omega,G8.out⟩,?_⟩
     show n-((i:Int)+1).toNat<n-((i:Int)).toNat
     omega
  ·obtain rfl:i=n:=by omega
   have kn:decide ((i:Int)<(i:Int))=false:=decide_eq_false (by omega)
   have HFF:=hid (show T.map (·.1)=PO P by rw [HT.out,HFI.out,HN.out])
   have HWF:=hid (show IW w.heap.size wO u3 T from ⟨nD HW.out.row uH.out.size,fun x hx=>nD (HW.out.own x hx) uH.out.size⟩)
   have QV:=hid (HAL.out _ uE.out).2
   go_wp2
   go_ret
   exact ⟨_,_,rfl,HFF.out,HWF.out,QV.out⟩
end Go.Proofs.YtglncfkoohgdaaaGreatDoor
