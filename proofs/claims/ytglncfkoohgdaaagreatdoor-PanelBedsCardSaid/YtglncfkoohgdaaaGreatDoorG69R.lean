import Derived.Test.YtglncfkoohgdaaaGreatDoorG49R
import Derived.Test.YtglncfkoohgdaaaGreatDoorG65R
import Derived.Test.YtglncfkoohgdaaaGreatDoorStillR
import Derived.Test.YtglncfkoohgdaaaGreatDoorG48R
import Derived.Test.YtglncfkoohgdaaaGreatDoorG44R
set_option maxRecDepth 100000
set_option maxHeartbeats 40000000
namespace Go.Proofs.YtglncfkoohgdaaaGreatDoor
open Go.RowKit Go.Shelf
open Go.Lib (decDigits itoa nDigits)
open Go.Lib (hid)
attribute [local go_sem] Oper.semAt_some
theorem PS {W:World} {B:Nat} {s:Nat→Value} {D:dD} {t:TypeId} {fz:Nat × Nat} (h:W.heap[B]?=some (.cells (EB s D) t fz)):W.cell? ⟨B,0,none⟩=some (s 0)∧W.cell? ⟨B,1,none⟩=some (s 1)∧W.cell? ⟨B,2,none⟩=some (s 2)∧W.cell? ⟨B,3,none⟩=some (s 3)∧W.cell? ⟨B,4,none⟩=some (.int .u8 (D.cnt:Int))∧W.cell? ⟨B,5,none⟩=some (.int .u8 (D.st 0:Int))∧W.cell? ⟨B,6,none⟩=some (.int .u8 (D.st 1:Int))∧W.cell? ⟨B,7,none⟩=some (.int .u8 (D.st 2:Int))∧W.cell? ⟨B,8,none⟩=some (.int .u8 (D.st 3:Int))∧W.cell? ⟨B,9,none⟩=some (.int .i8 (D.tp 0))∧W.cell? ⟨B,10,none⟩=some (.int .i8 (D.tp 1))∧W.cell? ⟨B,11,none⟩=some (.int .i8 (D.tp 2))∧W.cell? ⟨B,12,none⟩=some (.int .i8 (D.tp 3))∧W.cell? ⟨B,13,none⟩=some (.int .u8 (D.co 0:Int))∧W.cell? ⟨B,14,none⟩=some (.int .u8 (D.co 1:Int))∧W.cell? ⟨B,15,none⟩=some (.int .u8 (D.co 2:Int))∧W.cell? ⟨B,16,none⟩=some (.int .u8 (D.co 3:Int)):=by
 unfold EB at h
 refine ⟨?_,?_,?_,?_,?_,?_,?_,?_,?_,?_,?_,?_,?_,?_,?_,?_,?_⟩ <;> simp [World.cell?,h]
theorem PR.val {W:World} {b off n c:Nat} {T:List iN} (h:PR W (.slice (some ⟨b,off,none⟩) n c) T) {i:Nat} {x:iN} {u:Value} (hx:T[i]?=some x) (hu:W.cell? ⟨b,off+i*2+1,none⟩=some u):u=x.2:=by
 obtain ⟨hl,p',c',hv,_,_,hc⟩:=h.row
 cases hv
 obtain ⟨hi,_⟩:=List.getElem?_eq_some_iff.1 hx
 obtain ⟨b',off',e,_,hcell⟩:=hc (by omega)
 cases e
 obtain ⟨_,g1⟩:=oN T i x hx
 obtain ⟨l1,g1⟩:=List.getElem?_eq_some_iff.1 g1
 exact Option.some.inj (hu.symm.trans ((hcell (i*2+1) l1).trans (congrArg some g1)))
theorem law_beds {w:World} (s:Nat→Value) (D:dD) (hP:DN w s D) (hw:Good w):Calls Tryz.prog 8 #[.agg (EB s D)] w (RV (.bool true) w):=by
 have HKN:=hid (fun W' (hb:Below w.heap.size w W')=>Rx (hw.below hb))
 have ZH:=hid (fun W' (hb:Below w.heap.size w W')=>Wj s D (hP.below hb))
 have HMK:=hid (fun h4 W' (hb:Below w.heap.size w W')=>Wp s D h4 (hP.below hb) (hw.below hb))
 have HW:=hid hw
 obtain ⟨wB,iy⟩ : ∃ wB,wB=w.alloc (Obj.cells (EB s D) 28):=⟨_,rfl⟩
 have hb:Below w.heap.size w wB:=by rw [iy];exact ae _ _
 have hc:wB.heap[w.heap.size]?=some (.cells (EB s D) 28 (0,0)):=by rw [iy];exact World.alloc_heap_new _ _
 have HC:=hid hc
 have HB:=hid hb
 have xJ:=hid iy
 clear iy hb hc hP hw
 unfold RV at HKN ZH ⊢
 unfold EB at ZH HMK xJ ⊢
 go_enter Tryz.func8,Tryz.ntmps8
 go_upto_region 1 with fail
 rw [←xJ.out]
 go_wp2_with fail
 refine (HKN.out wB HB.out).mono ?_
 rintro e w1 ⟨rfl,hb1⟩
 have HBa:=hid (HB.out.trans (hb1.mono HB.out.size))
 have hx1:=(hb1.block _ (aa HC.out)).trans HC.out
 have HX1:=hid hx1
 obtain ⟨q0,q1,q2,q3,q4,q5,q6,q7,q8,q9,q10,q11,q12,q13,q14,q15,q16⟩:=PS hx1
 clear hx1 hb1
 go_wp2_with fail
 refine (ZH.out w1 HBa.out).mono ?_
 rintro e w2 ⟨rfl,hb2⟩
 have HBb:=hid (HBa.out.trans (hb2.mono HBa.out.size))
 have hx2:=(hb2.block _ (aa HX1.out)).trans HX1.out
 clear q0 q1 q2 q3 q4 q5 q6 q7 q8 q9 q10 q11 q12 q13 q14 q15 q16
 cases hfit:Rp D with
 | false =>
  clear hx2 hb2
  as_aux_lemma =>
   go_wp2_with fail
   refine (HKN.out w2 HBb.out).mono ?_
   rintro e w3 ⟨rfl,hb3⟩
   have HB3:=hid (HBb.out.trans (hb3.mono HBb.out.size))
   clear hb3
   go_wp2
   go_ret
   exact ⟨rfl,HB3.out⟩
 | true =>
  as_aux_lemma =>
   have HF4:=hid ((DR D).1 hfit)
   clear hfit
   have aft:=hx2
   obtain ⟨q0,q1,q2,q3,q4,q5,q6,q7,q8,q9,q10,q11,q12,q13,q14,q15,q16⟩:=PS aft
   clear hx2 aft hb2
   go_wp2_with fail
   refine (HMK.out HF4.out w2 HBb.out).mono ?_
   rintro e w3 ⟨vg,va,vt,rfl,hPM,hb3⟩
   have HO:=hid (aaO HF4.out)
   obtain ⟨n,hn⟩ : ∃ n,n=(iq D).lg.length:=⟨_,rfl⟩
   obtain ⟨m,Ze⟩ : ∃ m,m+1=n:=⟨n-1,by have:=HO.out.n2;omega⟩
   have xE:n≤20:=by rw [hn];exact HO.out.n20
   obtain ⟨pg,cg,rfl,hcg,agW⟩ : ∃ p c,vg=.slice p n c∧n≤c∧c≤maxLen:=by obtain ⟨p,c,h,h1,h2⟩:=hPM.g.slice;exact ⟨p,c,by rw [hn];exact h,by rw [hn];exact h1,h2⟩
   obtain ⟨pa,ca,rfl,ET,ahT⟩ : ∃ p c,va=.slice p n c∧n≤c∧c≤maxLen:=by obtain ⟨p,c,h,h1,h2⟩:=hPM.a.slice;rw [List.length_map,HO.out.nx,←hn] at h h1;exact ⟨p,c,h,h1,h2⟩
   obtain ⟨pt,ct,rfl,hct,ahU⟩ : ∃ p c,vt=.slice p n c∧n≤c∧c≤maxLen:=by obtain ⟨p,c,h,h1,h2⟩:=hPM.t.slice;rw [List.length_map,HO.out.nt,←hn] at h h1;exact ⟨p,c,h,h1,h2⟩
   have QY:=hid hPM
   have HB3:=hid (HBb.out.trans (hb3.mono HBb.out.size))
   have Hf:=hid (Ze.trans hn)
   have Yl:iX=fun vg va vt C=>.agg #[vg,va,vt,.string (tx C.ch),.string (tx C.mi),.string (tx C.ga),.string (tx C.re)]:=rfl
   have je:=hid (fun W' (hb:Below w3.heap.size w3 W')=>IG _ _ _ (iq D) HO.out (QY.out.below hb) (HW.out.below (HB3.out.trans (hb.mono HB3.out.size))))
   have HTH:=hid (fun W' (hb:Below w3.heap.size w3 W')=>NS _ _ _ (iq D) HO.out (QY.out.below hb) (HW.out.below (HB3.out.trans (hb.mono HB3.out.size))))
   have HLB:=hid (fun W' (hb:Below w3.heap.size w3 W')=>YA _ _ _ (iq D) HO.out (QY.out.below hb) (HW.out.below (HB3.out.trans (hb.mono HB3.out.size))))
   rw [show (iq D).cs=Y3 D from rfl] at je
   rw [show (iq D).cs=Y3 D from rfl] at HTH
   rw [show (iq D).cs=Y3 D from rfl] at HLB
   simp only [Yl] at je HTH HLB ⊢
   generalize tx (Y3 D).ch=c0 at *
   generalize tx (Y3 D).mi=c1 at *
   generalize tx (Y3 D).ga=c2 at *
   generalize tx (Y3 D).re=c3 at *
   clear hPM hb3 Yl hn
   clear q0 q1 q2 q3 q4 q5 q6 q7 q8 q9 q10 q11 q12 q13 q14 q15 q16
   obtain ⟨plv,adD⟩ : ∃ q,q=Value.agg (EB s D):=⟨_,rfl⟩
   unfold EB at adD
   rw [←adD]
   clear adD
   go_upto_region 4 with fail
   obtain ⟨wC,EZ⟩ : ∃ wC,wC=w3.alloc (Obj.cells #[.slice pg n cg,.slice pa n ca,.slice pt n ct,.string c0,.string c1,.string c2,.string c3] 37):=⟨_,rfl⟩
   rw [←EZ]
   have hbC:Below w3.heap.size w3 wC:=by rw [EZ];exact ae _ _
   have hoC:wC.heap[w3.heap.size]?=some (.cells #[.slice pg n cg,.slice pa n ca,.slice pt n ct,.string c0,.string c1,.string c2,.string c3] 37 (0,0)):=by rw [EZ];exact World.alloc_heap_new _ _
   have DX:=hid hbC
   have HOC:=hid hoC
   have lC:=aa hoC
   obtain ⟨p0,p1,p2,p3,p4,p5,p6⟩:=au hoC
   clear EZ hbC hoC
   have g0:IntKind.i64.wrap ((n:Int)-1)=(m:Int):=by rw [IntWalk.i64_in _ (by omega)];omega
   clear HKN ZH HMK HC HB xJ HX1 QY
   as_aux_lemma =>
    obtain ⟨hbl,hbe⟩:=DW HO.out
    have hnl:(iq D).lg.length=n:=by have:=Hf.out;omega
    have hn0:0<(iq D).lg.length:=by omega
    rw [hnl] at HTH
    have Eu:=hid hbl
    have HEA:=hid hbe
    have HEQ:=hid (abf hn0)
    clear hbl hbe hnl hn0
    go_wp2_with fail
    refine (je.out wC DX.out).mono ?_
    rintro e wD ⟨v1,A,rfl,hA,hVA,hbD⟩
    obtain ⟨p1',k1,rfl,hk1,agX⟩:=hVA.toW.reads.slice
    have HA:=hid hA
    have yN:=hid hVA.toW.reads
    have adE:=hid (DX.out.trans (hbD.mono DX.out.size))
    have hoD:=(hbD.block _ (aa HOC.out)).trans HOC.out
    have HOD:=hid hoD
    clear p0 p1 p2 p3 p4 p5 p6 hA hVA hbD
    obtain ⟨p0,p1,p2,p3,p4,p5,p6⟩:=au hoD
    clear hoD
    go_wp2_with fail
    refine (HTH.out wD adE.out).mono ?_
    rintro e wE ⟨v2,B,rfl,hB,hVB,VL⟩
    obtain ⟨p2',k2,rfl,hk2,agY⟩:=hVB.reads.slice
    have HB:=hid hB
    have HRB:=hid hVB.reads
    have afu:=hid (yN.out.below VL)
    have xI:=hid (adE.out.trans (VL.mono adE.out.size))
    have hoE:=(VL.block _ (aa HOD.out)).trans HOD.out
    have HOE:=hid hoE
    clear p0 p1 p2 p3 p4 p5 p6 hB hVB VL yN
    obtain ⟨p0,p1,p2,p3,p4,p5,p6⟩:=au hoE
    clear hoE
    go_wp2_with fail
    refine (HLB.out wE xI.out).mono ?_
    rintro e wF ⟨v3,C,rfl,hC,hVC,MZ⟩
    obtain ⟨p3',k3,rfl,hk3,agZ⟩:=hVC.reads.slice
    have HC:=hid hC
    obtain ⟨N,hN⟩ : ∃ N,N=C.length:=⟨_,rfl⟩
    have HN:=hid hN
    have hrc:=hVC.reads
    rw [←hN] at hk3 hrc ⊢
    have HRC:=hid hrc
    clear hrc
    have ag0:=hid (afu.out.below MZ)
    have ag1:=hid (HRB.out.below MZ)
    have QV:=hid (xI.out.trans (MZ.mono xI.out.size))
    have hoF:=(MZ.block _ (aa HOE.out)).trans HOE.out
    have HOF:=hid hoF
    clear p0 p1 p2 p3 p4 p5 p6 hC hVC MZ afu HRB hoF
    have hN1:N≤1000:=by
     rw [hN,←List.length_map (f:=(·.1)),HC.out,←HEQ.out]
     exact Eu.out
    unfold maxLen at agX agY agZ agW
    clear hN
    go_wp2_with fail
    have HF0:=hid (Below.refl wF.heap.size wF)
    obtain ⟨ib,hib,hy0,hy1,hy2⟩:=info_parts xV.info
    have UL:=hid (And.intro hib (And.intro hy0 (And.intro hy1 hy2)))
    clear hib hy0 hy1 hy2
    go_loopw [9,10] (fun ov iv wr=>∃ (i:Nat) (T:List iN),i≤N∧iv=.int .i64 (i:Int)∧T=(C.take i).filter (fun x=>decide (x.1.2.length=n))∧wr.ownsRow wF.heap.size 79 2 ov T.length (gp T)∧Below wF.heap.size wF wr) (fun _ iv _=>N-(intOf iv).toNat)
    case atStart=>exact ⟨0,[],Nat.zero_le _,rfl,by simp,World.ownsRow_nil _ _ _ _,HF0.out⟩
    case round =>
     obtain ⟨i,T,hiN,rfl,hT,hrow,hbr⟩:=hrel
     generalize wr=wO at *
     have HT:=hid hT
     have HRO:=hid hrow
     have uE:=hid hbr
     have Uw:=(hbr.block _ (aa HOF.out)).trans HOF.out
     have HOO:=hid Uw
     obtain ⟨_,po,co,rfl,hco,hcom,_⟩:=Reads.bu hrow
     have hTl:T.length≤N:=by
      rw [hT]
      exact Nat.le_trans (List.length_filter_le _ _) (by rw [List.length_take,←HN.out];exact Nat.min_le_right _ _)
     obtain ⟨nT,hnT⟩ : ∃ q,q=T.length:=⟨_,rfl⟩
     have YV:=hid hnT
     rw [←hnT] at hco hTl ⊢
     clear hT hrow hnT
     by_cases hi:i<N
     ·obtain ⟨⟨⟨fi,L⟩,vx⟩,hx⟩ : ∃ x,C[i]?=some x:=⟨_,List.getElem?_eq_getElem (by rw [←HN.out];exact hi)⟩
      obtain ⟨b,off,q,cq,rfl,hbl,c0',c1',hcq,IY,_⟩:=(HRC.out.below hbr).at hx
      dsimp only at c0' c1' hcq
      obtain rfl:Value.slice q L.length cq=vx:=(HRC.out.below hbr).val hx c1'
      have HX:=hid hx
      have hkk:decide ((i:Int)<(N:Int))=true:=decide_eq_true (by omega)
      have w6:IntKind.i64.wrap ((i:Int)+1)=(i:Int)+1:=IntWalk.i64_in _ (by omega)
      have i1:(0:Int)≤(i:Int):=by omega
      have i2:(i:Int)<(N:Int):=by omega
      have p0:wO.cell? ⟨w3.heap.size,0,none⟩=some (.slice pg n cg):=by simp [World.cell?,Uw]
      have lP:=aa Uw
      obtain ⟨bq,hbq⟩ : ∃ bq:Bool,bq=decide (L.length=n):=⟨_,rfl⟩
      have e1:decide ((L.length:Int)=(n:Int))=bq:=by rw [hbq];exact decide_eq_decide.2 (by omega)
      have e2:((L.length:Int) == (n:Int))=bq:=by rw [←e1];rfl
      have HQ:=hid hbq
      have HCC:=hid (And.intro hbl (And.intro c0' c1'))
      clear hx hbr Uw hbq
      go_wp2_with fail
      have kL:=hid (fun W' (hS':Below wO.heap.size wO W')=>And.intro ((hS'.cell (p:=⟨b,off+i*2+1,none⟩) hbl).trans c1') ((hS'.cell (p:=⟨w3.heap.size,0,none⟩) lP).trans p0))
      refine fK (fun W'=>Below wO.heap.size wO W') (.take 0 (.take 1 (.take 2 (.take 3 (.take 4 (.take 5 (.take 6 (.take 7 (.take 8 .fin))))))))) 9 (by kernel_rfl) (by kernel_rfl) ⟨rfl,rfl,rfl,Nat.le_refl _,fun _ _=>rfl⟩ ?_
      have bZ:Below wO.heap.size wO wO.drew:=⟨rfl,rfl,rfl,Nat.le_refl _,fun _ _=>rfl⟩
      generalize wO.drew=dW at *
      iterate 9
       refine aF rfl ?_ rfl ?_ ?_
       rotate_left
       ·intro W' hS'
        obtain ⟨s0,s1⟩:=kL.out _ hS'
        go_simp
        try with_reducible rfl
       try simp only [zA,zB,zC,Act.put,zD,zE,zF]
      unfold bR
      simp only [List.drop_succ_cons,List.drop_zero]
      have eF:=hid (uE.out.trans (bZ.mono uE.out.size))
      have dY:=hid bZ
      go_wp2
      refine ag.mk ?_
      clear p0 c0' c1' lP
      obtain ⟨adF,c0',c1'⟩:=HCC.out
      have c0':=(dY.out.cell (p:=⟨b,off+i*2,none⟩) adF).trans c0'
      have c1':=(dY.out.cell (p:=⟨b,off+i*2+1,none⟩) adF).trans c1'
      have HR0:=hid (di HRO.out dY.out)
      have HX2:=HX.out
      have HTS:(C.take (i+1)).filter (fun x=>decide (x.1.2.length=n))=T++(if bq then [((fi,L),Value.slice q L.length cq)] else []):=by
       rw [List.take_add_one,HX.out,List.filter_append,←HT.out,HQ.out]
       simp only [Option.toList_some,List.filter_cons,List.filter_nil,decide_eq_true_eq]
      have HTS:=hid HTS
      clear adF HX2 e1 e2
      cases bq with
      | false =>
       clear c0' c1'
       go_wp2
       refine ⟨⟨i+1,T,hi,aA i,by rw [HTS.out];simp,?_,eF.out⟩,?_⟩
       ·rw [YV.out]
        exact HR0.out
       ·show N-((i:Int)+1).toNat<N-((i:Int)).toNat
        omega
      | true =>
       obtain ⟨hib,hy0,hy1,hy2⟩:=UL.out
       have hR0:=HR0.out
       rw [←YV.out] at hR0
       have ahV:nT≤1000:=by omega
       obtain ⟨wA,aS⟩ : ∃ q',q'=dW.alloc (Obj.cells #[.int .i64 (fi:Int),.slice q L.length cq] 79):=⟨_,rfl⟩
       have hcA:∀ j u,[Value.int .i64 (fi:Int),.slice q L.length cq][j]?=some u→wA.cell? ((⟨dW.heap.size,0,none⟩ : Addr).add j)=some u:=by rw [aS];exact cell_two_new _ _ _ _
       have vN:wA.ownsRow wF.heap.size 79 2 (.slice po nT co) nT (gp T):=by rw [aS];exact hR0.alloc _
       have aP:Below dW.heap.size dW wA:=by rw [aS];exact ae _ _
       have hsA:wF.heap.size≤wA.heap.size:=Nat.le_trans eF.out.size aP.size
       have qA:=hid (eF.out.trans (aP.mono eF.out.size))
       have LF:=hid aS
       have HRW:=hid vN
       unfold maxLen at hcom
       clear aS vN aP hR0 HR0
       go_wp2_with (at_builtin;rw [←LF.out];refine wpList_append_own _ rfl _ _ 74 rfl wF.heap.size 79 ib (.agg #[.int .i64 0,.slice none 0 0]) 2 32 xV.ht hib hy0 hy1 hy2 xV.hzs xV.hsz _ nT (gp T) rfl HRW.out ⟨dW.heap.size,0,none⟩ 1 1 [.int .i64 (fi:Int),.slice q L.length cq] rfl rfl hcA (by simp [Value.oneCell']) (by unfold maxLen;omega) (by omega) hsA ?_;intro v9 wz5 hown5 hg5 xW;have YD:=hid hown5;have ze:=hid (show Below wF.heap.size wF wz5 from qA.out.grown hg5 (by omega) (fun r e=>(HRW.out.lt r e).1));clear hown5 hg5 xW)
       refine ⟨⟨i+1,T ++ [((fi,L),.slice q L.length cq)],hi,aA i,by rw [HTS.out];simp,?_,ze.out⟩,?_⟩
       ·have hw:=YD.out
        rw [YV.out] at hw
        rw [zk,List.length_append]
        exact hw
       ·show N-((i:Int)+1).toNat<N-((i:Int)).toNat
        omega
     ·obtain rfl:i=N:=by omega
      have hkk:decide ((i:Int)<(i:Int))=false:=decide_eq_false (by omega)
      have hTC:T=C.filter (fun x=>decide (x.1.2.length=n)):=by rw [HT.out,HN.out,List.take_length]
      have YT:=hid hTC
      have Zz:=hid (show PR wO (.slice po nT co) T from ⟨by have:=Reads.bu HRO.out;rw [YV.out];exact this,fun x hx=>(HRC.out.own x (by rw [hTC] at hx;exact (List.mem_filter.1 hx).1)).below hbr⟩)
      have ag2:=hid (HRC.out.below hbr)
      have ag3:=hid (ag0.out.below hbr)
      have ag4:=hid (ag1.out.below hbr)
      have hAC:A.map (·.1)=C.map (·.1):=by rw [HA.out,HC.out,HEQ.out]
      have hBT:B.map (·.1)=T.map (·.1):=by
       rw [HB.out,HEQ.out,←HC.out,hTC,List.filter_map]
       rfl
      have hAl:A.length≤1000:=by rw [←List.length_map (f:=(·.1)),HA.out];exact Eu.out
      have hAe:∀ x∈A,x.1.2.length≤1000:=fun x hx=>HEA.out x.1 (by rw [←HA.out];exact List.mem_map_of_mem hx)
      have hBl:B.length≤1000:=by rw [←List.length_map (f:=(·.1)),HB.out];exact Nat.le_trans (List.length_filter_le _ _) Eu.out
      have hBe:∀ x∈B,x.1.2.length≤1000:=fun x hx=>HEA.out x.1 (by
       have h:x.1∈B.map (·.1):=List.mem_map_of_mem hx
       rw [HB.out] at h
       exact (List.mem_filter.1 h).1)
      have HS1:=hid (yc _ _ A C hAC hAl hAe wO ag3.out ag2.out)
      have HS2:=hid (fun W' (hb:Below wO.heap.size wO W')=>yc _ _ B T hBT hBl hBe W' (ag4.out.below hb) (Zz.out.below hb))
      unfold RV at HS1 HS2
      have afv:=hid (QV.out.trans (hbr.mono QV.out.size))
      clear hTC hbr Uw hAC hBT hAl hAe hBl hBe
      go_wp2_with fail
      refine HS1.out.mono ?_
      rintro e wG ⟨rfl,hbG⟩
      have HBG:=hid hbG
      clear hbG
      go_wp2_with fail
      refine (HS2.out wG HBG.out).mono ?_
      rintro e wH ⟨rfl,hbH⟩
      have HBH:=hid (HBG.out.trans (hbH.mono HBG.out.size))
      clear hbH
      go_wp2
      go_ret
      exact ⟨rfl,HB3.out.trans ((afv.out.trans (HBH.out.mono afv.out.size)).mono HB3.out.size)⟩
end Go.Proofs.YtglncfkoohgdaaaGreatDoor
