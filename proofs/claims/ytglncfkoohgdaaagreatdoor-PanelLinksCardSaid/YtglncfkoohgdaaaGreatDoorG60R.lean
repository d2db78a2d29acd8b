import Derived.Test.YtglncfkoohgdaaaGreatDoorG49R
import Derived.Test.YtglncfkoohgdaaaGreatDoorS5R
import Derived.Test.YtglncfkoohgdaaaGreatDoorG48R
import Derived.Test.YtglncfkoohgdaaaGreatDoorG44R
set_option maxRecDepth 100000
set_option maxHeartbeats 40000000
namespace Go.Proofs.YtglncfkoohgdaaaGreatDoor
open Go.RowKit Go.Shelf
open Go.Lib (decDigits itoa nDigits)
open Go.Lib (hid)
attribute [local go_sem] Oper.semAt_some
theorem xJ {W:World} {B:Nat} {s:Nat→Value} {D:bV} {t:TypeId} {fz:Nat × Nat} (h:W.heap[B]?=some (.cells (xH s D) t fz)):W.cell? ⟨B,0,none⟩=some (s 0)∧W.cell? ⟨B,1,none⟩=some (s 1)∧W.cell? ⟨B,2,none⟩=some (s 2)∧W.cell? ⟨B,3,none⟩=some (s 3)∧W.cell? ⟨B,4,none⟩=some (.int .u8 (D.cnt:Int))∧W.cell? ⟨B,5,none⟩=some (.int .u8 (D.st 0:Int))∧W.cell? ⟨B,6,none⟩=some (.int .u8 (D.st 1:Int))∧W.cell? ⟨B,7,none⟩=some (.int .u8 (D.st 2:Int))∧W.cell? ⟨B,8,none⟩=some (.int .u8 (D.st 3:Int))∧W.cell? ⟨B,9,none⟩=some (.int .i8 (D.tp 0))∧W.cell? ⟨B,10,none⟩=some (.int .i8 (D.tp 1))∧W.cell? ⟨B,11,none⟩=some (.int .i8 (D.tp 2))∧W.cell? ⟨B,12,none⟩=some (.int .i8 (D.tp 3))∧W.cell? ⟨B,13,none⟩=some (.int .u8 (D.co 0:Int))∧W.cell? ⟨B,14,none⟩=some (.int .u8 (D.co 1:Int))∧W.cell? ⟨B,15,none⟩=some (.int .u8 (D.co 2:Int))∧W.cell? ⟨B,16,none⟩=some (.int .u8 (D.co 3:Int)):=by
 unfold xH at h
 refine ⟨?_,?_,?_,?_,?_,?_,?_,?_,?_,?_,?_,?_,?_,?_,?_,?_,?_⟩ <;> simp [World.cell?,h]
theorem law_links {w:World} (s:Nat→Value) (D:bV) (hP:zZ w s D) (hw:Good w):Calls Tryz.prog 4 #[.agg (xH s D)] w (RV (.bool true) w):=by
 have QG:=hid (fun W' (hb:Below w.heap.size w W')=>Gg (hw.below hb))
 have OD:=hid (fun W' (hb:Below w.heap.size w W')=>K6 s D (hP.below hb))
 have R7:=hid (fun h4 W' (hb:Below w.heap.size w W')=>K7 s D h4 (hP.below hb) (hw.below hb))
 have HW:=hid hw
 obtain ⟨wB,jD⟩ : ∃ wB,wB=w.alloc (Obj.cells (xH s D) 28):=⟨_,rfl⟩
 have hb:Below w.heap.size w wB:=by rw [jD];exact ae _ _
 have hc:wB.heap[w.heap.size]?=some (.cells (xH s D) 28 (0,0)):=by rw [jD];exact World.alloc_heap_new _ _
 have HC:=hid hc
 have HB:=hid hb
 have yF:=hid jD
 clear jD hb hc hP hw
 unfold RV at QG OD ⊢
 unfold xH at OD R7 yF ⊢
 go_enter Tryz.func4,Tryz.ntmps4
 go_upto_region 1 with fail
 rw [←yF.out]
 go_wp2_with fail
 refine (QG.out wB HB.out).mono ?_
 rintro e w1 ⟨rfl,hb1⟩
 have HBa:=hid (HB.out.trans (hb1.mono HB.out.size))
 have hx1:=(hb1.block _ (aa HC.out)).trans HC.out
 have Q8:=hid hx1
 obtain ⟨q0,q1,q2,q3,q4,q5,q6,q7,q8,q9,q10,q11,q12,q13,q14,q15,q16⟩:=xJ hx1
 clear hx1 hb1
 go_wp2_with fail
 refine (OD.out w1 HBa.out).mono ?_
 rintro e w2 ⟨rfl,hb2⟩
 have Rv:=hid (HBa.out.trans (hb2.mono HBa.out.size))
 have hx2:=(hb2.block _ (aa Q8.out)).trans Q8.out
 clear q0 q1 q2 q3 q4 q5 q6 q7 q8 q9 q10 q11 q12 q13 q14 q15 q16
 cases hfit:NL D with
 | false =>
  clear hx2 hb2
  as_aux_lemma =>
   go_wp2_with fail
   refine (QG.out w2 Rv.out).mono ?_
   rintro e w3 ⟨rfl,hb3⟩
   have HB3:=hid (Rv.out.trans (hb3.mono Rv.out.size))
   clear hb3
   go_wp2
   go_ret
   exact ⟨rfl,HB3.out⟩
 | true =>
  as_aux_lemma =>
   have HF4:=hid ((xI D).1 hfit)
   clear hfit
   have Ya:=hx2
   obtain ⟨q0,q1,q2,q3,q4,q5,q6,q7,q8,q9,q10,q11,q12,q13,q14,q15,q16⟩:=xJ Ya
   clear hx2 Ya hb2
   go_wp2_with fail
   refine (R7.out HF4.out w2 Rv.out).mono ?_
   rintro e w3 ⟨vg,va,vt,rfl,Yb,hb3⟩
   have HO:=hid (Ir HF4.out)
   obtain ⟨n,hn⟩ : ∃ n,n=(aY D).lg.length:=⟨_,rfl⟩
   obtain ⟨m,SN⟩ : ∃ m,m+1=n:=⟨n-1,by have:=HO.out.n2;omega⟩
   have Aq:n≤20:=by rw [hn];exact HO.out.n20
   obtain ⟨pg,cg,rfl,hcg,adk⟩ : ∃ p c,vg=.slice p n c∧n≤c∧c≤maxLen:=by obtain ⟨p,c,h,h1,h2⟩:=Yb.g.slice;exact ⟨p,c,by rw [hn];exact h,by rw [hn];exact h1,h2⟩
   obtain ⟨pa,ca,rfl,IK,ae6⟩ : ∃ p c,va=.slice p n c∧n≤c∧c≤maxLen:=by obtain ⟨p,c,h,h1,h2⟩:=Yb.a.slice;rw [List.length_map,HO.out.nx,←hn] at h h1;exact ⟨p,c,h,h1,h2⟩
   obtain ⟨pt,ct,rfl,hct,ae7⟩ : ∃ p c,vt=.slice p n c∧n≤c∧c≤maxLen:=by obtain ⟨p,c,h,h1,h2⟩:=Yb.t.slice;rw [List.length_map,HO.out.nt,←hn] at h h1;exact ⟨p,c,h,h1,h2⟩
   have KC:=hid Yb
   have HB3:=hid (Rv.out.trans (hb3.mono Rv.out.size))
   have yE:=hid (SN.trans hn)
   have Lb:j6=fun vg va vt C=>.agg #[vg,va,vt,.string (tx C.ch),.string (tx C.mi),.string (tx C.ga),.string (tx C.re)]:=rfl
   have AO:=hid (fun W' (hb:Below w3.heap.size w3 W')=>rC _ _ _ (aY D) HO.out (KC.out.below hb) (HW.out.below (HB3.out.trans (hb.mono HB3.out.size))))
   have RL:=hid (fun W' (hb:Below w3.heap.size w3 W')=>Kj _ _ _ (aY D) HO.out (KC.out.below hb) (HW.out.below (HB3.out.trans (hb.mono HB3.out.size))))
   have HLI:=hid (fun (i:Nat) (hi:i+1<(aY D).lg.length) W' (hb:Below w3.heap.size w3 W')=>X8 _ _ _ (aY D) i hi HO.out (KC.out.below hb) (HW.out.below (HB3.out.trans (hb.mono HB3.out.size))))
   rw [show (aY D).cs=LH D from rfl] at AO
   rw [show (aY D).cs=LH D from rfl] at RL
   rw [show (aY D).cs=LH D from rfl] at HLI
   simp only [Lb] at AO RL HLI ⊢
   generalize tx (LH D).ch=c0 at *
   generalize tx (LH D).mi=c1 at *
   generalize tx (LH D).ga=c2 at *
   generalize tx (LH D).re=c3 at *
   clear Yb hb3 Lb hn
   clear q0 q1 q2 q3 q4 q5 q6 q7 q8 q9 q10 q11 q12 q13 q14 q15 q16
   obtain ⟨plv,NR⟩ : ∃ q,q=Value.agg (xH s D):=⟨_,rfl⟩
   unfold xH at NR
   rw [←NR]
   clear NR
   go_upto_region 4 with fail
   obtain ⟨wC,Am⟩ : ∃ wC,wC=w3.alloc (Obj.cells #[.slice pg n cg,.slice pa n ca,.slice pt n ct,.string c0,.string c1,.string c2,.string c3] 37):=⟨_,rfl⟩
   rw [←Am]
   have hbC:Below w3.heap.size w3 wC:=by rw [Am];exact ae _ _
   have hoC:wC.heap[w3.heap.size]?=some (.cells #[.slice pg n cg,.slice pa n ca,.slice pt n ct,.string c0,.string c1,.string c2,.string c3] 37 (0,0)):=by rw [Am];exact World.alloc_heap_new _ _
   have DF:=hid hbC
   have HOC:=hid hoC
   obtain ⟨p0,p1,p2,p3,p4,p5,p6⟩:=au hoC
   clear Am hbC hoC
   have g0:IntKind.i64.wrap ((n:Int)-1)=(m:Int):=by rw [IntWalk.i64_in _ (by omega)];omega
   clear QG OD R7 HC HB yF Q8 KC
   as_aux_lemma =>
    have HS4:=hid (fun (i:Nat) (hi:i+1≤(aY D).lg.length)=>Lc (Lg HF4.out i hi) (by have:=yE.out;unfold nP at *; have:=Ld D;unfold nP at this;omega))
    have HT4:=hid (fun (i:Nat) (hi:i+1<(aY D).lg.length)=>Lc (Lf HF4.out hi) (by decide))
    have IQ:=hid (show (aY D).lg.length=n by have:=yE.out;omega)
    have g2:(m:Int)≤20:=by omega
    go_wp2_with fail
    refine (AO.out wC DF.out).mono ?_
    rintro e wD ⟨vl,rfl,hLA,hbD⟩
    have Ob:(aY D).lg.length-1=m:=by have:=yE.out;omega
    rw [Ob] at hLA
    obtain ⟨pl,cl,rfl,hcl,agx⟩:=hLA.slice
    have HLA:=hid hLA
    have iK:=hid (DF.out.trans (hbD.mono DF.out.size))
    have hoD:=(hbD.block _ (aa HOC.out)).trans HOC.out
    have HOD:=hid hoD
    clear p0 p1 p2 p3 p4 p5 p6 hLA
    obtain ⟨p0,p1,p2,p3,p4,p5,p6⟩:=au hoD
    clear hoD hbD
    go_wp2_with fail
    refine (RL.out wD iK.out).mono ?_
    rintro e wE ⟨rfl,VB⟩
    rw [Ob]
    have Ym:=hid (HLA.out.below VB)
    have xL:=hid (iK.out.trans (VB.mono iK.out.size))
    have hoE:=(VB.block _ (aa HOD.out)).trans HOD.out
    have HOE:=hid hoE
    clear p0 p1 p2 p3 p4 p5 p6 VB AO RL HLA iK HOD HOC DF Ob
    obtain ⟨p0,p1,p2,p3,p4,p5,p6⟩:=au hoE
    clear hoE
    unfold maxLen at adk agx
    have HT0:=hid (show (⟨#[48]⟩ : ByteArray)=tx (jM (aY D) 0) from tx0.symm)
    obtain ⟨tf,htf⟩ : ∃ q,q=tx (jM (aY D) m):=⟨_,rfl⟩
    rw [←htf]
    have HTF:=hid htf
    clear htf
    go_wp2_with fail
    rw [HT0.out]
    have HB0:=hid (Below.refl wE.heap.size wE)
    go_loopw [2,8,9,10,11] (fun r2 sv iv _ _ wr=>∃ i:Nat,i≤m∧iv=.int .i64 (i:Int)∧sv=.string (tx (jM (aY D) i))∧r2=.bool false∧Below wE.heap.size wE wr) (fun _ _ iv _ _ _=>m-(intOf iv).toNat)
    case atStart=>exact ⟨0,Nat.zero_le _,rfl,rfl,rfl,HB0.out⟩
    case round =>
     clear p0 p1 p2 p3 p4 p5 p6
     obtain ⟨i,him,rfl,rfl,rfl,hbr⟩:=hrel
     generalize wr=wO at *
     have IU:=hid hbr
     have Zb:=(hbr.block _ (aa HOE.out)).trans HOE.out
     have HOO:=hid Zb
     have Ur:=hid (Ym.out.below hbr)
     obtain ⟨p0,p1,p2,p3,p4,p5,p6⟩:=au Zb
     have IY:=hid (xL.out.trans (hbr.mono xL.out.size))
     clear Zb hbr
     by_cases hi:i<m
     ·have HI1:=hid (show i+1<(aY D).lg.length by have:=yE.out;omega)
      have kn:decide ((i:Int)<(m:Int))=true:=decide_eq_true (by omega)
      have w5:IntKind.i64.wrap ((i:Int)+1)=(i:Int)+1:=IntWalk.i64_in _ (by omega)
      have HAD:=hid (fun w' (hg:Good w')=>ae5 (jM (aY D) i) (pR (aY D) i) (HS4.out i (by have:=HI1.out;omega)) (HT4.out i HI1.out) w' hg)
      rw [←sK] at HAD
      have HLJ:=hid (HLI.out i HI1.out wO IY.out)
      obtain ⟨nl,hnl⟩ : ∃ q,q=(bD (aY D) i).length:=⟨_,rfl⟩
      have HNQ:=hid hnl
      rw [←hnl] at HLJ
      unfold RV at HAD
      obtain ⟨tt,MW⟩ : ∃ q,q=tx (pR (aY D) i):=⟨_,rfl⟩
      have HTQ:=hid MW
      rw [←MW] at HAD HLJ
      clear MW
      generalize tx (jM (aY D) i)=ts at *
      obtain ⟨ts1,adl⟩ : ∃ q,q=tx (jM (aY D) (i+1)):=⟨_,rfl⟩
      have HTR:=hid adl
      rw [←adl] at HAD
      clear adl
      clear hnl
      go_wp2_with fail
      refine HLJ.out.mono ?_
      rintro e wa ⟨ps,cs,rfl,hst,MV⟩
      have HNB:=hid (show nl≤2 ^ 63-1 by obtain ⟨_,_,_,h1,h2⟩:=hst.slice;rw [HNQ.out];exact Nat.le_trans h1 h2)
      have EP:=hid hst
      have eH:=hid MV
      clear hst MV HLJ p0 p1 p2 p3 p4 p5 p6
      obtain ⟨wb,hwb⟩ : ∃ q,q=wa.alloc (Obj.cells #[.slice ps nl cs,.string tt] 54):=⟨_,rfl⟩
      have hbb:Below wa.heap.size wa wb:=by rw [hwb];exact ae _ _
      have ui:wb.heap[wa.heap.size]?=some (.cells #[.slice ps nl cs,.string tt] 54 (0,0)):=by rw [hwb];exact World.alloc_heap_new _ _
      have ae8:=hid hwb
      obtain ⟨bw,hbw⟩ : ∃ q,q=wa.heap.size:=⟨_,rfl⟩
      have Yq:=hid (EP.out.below hbb)
      have eZ:=hid (eH.out.trans (hbb.mono eH.out.size))
      have HOB:=hid ui
      clear hwb
      go_upto_region 13 with fail
      rw [←ae8.out]
      rw [←hbw] at ui ⊢
      obtain ⟨b0,b1,_,_⟩:=aj ui
      have lw:=aa ui
      have HOW:=hid ui
      clear hbw ui HOB ae8 hbb EP eH
      have HLB:=hid (Ur.out.below eZ.out)
      obtain ⟨BL,ol,uS,rfl,lL,a0,a1,hSL⟩:=HLB.out.at hi
      obtain ⟨ps',cs',rfl,_,_⟩:=hSL.slice
      rw [←HNQ.out] at a0 hSL
      have HSL:=hid hSL
      have i1:(0:Int)≤(i:Int):=by omega
      have i2:(i:Int)<(m:Int):=by omega
      generalize ht9:tx (pR (aY D) i)=t9 at a1
      have q1:(t9.toList == tt.toList)=true:=by rw [←ht9,HTQ.out];simp
      have q3:((nl:Int) != (nl:Int))=false:=by simp
      clear hSL ht9
      as_aux_lemma =>
       refine aL (fun W'=>Below wb.heap.size wb W') [0,1,2,3,4,5,6,7,8,9,10,11,12,13,14,15,16,17,18] [] 19 (by kernel_rfl) (by kernel_rfl) ⟨rfl,rfl,rfl,Nat.le_refl _,fun _ _=>rfl⟩ ?_
       iterate 19
        refine aG rfl ?_ rfl ?_ ?_
        rotate_left
        ·intro W' hS'
         have s0:=(hS'.cell (p:=⟨BL,ol+i*2,none⟩) lL).trans a0
         have s1:=(hS'.cell (p:=⟨BL,ol+i*2+1,none⟩) lL).trans a1
         have s2:=(hS'.cell (p:=⟨bw,0,none⟩) lw).trans b0
         have s3:=(hS'.cell (p:=⟨bw,1,none⟩) lw).trans b1
         go_simp
         try with_reducible rfl
        try simp only [zA,zB,zC,Act.put,zD,zE,zF]
       unfold bz
       simp only [List.drop_succ_cons,List.drop_zero]
       try simp only [zA,zB,zC,Act.put,zD,zE,zF]
       refine az rfl (fun K hK=>?_)
       go_simp
       refine hK _ _ ⟨trivial,aO ?_⟩
       clear hK K
       try simp only [zA,zB,zC,Act.put,zD,zE,zF]
       refine ag.mk ?_
       obtain ⟨wz,adm⟩ : ∃ wz,wz=wb.drew:=⟨_,rfl⟩
       have Lr:Below wb.heap.size wb wz:=by rw [adm];exact ⟨rfl,rfl,rfl,Nat.le_refl _,fun _ _=>rfl⟩
       rw [←adm]
       clear adm
       obtain ⟨kA,kL⟩:=And.intro ((Lr.cell (p:=⟨BL,ol+i*2,none⟩) lL).trans a0) (Nat.lt_of_lt_of_le lL Lr.size)
       have agy:=hid (HSL.out.below Lr)
       have agz:=hid (Yq.out.below Lr)
       have HOZ:=hid ((Lr.block _ lw).trans HOW.out)
       have HAZ:=hid kA
       have HLZ:=hid kL
       have EO:=hid (eZ.out.trans (Lr.mono eZ.out.size))
       clear a0 a1 b0 b1 lL lw kA kL Lr HLB HOW eZ HSL Yq
       go_wp2_with fail
       have agA:=hid (Below.refl wz.heap.size wz)
       go_loopw [2,11] (fun r2 kv wr=>∃ k:Nat,k≤nl∧kv=.int .i64 (k:Int)∧r2=.bool false∧Below wz.heap.size wz wr) (fun _ kv _=>nl-(intOf kv).toNat)
       case atStart=>exact ⟨0,Nat.zero_le _,rfl,rfl,agA.out⟩
       case round =>
        obtain ⟨k,hkn,rfl,rfl,hbK⟩:=hrel
        generalize wr=wk at *
        have hok:=(hbK.block _ (aa HOZ.out)).trans HOZ.out
        obtain ⟨b0,b1,_,_⟩:=aj hok
        have lw:=aa hok
        have Md:=hid hok
        have HBK:=hid hbK
        clear hok
        by_cases hk:k<nl
        ·have hk1:k<(bD (aY D) i).length:=by rw [←HNQ.out];exact hk
         have a0:=(hbK.cell (p:=⟨BL,ol+i*2,none⟩) HLZ.out).trans HAZ.out
         have lL:=Nat.lt_of_lt_of_le HLZ.out hbK.size
         have h1:=agy.out.below hbK
         have h2:=agz.out.below hbK
         obtain ⟨bs,os,rfl,ls,e0,e1,e2⟩:=h1.at hk1
         obtain ⟨bt,ot,rfl,lt,f0,f1,f2⟩:=h2.at hk1
         have IX:decide ((k:Int)<(nl:Int))=true:=decide_eq_true (by omega)
         have k1:(0:Int)≤(k:Int):=by omega
         have k2:(k:Int)<(nl:Int):=by omega
         have w6:IntKind.i64.wrap ((k:Int)+1)=(k:Int)+1:=IntWalk.i64_in _ (by have:=HNB.out;omega)
         have hne:=aaS
         have hgu:=X9
         clear h1 h2 hk1
         go_upto_region 18 with fail
         refine aL (fun W'=>Below wk.heap.size wk W') [0,1,2,3,4,5,6,7,8,9,10,11,12] [] 13 (by kernel_rfl) (by kernel_rfl) ⟨rfl,rfl,rfl,Nat.le_refl _,fun _ _=>rfl⟩ ?_
         iterate 13
          refine aG rfl ?_ rfl ?_ ?_
          rotate_left
          ·intro W' hS'
           have s0:=(hS'.cell (p:=⟨BL,ol+i*2,none⟩) lL).trans a0
           have s1:=(hS'.cell (p:=⟨bw,0,none⟩) lw).trans b0
           have s2:=(hS'.cell (p:=⟨bs,os+k*3,none⟩) ls).trans e0
           have s3:=(hS'.cell (p:=⟨bs,os+k*3+1,none⟩) ls).trans e1
           have s4:=(hS'.cell (p:=⟨bs,os+k*3+2,none⟩) ls).trans e2
           have s5:=(hS'.cell (p:=⟨bt,ot+k*3,none⟩) lt).trans f0
           have s6:=(hS'.cell (p:=⟨bt,ot+k*3+1,none⟩) lt).trans f1
           have s7:=(hS'.cell (p:=⟨bt,ot+k*3+2,none⟩) lt).trans f2
           go_simp
           try with_reducible rfl
          try simp only [zA,zB,zC,Act.put,zD,zE,zF]
         unfold bz
         simp only [List.drop_succ_cons,List.drop_zero]
         try simp only [zA,zB,zC,Act.put,zD,zE,zF]
         refine az rfl (fun K hK=>?_)
         go_simp
         refine hK _ _ ⟨trivial,aO ?_⟩
         clear hK K
         try simp only [zA,zB,zC,Act.put,zD,zE,zF]
         refine ag.mk ?_
         obtain ⟨wy,adn⟩ : ∃ wy,wy=wk.drew:=⟨_,rfl⟩
         have hTZ:Below wk.heap.size wk wy:=by rw [adn];exact ⟨rfl,rfl,rfl,Nat.le_refl _,fun _ _=>rfl⟩
         rw [←adn]
         clear adn
         have QE:=hid (HBK.out.trans (hTZ.mono HBK.out.size))
         clear a0 b0 b1 e0 e1 e2 f0 f1 f2 hTZ hbK
         go_wp2
         refine ⟨⟨k+1,hk,aH k,rfl,QE.out⟩,?_⟩
         show nl-((k:Int)+1).toNat<nl-((k:Int)).toNat
         omega
        ·obtain rfl:k=nl:=by omega
         have IX:decide ((k:Int)<(k:Int))=false:=decide_eq_false (by omega)
         have HBL:=hid (IU.out.trans ((EO.out.trans (HBK.out.mono EO.out.size)).mono IU.out.size))
         clear hbK
         go_wp2_with fail
         refine (HAD.out wk (HW.out.below (HB3.out.trans ((xL.out.trans (HBL.out.mono xL.out.size)).mono HB3.out.size)))).mono ?_
         rintro e wl ⟨rfl,hbl⟩
         have HBM:=hid (HBL.out.trans (hbl.mono HBL.out.size))
         clear hbl b0 b1
         go_wp2
         refine ⟨⟨i+1,hi,aH i,by rw [HTR.out],rfl,HBM.out⟩,?_⟩
         show m-((i:Int)+1).toNat<m-((i:Int)).toNat
         omega
     ·obtain rfl:i=m:=by omega
      have kn:decide ((i:Int)<(i:Int))=false:=decide_eq_false (by omega)
      have HEQ:=hid (show (tf.toList == (tx (jM (aY D) i)).toList)=true by rw [HTF.out];simp)
      generalize tx (jM (aY D) i)=tz at *
      have heq:=HEQ.out
      have HFB:=hid (HB3.out.trans (IY.out.mono HB3.out.size))
      go_wp2
      go_ret
      exact ⟨rfl,HFB.out⟩
end Go.Proofs.YtglncfkoohgdaaaGreatDoor
