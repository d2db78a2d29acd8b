import Derived.Test.YtglncfkoohgdaaaGreatDoorG49R
import Derived.Test.YtglncfkoohgdaaaGreatDoorG54R
set_option maxRecDepth 100000
set_option maxHeartbeats 40000000
namespace Go.Proofs.YtglncfkoohgdaaaGreatDoor
open Go.RowKit Go.Shelf
open Go.Lib (decDigits itoa nDigits)
open Go.Lib (hid)
attribute [local go_sem] Oper.semAt_some
theorem xJ {W:World} {B:Nat} {s:Nat→Value} {D:bV} {t:TypeId} {fz:Nat × Nat} (h:W.heap[B]?=some (.cells (xH s D) t fz)):W.cell? ⟨B,0,none⟩=some (s 0)∧W.cell? ⟨B,1,none⟩=some (s 1)∧W.cell? ⟨B,2,none⟩=some (s 2)∧W.cell? ⟨B,3,none⟩=some (s 3)∧W.cell? ⟨B,4,none⟩=some (.int .u8 (D.cnt:Int))∧W.cell? ⟨B,5,none⟩=some (.int .u8 (D.st 0:Int))∧W.cell? ⟨B,6,none⟩=some (.int .u8 (D.st 1:Int))∧W.cell? ⟨B,7,none⟩=some (.int .u8 (D.st 2:Int))∧W.cell? ⟨B,8,none⟩=some (.int .u8 (D.st 3:Int))∧W.cell? ⟨B,9,none⟩=some (.int .i8 (D.tp 0))∧W.cell? ⟨B,10,none⟩=some (.int .i8 (D.tp 1))∧W.cell? ⟨B,11,none⟩=some (.int .i8 (D.tp 2))∧W.cell? ⟨B,12,none⟩=some (.int .i8 (D.tp 3))∧W.cell? ⟨B,13,none⟩=some (.int .u8 (D.co 0:Int))∧W.cell? ⟨B,14,none⟩=some (.int .u8 (D.co 1:Int))∧W.cell? ⟨B,15,none⟩=some (.int .u8 (D.co 2:Int))∧W.cell? ⟨B,16,none⟩=some (.int .u8 (D.co 3:Int)):=by
 unfold xH at h
 refine ⟨?_,?_,?_,?_,?_,?_,?_,?_,?_,?_,?_,?_,?_,?_,?_,?_,?_⟩ <;> simp [World.cell?,h]
theorem tJ.agC {W:World} {p:Option Addr} {n c:Nat} {D:List (lH × Value)} (h:tJ W (.slice p n c) D) {i:Nat} (hi:i<D.length):∃ b off,p=some ⟨b,off,none⟩∧b<W.heap.size∧W.cell? ⟨b,off+i*3,none⟩=some (.int .i64 (D[i].1.k:Int)):=by
 obtain ⟨⟨p',c',hv,_,_,hx⟩,_⟩:=h
 cases hv
 obtain ⟨b,off,h1,h2,h3⟩:=hx (by omega)
 exact ⟨b,off,h1,h2,(h3 i hi).1⟩
theorem agG {P:Program} {o:Oper} {a:Act} {W:World} (t:TypeId) (parts:Array (Nat × Operand)) (l:List (Nat × Value)) (cells:Array Value) (h:P.built t l=some cells) (ho:o.op=.build t parts) (hl:parts.toList.map (fun x=>(x.1,a.eval x.2))=l):Sem.run P (execOp a.eval o) W=.ok (.value (.agg cells)) W:=by
 unfold execOp
 simp only [ho,Sem.run_bind,run_build W t _ cells (show P.built t (parts.map fun (i,x)=>(i,a.eval x)).toList=some cells by rw [Array.toList_map];exact (congrArg (P.built t) hl).trans h),Result.andThen_ok]
 rfl
theorem acd (pa pb pc:Option Addr) (m ca cb cc:Nat) (t0 t1 t2 t3:ByteArray):Program.built Tryz.prog 37 [(0,.slice pa m ca),(1,.slice pb m cb),(2,.slice pc m cc),(3,.agg #[.string t0,.string t1,.string t2,.string t3])]=some #[.slice pa m ca,.slice pb m cb,.slice pc m cc,.string t0,.string t1,.string t2,.string t3]:=by kernel_rfl
theorem law_less {w:World} (s:Nat→Value) (D:bV) (hP:zZ w s D) (hw:Good w):Calls Tryz.prog 3 #[.agg (xH s D)] w (RV (.bool true) w):=by
 have QG:=hid (fun W' (hb:Below w.heap.size w W')=>Gg (hw.below hb))
 have OD:=hid (fun W' (hb:Below w.heap.size w W')=>K6 s D (hP.below hb))
 have R7:=hid (fun h4 W' (hb:Below w.heap.size w W')=>K7 s D h4 (hP.below hb) (hw.below hb))
 have HW:=hid hw
 obtain ⟨wB,jD⟩ : ∃ wB,wB=w.alloc (Obj.cells (xH s D) 28):=⟨_,rfl⟩
 have hb:Below w.heap.size w wB:=by rw [jD];exact ae _ _
 have hc:wB.heap[w.heap.size]?=some (.cells (xH s D) 28 (0,0)):=by rw [jD];exact World.alloc_heap_new _ _
 have HC:=hid hc
 have HB:=hid hb
 have yF:=hid jD
 clear jD hb hc hP hw
 unfold RV at QG OD ⊢
 unfold xH at OD R7 yF ⊢
 go_enter Tryz.func3,Tryz.ntmps3
 go_upto_region 1 with fail
 rw [←yF.out]
 go_wp2_with fail
 refine (QG.out wB HB.out).mono ?_
 rintro e w1 ⟨rfl,hb1⟩
 have HBa:=hid (HB.out.trans (hb1.mono HB.out.size))
 have hx1:=(hb1.block _ (aa HC.out)).trans HC.out
 have Q8:=hid hx1
 obtain ⟨q0,q1,q2,q3,q4,q5,q6,q7,q8,q9,q10,q11,q12,q13,q14,q15,q16⟩:=xJ hx1
 clear hx1 hb1
 go_wp2_with fail
 refine (OD.out w1 HBa.out).mono ?_
 rintro e w2 ⟨rfl,hb2⟩
 have Rv:=hid (HBa.out.trans (hb2.mono HBa.out.size))
 have hx2:=(hb2.block _ (aa Q8.out)).trans Q8.out
 clear q0 q1 q2 q3 q4 q5 q6 q7 q8 q9 q10 q11 q12 q13 q14 q15 q16
 cases hfit:NL D with
 | false =>
  clear hx2 hb2
  as_aux_lemma =>
   go_wp2_with fail
   refine (QG.out w2 Rv.out).mono ?_
   rintro e w3 ⟨rfl,hb3⟩
   have HB3:=hid (Rv.out.trans (hb3.mono Rv.out.size))
   clear hb3
   go_wp2
   go_ret
   exact ⟨rfl,HB3.out⟩
 | true =>
  as_aux_lemma =>
   have HF4:=hid ((xI D).1 hfit)
   clear hfit
   have Ya:=hx2
   obtain ⟨q0,q1,q2,q3,q4,q5,q6,q7,q8,q9,q10,q11,q12,q13,q14,q15,q16⟩:=xJ Ya
   clear hx2 Ya hb2
   go_wp2_with fail
   refine (R7.out HF4.out w2 Rv.out).mono ?_
   rintro e w3 ⟨vg,va,vt,rfl,Yb,hb3⟩
   have HO:=hid (Ir HF4.out)
   obtain ⟨n,hn⟩ : ∃ n,n=(aY D).lg.length:=⟨_,rfl⟩
   obtain ⟨m,SN⟩ : ∃ m,m+1=n:=⟨n-1,by have:=HO.out.n2;omega⟩
   have Aq:n≤20:=by rw [hn];exact HO.out.n20
   obtain ⟨pg,cg,rfl,hcg,adk⟩ : ∃ p c,vg=.slice p n c∧n≤c∧c≤maxLen:=by obtain ⟨p,c,h,h1,h2⟩:=Yb.g.slice;exact ⟨p,c,by rw [hn];exact h,by rw [hn];exact h1,h2⟩
   obtain ⟨pa,ca,rfl,IK,ae6⟩ : ∃ p c,va=.slice p n c∧n≤c∧c≤maxLen:=by obtain ⟨p,c,h,h1,h2⟩:=Yb.a.slice;rw [List.length_map,HO.out.nx,←hn] at h h1;exact ⟨p,c,h,h1,h2⟩
   obtain ⟨pt,ct,rfl,hct,ae7⟩ : ∃ p c,vt=.slice p n c∧n≤c∧c≤maxLen:=by obtain ⟨p,c,h,h1,h2⟩:=Yb.t.slice;rw [List.length_map,HO.out.nt,←hn] at h h1;exact ⟨p,c,h,h1,h2⟩
   have KC:=hid Yb
   have HB3:=hid (Rv.out.trans (hb3.mono Rv.out.size))
   have yE:=hid (SN.trans hn)
   have Lb:j6=fun vg va vt C=>.agg #[vg,va,vt,.string (tx C.ch),.string (tx C.mi),.string (tx C.ga),.string (tx C.re)]:=rfl
   have HB1:=hid (fun W' (hb:Below w3.heap.size w3 W')=>yS _ _ _ (aY D) HO.out (KC.out.below hb) (HW.out.below (HB3.out.trans (hb.mono HB3.out.size))))
   have aaV:=hid (fun (h2:2≤m) W' (hb:Below w3.heap.size w3 W')=>yS _ _ _ (tQ (aY D) m) (Yi HO.out h2 (by have:=yE.out;omega)) ((KC.out.cut HO.out (m:=m) (by have:=yE.out;omega)).below hb) (HW.out.below (HB3.out.trans (hb.mono HB3.out.size))))
   rw [show (aY D).cs=LH D from rfl] at HB1
   rw [show (tQ (aY D) m).cs=LH D from rfl] at aaV
   simp only [Lb] at HB1 aaV ⊢
   generalize tx (LH D).ch=c0 at *
   generalize tx (LH D).mi=c1 at *
   generalize tx (LH D).ga=c2 at *
   generalize tx (LH D).re=c3 at *
   clear Yb hb3 Lb hn
   clear q0 q1 q2 q3 q4 q5 q6 q7 q8 q9 q10 q11 q12 q13 q14 q15 q16
   obtain ⟨plv,NR⟩ : ∃ q,q=Value.agg (xH s D):=⟨_,rfl⟩
   unfold xH at NR
   rw [←NR]
   clear NR
   go_upto_region 4 with fail
   obtain ⟨wC,Am⟩ : ∃ wC,wC=w3.alloc (Obj.cells #[.slice pg n cg,.slice pa n ca,.slice pt n ct,.string c0,.string c1,.string c2,.string c3] 37):=⟨_,rfl⟩
   rw [←Am]
   have hbC:Below w3.heap.size w3 wC:=by rw [Am];exact ae _ _
   have hoC:wC.heap[w3.heap.size]?=some (.cells #[.slice pg n cg,.slice pa n ca,.slice pt n ct,.string c0,.string c1,.string c2,.string c3] 37 (0,0)):=by rw [Am];exact World.alloc_heap_new _ _
   have DF:=hid hbC
   have HOC:=hid hoC
   have lC:=aa hoC
   obtain ⟨p0,p1,p2,p3,p4,p5,p6⟩:=au hoC
   clear Am hbC hoC
   have g0:IntKind.i64.wrap ((n:Int)-1)=(m:Int):=by rw [IntWalk.i64_in _ (by omega)];omega
   clear QG OD R7 HC HB yF Q8 KC
   as_aux_lemma =>
    by_cases hm2:m<2
    ·as_aux_lemma =>
      have g1:decide ((m:Int)<2)=true:=decide_eq_true (by omega)
      have HL:=hid (HB3.out.trans (DF.out.mono HB3.out.size))
      go_wp2
      go_ret
      exact ⟨rfl,HL.out⟩
    ·have g1:decide ((m:Int)<2)=false:=decide_eq_false (by omega)
     have agD:=hid (Yi HO.out (m:=m) (by omega) (by have:=yE.out;omega))
     have HB2:=hid (aaV.out (by omega))
     have g7:(0:Int)≤(m:Int):=by omega
     have g8:(m:Int)≤(cg:Int):=by omega
     have g9:(m:Int)≤(ca:Int):=by omega
     have g10:(m:Int)≤(ct:Int):=by omega
     unfold maxLen at adk ae6 ae7
     clear aaV
     go_upto_region 7 with fail
     as_aux_lemma =>
      have mG:=hid (fun W' (hS':Below wC.heap.size wC W')=>And.intro ((hS'.cell (p:=⟨w3.heap.size,0,none⟩) lC).trans p0) (And.intro ((hS'.cell (p:=⟨w3.heap.size,1,none⟩) lC).trans p1) (And.intro ((hS'.cell (p:=⟨w3.heap.size,2,none⟩) lC).trans p2) (And.intro ((hS'.cell (p:=⟨w3.heap.size,3,none⟩) lC).trans p3) (And.intro ((hS'.cell (p:=⟨w3.heap.size,4,none⟩) lC).trans p4) (And.intro ((hS'.cell (p:=⟨w3.heap.size,5,none⟩) lC).trans p5) ((hS'.cell (p:=⟨w3.heap.size,6,none⟩) lC).trans p6)))))))
      refine gJ (fun W'=>Below wC.heap.size wC W') (.take 0 (.take 1 (.take 2 (.take 3 (.take 4 (.take 5 (.take 6 (.take 7 (.take 8 (.take 9 (.take 10 (.take 11 (.take 12 (.take 13 (.take 14 (.one 15 .fin)))))))))))))))) 16 (by kernel_rfl) (by as_aux_lemma=>kernel_rfl) ⟨rfl,rfl,rfl,Nat.le_refl _,fun _ _=>rfl⟩ ?_
      have cO:Below wC.heap.size wC wC.drew:=⟨rfl,rfl,rfl,Nat.le_refl _,fun _ _=>rfl⟩
      generalize wC.drew=dP at *
      iterate 14
       refine aD rfl ?_ rfl ?_ ?_
       rotate_left
       ·intro W' hS'
        obtain ⟨s0,s1,s2,s3,s4,s5,s6⟩:=mG.out _ hS'
        go_simp
        try with_reducible rfl
       try simp only [zA,zB,zC,Act.put,zD,zE,zF]
      refine aD rfl ?_ rfl ?_ ?_
      rotate_left
      ·intro W' hS'
       refine agG 37 ?parts _ _ (acd pg pa pt m cg ca ct c0 c1 c2 c3) ?ho ?hl
       case ho=>exact rfl
       case hl=>rfl
      try simp only [zA,zB,zC,Act.put,zD,zE,zF]
      refine af rfl rfl (fun K hK=>?_)
      go_simp
      obtain ⟨gy,jm⟩ : ∃ q,q=dP.alloc (Obj.cells #[.slice none 0 0,.slice none 0 0,.slice none 0 0,.string ⟨#[]⟩,.string ⟨#[]⟩,.string ⟨#[]⟩,.string ⟨#[]⟩] 37):=⟨_,rfl⟩
      have PN:gy.heap[dP.heap.size]?=some (.cells #[.slice none 0 0,.slice none 0 0,.slice none 0 0,.string ⟨#[]⟩,.string ⟨#[]⟩,.string ⟨#[]⟩,.string ⟨#[]⟩] 37 (0,0)):=by rw [jm];exact World.alloc_heap_new _ _
      have bR:Below dP.heap.size dP gy:=by rw [jm];exact ae _ _
      have hP1:=cO.trans (bR.mono cO.size)
      rw [←jm]
      clear jm
      refine hK _ _ ⟨hP1,?_⟩
      clear hK K
      try simp only [zA,zB,zC,Act.put,zD,zE,zF]
      unfold bU
      simp only [List.drop_succ_cons,List.drop_zero]
      have Ea:wC.heap.size≤dP.heap.size:=cO.size
      obtain ⟨_,_,_,_,_,_,_⟩:=au PN
      obtain ⟨_,_,_⟩:=mE PN
      obtain ⟨_,_,_,_⟩:=y9 PN
      obtain ⟨wD,hwD⟩ : ∃ q,q=(((((((gy.setCell ⟨dP.heap.size,0,none⟩ (.slice pg m cg)).setCell ⟨dP.heap.size,1,none⟩ (.slice pa m ca)).setCell ⟨dP.heap.size,2,none⟩ (.slice pt m ct)).setCell ⟨dP.heap.size,3,none⟩ (.string c0)).setCell ⟨dP.heap.size,4,none⟩ (.string c1)).setCell ⟨dP.heap.size,5,none⟩ (.string c2)).setCell ⟨dP.heap.size,6,none⟩ (.string c3)):=⟨_,rfl⟩
      have hbD:Below wC.heap.size wC wD:=by rw [hwD];exact (((((((hP1.setCell (p:=⟨_,0,none⟩) Ea _).setCell (p:=⟨_,1,none⟩) Ea _).setCell (p:=⟨_,2,none⟩) Ea _).setCell (p:=⟨_,3,none⟩) Ea _).setCell (p:=⟨_,4,none⟩) Ea _).setCell (p:=⟨_,5,none⟩) Ea _).setCell (p:=⟨_,6,none⟩) Ea _)
      have hoD:wD.heap[dP.heap.size]?=some (.cells #[.slice pg m cg,.slice pa m ca,.slice pt m ct,.string c0,.string c1,.string c2,.string c3] 37 (0,0)):=by rw [hwD];exact F6 _ _ _ _ _ _ _ PN
      go_wp2_with fail
      refine ag.mk ?_
      rw [←hwD]
      obtain ⟨bL,hbL⟩ : ∃ b,b=dP.heap.size:=⟨_,rfl⟩
      rw [←hbL] at hoD ⊢
      clear hwD Ea hbL
      as_aux_lemma =>
       have HOD:=hid hoD
       have iK:=hid (DF.out.trans (hbD.mono DF.out.size))
       have ahr:=hid hbD
       have hoP:=(hbD.block _ (aa HOC.out)).trans HOC.out
       have HOP:=hid hoP
       clear p0 p1 p2 p3 p4 p5 p6
       obtain ⟨p0,p1,p2,p3,p4,p5,p6⟩:=au hoP
       clear hoP hoD hbD
       go_wp2_with fail
       refine (HB1.out wD iK.out).mono ?_
       rintro e w5 ⟨v1,A,rfl,hA,aS,hb5⟩
       obtain ⟨pA,k1,n1,rfl,hn1,hk1,agE⟩ : ∃ p c n,v1=.slice p n c∧n=A.length∧n≤c∧c≤maxLen:=by obtain ⟨p,c,h,h1,h2⟩:=aS.slice;exact ⟨p,c,_,h,rfl,h1,h2⟩
       have Av:=hid (iK.out.trans (hb5.mono iK.out.size))
       have ho5:=(hb5.block _ (aa HOD.out)).trans HOD.out
       have eH:=hid aS
       have HA:=hid hA
       have HN1:=hid hn1
       clear hn1
       clear p0 p1 p2 p3 p4 p5 p6 aS hA hb5
       obtain ⟨p0,p1,p2,p3,p4,p5,p6⟩:=au ho5
       clear ho5
       go_wp2_with fail
       refine (HB2.out w5 Av.out).mono ?_
       rintro e w6 ⟨v2,B,rfl,hB,ja,hb6⟩
       obtain ⟨pB,k2,n2,rfl,hn2,hk2,agF⟩ : ∃ p c n,v2=.slice p n c∧n=B.length∧n≤c∧c≤maxLen:=by obtain ⟨p,c,h,h1,h2⟩:=ja.slice;exact ⟨p,c,_,h,rfl,h1,h2⟩
       have LF:=hid (Av.out.trans (hb6.mono Av.out.size))
       have afa:=hid (eH.out.below hb6)
       obtain ⟨hl1,hl2,hl3⟩:=Rx (by omega) yE.out HA.out hB
       rw [←hn2] at hl1 hl2 hl3
       have hnA:B.length≤1000:=by
        have e:B.length=(gD (tQ (aY D) m)).length:=by rw [←hB,List.length_map]
        rw [e]
        exact Nat.le_trans (KP agD.out) (by decide)
       have HSM:=hid (fun W' (hb:Below w6.heap.size w6 W')=>X0 _ _ (A.take n2) B hl2 (by rw [List.length_take];omega) W' ((afa.out.cut hl1).below hb) (ja.below hb))
       unfold RV at HSM
       have HL3:=hid hl3
       clear p0 p1 p2 p3 p4 p5 p6 ja hb6 hB hl2 hl3
       unfold maxLen at agE agF
       rw [←HN1.out] at hl1
       clear hn2 hnA
       have g1:decide ((n2:Int)≤(n1:Int))=true:=decide_eq_true (by omega)
       have g2:(0:Int)≤(n2:Int):=by omega
       have g3:(n2:Int)≤(k1:Int):=by omega
       go_wp2_with fail
       refine (HSM.out w6 (Below.refl _ _)).mono ?_
       rintro e w7 ⟨rfl,Fv⟩
       have HB7:=hid (LF.out.trans (Fv.mono LF.out.size))
       by_cases hnn:n1=n2
       ·have g4:decide ((n1:Int)=(n2:Int))=true:=decide_eq_true (by omega)
        subst hnn
        clear Fv
        go_wp2
        go_ret
        exact ⟨rfl,HB3.out.trans (HB7.out.mono HB3.out.size)⟩
       ·have g4:decide ((n1:Int)=(n2:Int))=false:=decide_eq_false (by omega)
        have g5:(n2:Int)<(n1:Int):=by omega
        obtain ⟨b,off,rfl,hbl,hz⟩:=afa.out.agC (i:=n2) (by have:=HN1.out;omega)
        have z:=(Fv.cell (p:=⟨b,off+n2*3,none⟩) hbl).trans hz
        rw [HL3.out (by have:=HN1.out;omega)] at z
        have g6:IntKind.i64.wrap ((m:Int)-1)=((m-1:Nat):Int):=by rw [IntWalk.i64_in _ (by omega)];omega
        clear Fv hz
        go_wp2
        go_ret
        exact ⟨rfl,HB3.out.trans (HB7.out.mono HB3.out.size)⟩
end Go.Proofs.YtglncfkoohgdaaaGreatDoor
