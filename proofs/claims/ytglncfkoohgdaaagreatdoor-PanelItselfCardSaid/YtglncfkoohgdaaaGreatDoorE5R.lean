import Derived.Test.YtglncfkoohgdaaaGreatDoorE3R
set_option maxRecDepth 100000
set_option maxHeartbeats 8000000
namespace Go.Proofs.YtglncfkoohgdaaaGreatDoor
open Go.RowKit Go.Shelf
open Go.Lib (decDigits itoa nDigits)
open Go.Lib (hid)
theorem Um {w:World} (vl vr:Value) (C:Cs) (L R:List Iv) (i j:Nat) (hi:i<L.length) (hj:j<R.length) (hC:CsZ 1000 C) (hzl:I7 1000 (ah L i)) (YS:I7 1000 (ah R j)) (hvl:gm w vl L) (eO:gm w vr R) (hw:Good w) :
  Calls Tryz.prog 239 #[uC vl vr C,oF 1 i j] w (RV (.string (tx (bY C L R 1 i j))) w):=by
 have htk:∀ (x:Iv),I7 1000 x→Go.RowKit.Hid (∀ w',Good w'→Calls Tryz.prog 261 #[RO x] w' (RV (.string (tx (aH x))) w')):=fun x hx w' hg=>rG x (hx.1.sm) (hx.2.sm) w' hg
 have HT1:=htk _ hzl
 have HT2:=htk _ YS
 have z1:=oG hzl
 have z2:=oG YS
 have HS:=hid (fun w' (hg:Good w')=>jX (aH (ah L i)) (aH (ah R j)) (z1.sm) (z2.sm) w' hg)
 have HAB:=hid (fun w'=>ZB (aH (ah L i)-aH (ah R j)) w')
 have zd:=z1.sub z2
 have za:Fc 128 2 (tT (aH (ah L i)-aH (ah R j))):=by
  unfold tT
  split
  ·exact zd.neg
  ·exact zd
 have ZC:=hid (fun w' (hg:Good w')=>uA C.ch (tT (aH (ah L i)-aH (ah R j))) (hC.ch.sm) (za.sm) w' hg)
 have HS2:=hid (fun w' (hg:Good w')=>uz (aH (ah L i)) (aH (ah R j)) (z1.sm) (z2.sm) w' hg)
 have mE:=hid (fun w' (hg:Good w')=>uA C.mi (aH (ah L i)+aH (ah R j)) (hC.mi.sm) ((z1.add z2).sm) w' hg)
 have HA2:=hid (fun w' (hg:Good w')=>uz (C.ch*tT (aH (ah L i)-aH (ah R j))) (C.mi*(aH (ah L i)+aH (ah R j))) ((hC.ch.mul za).sm) ((hC.mi.mul (z1.add z2)).sm) w' hg)
 have eY:(ah L i).u=(ah R j).u→tx (bY C L R 1 i j)=tx (C.ch*tT (aH (ah L i)-aH (ah R j))):=fun h=>by unfold bY;rw [if_pos rfl,if_pos h];rfl
 have hR2:¬ (ah L i).u=(ah R j).u→tx (bY C L R 1 i j)=tx (C.ch*tT (aH (ah L i)-aH (ah R j))+C.mi*(aH (ah L i)+aH (ah R j))):=fun h=>by unfold bY;rw [if_pos rfl,if_neg h];rfl
 have hue:((us (ah L i).u).toList == (us (ah R j).u).toList)=decide ((ah L i).u=(ah R j).u):=by
  rw [Bool.eq_iff_iff,beq_iff_eq,decide_eq_true_eq,Lib.toList_data,Lib.toList_data]
 have HR1:=hid eY
 have HR2:=hid hR2
 have HUE:=hid hue
 obtain ⟨pl,cl,rfl,hcl,hcm⟩:=hvl.slice
 obtain ⟨pr,cr,rfl,gZ,hcm2⟩:=eO.slice
 obtain ⟨B,off,rfl,lb,e0,e1,e2⟩:=hvl.at hi
 obtain ⟨B2,lW,rfl,Qn,f0,f1,f2⟩:=eO.at hj
 unfold maxLen at hcm hcm2
 unfold uC oF
 unfold RO at HT1 HT2
 unfold RV at *
 clear hvl eO hC hzl YS htk z1 z2 zd za eY hR2 hue
 generalize tx (bY C L R 1 i j)=r at *
 generalize tx (C.ch*tT (aH (ah L i)-aH (ah R j))+C.mi*(aH (ah L i)+aH (ah R j)))=r2 at *
 generalize tx (C.mi*(aH (ah L i)+aH (ah R j)))=m at *
 generalize tx (aH (ah L i)+aH (ah R j))=sm at *
 generalize tx (C.ch*tT (aH (ah L i)-aH (ah R j)))=r1 at *
 generalize tx (tT (aH (ah L i)-aH (ah R j)))=ab at *
 generalize tx (aH (ah L i)-aH (ah R j))=df at *
 generalize tx (aH (ah L i))=k1 at *
 generalize tx (aH (ah R j))=k2 at *
 generalize tx C.ch=t1 at *
 generalize tx C.mi=t2 at *
 generalize tx C.ga=t3 at *
 generalize tx C.re=t4 at *
 generalize us (ah L i).u=u1 at *
 generalize tx (ah L i).a=a1 at *
 generalize tx (ah L i).b=b1 at *
 generalize us (ah R j).u=u2 at *
 generalize tx (ah R j).a=a2 at *
 generalize tx (ah R j).b=b2 at *
 have i1:(0:Int)≤(i:Int):=by omega
 have i2:(i:Int)<(L.length:Int):=by omega
 have j1:(0:Int)≤(j:Int):=by omega
 have j2:(j:Int)<(R.length:Int):=by omega
 go_enter Tryz.func239,Tryz.ntmps239
 go_upto_region 1 with fail
 obtain ⟨wP,bX⟩ : ∃ wP,wP=w.alloc (Obj.cells #[.slice (some ⟨B,off,none⟩) L.length cl,.slice (some ⟨B2,lW,none⟩) R.length cr,.string t1,.string t2,.string t3,.string t4] 122):=⟨_,rfl⟩
 obtain ⟨wA,aS⟩ : ∃ wA,wA=wP.alloc (Obj.cells #[.int .i64 1,.int .i64 (i:Int),.int .i64 (j:Int)] 57):=⟨_,rfl⟩
 have hsP:wP.heap.size=w.heap.size+1:=by rw [bX];simp
 have eT:Below w.heap.size w wP:=by rw [bX];exact ae _ _
 have hpq:wP.heap[w.heap.size]?=some (.cells #[.slice (some ⟨B,off,none⟩) L.length cl,.slice (some ⟨B2,lW,none⟩) R.length cr,.string t1,.string t2,.string t3,.string t4] 122 (0,0)):=by rw [bX];exact World.alloc_heap_new _ _
 obtain ⟨fO,ls,g0,g1,g2⟩:=aY aS
 have kI:=(fO.block _ (lt_of_some hpq)).trans hpq
 obtain ⟨q0,q1,q2,q3,q4,q5⟩:=aW kI
 have lq:=lt_of_some kI
 have aP:=eT.trans (fO.mono eT.size)
 rw [bX] at aS
 rw [←aS]
 rw [hsP] at ls g0 g1 g2
 clear aS bX hsP eT hpq fO kI
 have e0:=(aP.cell (p:=⟨B,off+i*3,none⟩) lb).trans e0
 have e1:=(aP.cell (p:=⟨B,off+i*3+1,none⟩) lb).trans e1
 have e2:=(aP.cell (p:=⟨B,off+i*3+2,none⟩) lb).trans e2
 have lb:=Nat.lt_of_lt_of_le lb aP.size
 have f0:=(aP.cell (p:=⟨B2,lW+j*3,none⟩) Qn).trans f0
 have f1:=(aP.cell (p:=⟨B2,lW+j*3+1,none⟩) Qn).trans f1
 have f2:=(aP.cell (p:=⟨B2,lW+j*3+2,none⟩) Qn).trans f2
 have Qn:=Nat.lt_of_lt_of_le Qn aP.size
 go_upto_region 3 with fail
 go_cut [5,6] from 8 to 100 (fun s5 s6 wx=>aca wA s5 s6 (.string u1) (.string a1) (.string b1) (.string u2) (.string a2) (.string b2) wx)
 case first =>
  go_wp2_with fail
  refine gG (fun W'=>Below wA.heap.size wA W') (.take 0 (.take 1 (.take 2 (.take 3 (.take 4 (.take 5 (.take 6 (.take 7 (.take 8 (.take 9 (.take 10 (.take 11 (.two 12 (.one 13 (.one 14 .fin)) 13 (.one 12 (.one 14 .fin))))))))))))))) 15 (by kernel_rfl) (by kernel_rfl) ⟨rfl,rfl,rfl,Nat.le_refl _,fun _ _=>rfl⟩ ?_
  have bZ:Below wA.heap.size wA wA.drew:=⟨rfl,rfl,rfl,Nat.le_refl _,fun _ _=>rfl⟩
  generalize wA.drew=dW at *
  iterate 12
   refine bJ rfl ?_ rfl ?_ ?_
   rotate_left
   ·intro W' hS'
    have s0:=(hS'.cell (p:=⟨w.heap.size,0,none⟩) lq).trans q0
    have s1:=(hS'.cell (p:=⟨w.heap.size,1,none⟩) lq).trans q1
    have s2:=(hS'.cell (p:=⟨w.heap.size,2,none⟩) lq).trans q2
    have s3:=(hS'.cell (p:=⟨w.heap.size,3,none⟩) lq).trans q3
    have s4:=(hS'.cell (p:=⟨w.heap.size,4,none⟩) lq).trans q4
    have s5:=(hS'.cell (p:=⟨w.heap.size,5,none⟩) lq).trans q5
    have s6:=(hS'.cell (p:=⟨w.heap.size+1,0,none⟩) ls).trans g0
    have s7:=(hS'.cell (p:=⟨w.heap.size+1,1,none⟩) ls).trans g1
    have s8:=(hS'.cell (p:=⟨w.heap.size+1,2,none⟩) ls).trans g2
    have s9:=(hS'.cell (p:=⟨B,off+i*3,none⟩) lb).trans e0
    have s10:=(hS'.cell (p:=⟨B,off+i*3+1,none⟩) lb).trans e1
    have s11:=(hS'.cell (p:=⟨B,off+i*3+2,none⟩) lb).trans e2
    have s12:=(hS'.cell (p:=⟨B2,lW+j*3,none⟩) Qn).trans f0
    have s13:=(hS'.cell (p:=⟨B2,lW+j*3+1,none⟩) Qn).trans f1
    have s14:=(hS'.cell (p:=⟨B2,lW+j*3+2,none⟩) Qn).trans f2
    go_simp
    try with_reducible rfl
   try simp only [zA,zB,zC,Act.put,zD,zE,zF]
  refine Jj ?_ ?_
  ·refine aK rfl rfl (fun K hK=>?_)
   go_simp
   obtain ⟨gK,mZ⟩ : ∃ q,q=dW.alloc (Obj.cells #[.string ⟨#[]⟩,.string ⟨#[]⟩,.string ⟨#[]⟩] 89):=⟨_,rfl⟩
   have Cz:gK.heap[dW.heap.size]?=some (.cells #[.string ⟨#[]⟩,.string ⟨#[]⟩,.string ⟨#[]⟩] 89 (0,0)):=by rw [mZ];exact World.alloc_heap_new _ _
   have cK:Below dW.heap.size dW gK:=by rw [mZ];exact ae _ _
   have hP1:=bZ.trans (cK.mono bZ.size)
   rw [←mZ]
   clear mZ
   refine hK _ _ ⟨hP1,?_⟩
   clear hK K
   try simp only [zA,zB,zC,Act.put,zD,zE,zF]
   refine aK rfl rfl (fun K hK=>?_)
   go_simp
   obtain ⟨sW,jo⟩ : ∃ q,q=gK.alloc (Obj.cells #[.string ⟨#[]⟩,.string ⟨#[]⟩,.string ⟨#[]⟩] 89):=⟨_,rfl⟩
   have Un:sW.heap[gK.heap.size]?=some (.cells #[.string ⟨#[]⟩,.string ⟨#[]⟩,.string ⟨#[]⟩] 89 (0,0)):=by rw [jo];exact World.alloc_heap_new _ _
   have dK:Below gK.heap.size gK sW:=by rw [jo];exact ae _ _
   have hP2:=hP1.trans (dK.mono hP1.size)
   rw [←jo]
   clear jo
   have xA:=(dK.block _ (lt_of_some Cz)).trans Cz
   refine hK _ _ ⟨hP2,?_⟩
   clear hK K
   try simp only [zA,zB,zC,Act.put,zD,zE,zF]
   obtain ⟨_,_,_⟩:=bP xA
   obtain ⟨_,_,_⟩:=az xA
   refine aK rfl rfl (fun K hK=>?_)
   go_simp
   refine hK _ _ ⟨bW _ _ _ bZ.size hP2,?_⟩
   clear hK K
   try simp only [zA,zB,zC,Act.put,zD,zE,zF]
   unfold gP
   simp only [List.drop_succ_cons,List.drop_zero]
   have Uo:dW.heap.size<gK.heap.size:=by
    have:=lt_of_some Cz
    exact this
   have iV:(gK.heap.size:Nat)≠dW.heap.size:=(Nat.ne_of_gt Uo)
   have kA:=fG (.string u1) (.string a1) (.string b1) xA
   have kD:=fG (.string u2) (.string a2) (.string b2) ((fH (.string u1) (.string a1) (.string b1) iV).trans Un)
   have kA2:=(fH (.string u2) (.string a2) (.string b2) (Ne.symm iV)).trans kA
   have kB:=bW (.string u2) (.string a2) (.string b2) hP1.size (bW (.string u1) (.string a1) (.string b1) bZ.size hP2)
   obtain ⟨_,_,_⟩:=bP xA
   obtain ⟨_,_,_⟩:=bP Un
   obtain ⟨_,_,_⟩:=az xA
   obtain ⟨_,_,_⟩:=az Un
   have eF:=hid (show aca wA (.pointer (some ⟨dW.heap.size,0,none⟩)) (.pointer (some ⟨gK.heap.size,0,none⟩)) (.string u1) (.string a1) (.string b1) (.string u2) (.string a2) (.string b2) _ from ⟨_,_,rfl,rfl,kA2,kD,kB⟩)
   have vD:(dW.heap.size:Nat)≠gK.heap.size:=Ne.symm iV
   clear kA kD kA2 kB Uo
   go_wp2
   refine ag.mk ?_
   go_wp2_with fail
   go_meet
   exact eF.out
  ·refine aK rfl rfl (fun K hK=>?_)
   go_simp
   obtain ⟨iW,gq⟩ : ∃ q,q=dW.alloc (Obj.cells #[.string ⟨#[]⟩,.string ⟨#[]⟩,.string ⟨#[]⟩] 89):=⟨_,rfl⟩
   have Uq:iW.heap[dW.heap.size]?=some (.cells #[.string ⟨#[]⟩,.string ⟨#[]⟩,.string ⟨#[]⟩] 89 (0,0)):=by rw [gq];exact World.alloc_heap_new _ _
   have jq:Below dW.heap.size dW iW:=by rw [gq];exact ae _ _
   have lY:=bZ.trans (jq.mono bZ.size)
   rw [←gq]
   clear gq
   refine hK _ _ ⟨lY,?_⟩
   clear hK K
   try simp only [zA,zB,zC,Act.put,zD,zE,zF]
   refine aK rfl rfl (fun K hK=>?_)
   go_simp
   obtain ⟨pQ,dL⟩ : ∃ q,q=iW.alloc (Obj.cells #[.string ⟨#[]⟩,.string ⟨#[]⟩,.string ⟨#[]⟩] 89):=⟨_,rfl⟩
   have J8:pQ.heap[iW.heap.size]?=some (.cells #[.string ⟨#[]⟩,.string ⟨#[]⟩,.string ⟨#[]⟩] 89 (0,0)):=by rw [dL];exact World.alloc_heap_new _ _
   have jr:Below iW.heap.size iW pQ:=by rw [dL];exact ae _ _
   have yK:=lY.trans (jr.mono lY.size)
   rw [←dL]
   clear dL
   have G6:=(jr.block _ (lt_of_some Uq)).trans Uq
   refine hK _ _ ⟨yK,?_⟩
   clear hK K
   try simp only [zA,zB,zC,Act.put,zD,zE,zF]
   obtain ⟨_,_,_⟩:=bP J8
   obtain ⟨_,_,_⟩:=az J8
   refine aK rfl rfl (fun K hK=>?_)
   go_simp
   refine hK _ _ ⟨bW _ _ _ lY.size yK,?_⟩
   clear hK K
   try simp only [zA,zB,zC,Act.put,zD,zE,zF]
   unfold gP
   simp only [List.drop_succ_cons,List.drop_zero]
   have Uo:dW.heap.size<iW.heap.size:=by
    have:=lt_of_some Uq
    exact this
   have iV:(dW.heap.size:Nat)≠iW.heap.size:=(Nat.ne_of_lt Uo)
   have kA:=fG (.string u1) (.string a1) (.string b1) J8
   have kD:=fG (.string u2) (.string a2) (.string b2) ((fH (.string u1) (.string a1) (.string b1) iV).trans G6)
   have kA2:=(fH (.string u2) (.string a2) (.string b2) (Ne.symm iV)).trans kA
   have kB:=bW (.string u2) (.string a2) (.string b2) bZ.size (bW (.string u1) (.string a1) (.string b1) lY.size yK)
   obtain ⟨_,_,_⟩:=bP J8
   obtain ⟨_,_,_⟩:=bP G6
   obtain ⟨_,_,_⟩:=az J8
   obtain ⟨_,_,_⟩:=az G6
   have eF:=hid (show aca wA (.pointer (some ⟨iW.heap.size,0,none⟩)) (.pointer (some ⟨dW.heap.size,0,none⟩)) (.string u1) (.string a1) (.string b1) (.string u2) (.string a2) (.string b2) _ from ⟨_,_,rfl,rfl,kA2,kD,kB⟩)
   have vD:(iW.heap.size:Nat)≠dW.heap.size:=Ne.symm iV
   clear kA kD kA2 kB Uo
   go_wp2
   refine ag.mk ?_
   go_wp2_with fail
   go_meet
   exact eF.out
 case rest =>
 obtain ⟨A,D,rfl,rfl,hA,hD,hbc⟩:=hcut
 have hb5:=aP.trans (hbc.mono aP.size)
 have hlA:=aa hA
 have hlD:=aa hD
 obtain ⟨m0,m1,m2⟩:=az hA
 obtain ⟨n0,n1,n2⟩:=az hD
 have q0:=(hbc.cell (p:=⟨w.heap.size,0,none⟩) lq).trans q0
 have q1:=(hbc.cell (p:=⟨w.heap.size,1,none⟩) lq).trans q1
 have q2:=(hbc.cell (p:=⟨w.heap.size,2,none⟩) lq).trans q2
 have q3:=(hbc.cell (p:=⟨w.heap.size,3,none⟩) lq).trans q3
 have q4:=(hbc.cell (p:=⟨w.heap.size,4,none⟩) lq).trans q4
 have q5:=(hbc.cell (p:=⟨w.heap.size,5,none⟩) lq).trans q5
 have lq:=Nat.lt_of_lt_of_le lq hbc.size
 clear hA hD e0 e1 e2 f0 f1 f2 g0 g1 g2
 go_wp2_with fail
 refine gG (fun W'=>Below wc.heap.size wc W') (.take 0 (.take 1 (.take 2 (.take 3 (.take 5 (.one 4 (.one 6 (.one 7 (.one 8 (.one 9 .fin)))))))))) 10 (by kernel_rfl) (by kernel_rfl) ⟨rfl,rfl,rfl,Nat.le_refl _,fun _ _=>rfl⟩ ?_
 have MQ:Below wc.heap.size wc wc.drew:=⟨rfl,rfl,rfl,Nat.le_refl _,fun _ _=>rfl⟩
 generalize wc.drew=qv0 at *
 iterate 5
  refine bJ rfl ?_ rfl ?_ ?_
  rotate_left
  ·intro W' hS'
   have s0:=(hS'.cell (p:=⟨w.heap.size,0,none⟩) lq).trans q0
   have s1:=(hS'.cell (p:=⟨w.heap.size,1,none⟩) lq).trans q1
   have s2:=(hS'.cell (p:=⟨w.heap.size,2,none⟩) lq).trans q2
   have s3:=(hS'.cell (p:=⟨w.heap.size,3,none⟩) lq).trans q3
   have s4:=(hS'.cell (p:=⟨w.heap.size,4,none⟩) lq).trans q4
   have s5:=(hS'.cell (p:=⟨w.heap.size,5,none⟩) lq).trans q5
   have s6:=(hS'.cell (p:=⟨A,0,none⟩) hlA).trans m0
   have s7:=(hS'.cell (p:=⟨A,1,none⟩) hlA).trans m1
   have s8:=(hS'.cell (p:=⟨A,2,none⟩) hlA).trans m2
   have s9:=(hS'.cell (p:=⟨D,0,none⟩) hlD).trans n0
   have s10:=(hS'.cell (p:=⟨D,1,none⟩) hlD).trans n1
   have s11:=(hS'.cell (p:=⟨D,2,none⟩) hlD).trans n2
   go_simp
   try with_reducible rfl
  try simp only [zA,zB,zC,Act.put,zD,zE,zF]
 refine aK rfl rfl (fun K hK=>?_)
 go_simp
 refine (HT1.out _ (hw.below (hb5.trans (MQ.mono hb5.size)))).mono ?_
 rintro e qv1 ⟨rfl,J9⟩
 have I8:=MQ.trans (J9.mono MQ.size)
 refine hK _ _ ⟨I8,?_⟩
 clear hK K
 try simp only [zA,zB,zC,Act.put,zD,zE,zF]
 refine aK rfl rfl (fun K hK=>?_)
 go_simp
 refine (HT2.out _ (hw.below (hb5.trans (I8.mono hb5.size)))).mono ?_
 rintro e qv2 ⟨rfl,Ka⟩
 have I9:=I8.trans (Ka.mono I8.size)
 refine hK _ _ ⟨I9,?_⟩
 clear hK K
 try simp only [zA,zB,zC,Act.put,zD,zE,zF]
 refine aK rfl rfl (fun K hK=>?_)
 go_simp
 refine (HS.out _ (hw.below (hb5.trans (I9.mono hb5.size)))).mono ?_
 rintro e qv3 ⟨rfl,Kb⟩
 have OB:=I9.trans (Kb.mono I9.size)
 refine hK _ _ ⟨OB,?_⟩
 clear hK K
 try simp only [zA,zB,zC,Act.put,zD,zE,zF]
 refine aK rfl rfl (fun K hK=>?_)
 go_simp
 refine (HAB.out _).mono ?_
 rintro e ZE ⟨rfl,Kc⟩
 have RP:=OB.trans (Kc.mono OB.size)
 refine hK _ _ ⟨RP,?_⟩
 clear hK K
 try simp only [zA,zB,zC,Act.put,zD,zE,zF]
 refine aK rfl rfl (fun K hK=>?_)
 go_simp
 refine (ZC.out _ (hw.below (hb5.trans (RP.mono hb5.size)))).mono ?_
 rintro e ZF ⟨rfl,Ke⟩
 have Aw:=RP.trans (Ke.mono RP.size)
 refine hK _ _ ⟨Aw,?_⟩
 clear hK K
 try simp only [zA,zB,zC,Act.put,zD,zE,zF]
 unfold gP
 simp only [List.drop_succ_cons,List.drop_zero]
 have hb6:=hb5.trans (Aw.mono hb5.size)
 have lq6:=Nat.lt_of_lt_of_le lq Aw.size
 have q06:=(Aw.cell (p:=⟨w.heap.size,0,none⟩) lq).trans q0
 have q16:=(Aw.cell (p:=⟨w.heap.size,1,none⟩) lq).trans q1
 have q26:=(Aw.cell (p:=⟨w.heap.size,2,none⟩) lq).trans q2
 have q36:=(Aw.cell (p:=⟨w.heap.size,3,none⟩) lq).trans q3
 have q46:=(Aw.cell (p:=⟨w.heap.size,4,none⟩) lq).trans q4
 have q56:=(Aw.cell (p:=⟨w.heap.size,5,none⟩) lq).trans q5
 have acb:=Nat.lt_of_lt_of_le hlA Aw.size
 have m06:=(Aw.cell (p:=⟨A,0,none⟩) hlA).trans m0
 have m16:=(Aw.cell (p:=⟨A,1,none⟩) hlA).trans m1
 have m26:=(Aw.cell (p:=⟨A,2,none⟩) hlA).trans m2
 have acd:=Nat.lt_of_lt_of_le hlD Aw.size
 have n06:=(Aw.cell (p:=⟨D,0,none⟩) hlD).trans n0
 have n16:=(Aw.cell (p:=⟨D,1,none⟩) hlD).trans n1
 have n26:=(Aw.cell (p:=⟨D,2,none⟩) hlD).trans n2
 obtain ⟨w6,RQ⟩ : ∃ q,q=ZF:=⟨_,rfl⟩
 subst RQ
 go_wp2
 refine ag.mk ?_
 by_cases hun:(ah L i).u=(ah R j).u
 ·have hne:=HUE.out
  rw [decide_eq_true hun] at hne
  go_wp2_with fail
  go_ret
  exact ⟨by rw [HR1.out hun];rfl,hb6⟩
 ·have hne:=HUE.out
  rw [decide_eq_false hun] at hne
  go_wp2_with fail
  refine gG (fun W'=>Below w6.heap.size w6 W') (.take 0 (.take 1 (.take 2 (.take 3 (.take 4 (.take 6 (.one 5 (.one 7 (.one 8 (.one 9 (.one 10 .fin))))))))))) 11 (by kernel_rfl) (by kernel_rfl) ⟨rfl,rfl,rfl,Nat.le_refl _,fun _ _=>rfl⟩ ?_
  have hS0:Below w6.heap.size w6 w6.drew:=⟨rfl,rfl,rfl,Nat.le_refl _,fun _ _=>rfl⟩
  generalize w6.drew=sv0 at *
  iterate 6
   refine bJ rfl ?_ rfl ?_ ?_
   rotate_left
   ·intro W' hS'
    have s0:=(hS'.cell (p:=⟨w.heap.size,0,none⟩) lq6).trans q06
    have s1:=(hS'.cell (p:=⟨w.heap.size,1,none⟩) lq6).trans q16
    have s2:=(hS'.cell (p:=⟨w.heap.size,2,none⟩) lq6).trans q26
    have s3:=(hS'.cell (p:=⟨w.heap.size,3,none⟩) lq6).trans q36
    have s4:=(hS'.cell (p:=⟨w.heap.size,4,none⟩) lq6).trans q46
    have s5:=(hS'.cell (p:=⟨w.heap.size,5,none⟩) lq6).trans q56
    have s6:=(hS'.cell (p:=⟨A,0,none⟩) acb).trans m06
    have s7:=(hS'.cell (p:=⟨A,1,none⟩) acb).trans m16
    have s8:=(hS'.cell (p:=⟨A,2,none⟩) acb).trans m26
    have s9:=(hS'.cell (p:=⟨D,0,none⟩) acd).trans n06
    have s10:=(hS'.cell (p:=⟨D,1,none⟩) acd).trans n16
    have s11:=(hS'.cell (p:=⟨D,2,none⟩) acd).trans n26
    go_simp
    try with_reducible rfl
   try simp only [zA,zB,zC,Act.put,zD,zE,zF]
  refine aK rfl rfl (fun K hK=>?_)
  go_simp
  refine (HT1.out _ (hw.below (hb6.trans (hS0.mono hb6.size)))).mono ?_
  rintro e sv1 ⟨rfl,Ur⟩
  have hS1:=hS0.trans (Ur.mono hS0.size)
  refine hK _ _ ⟨hS1,?_⟩
  clear hK K
  try simp only [zA,zB,zC,Act.put,zD,zE,zF]
  refine aK rfl rfl (fun K hK=>?_)
  go_simp
  refine (HT2.out _ (hw.below (hb6.trans (hS1.mono hb6.size)))).mono ?_
  rintro e sv2 ⟨rfl,adZ⟩
  have hS2:=hS1.trans (adZ.mono hS1.size)
  refine hK _ _ ⟨hS2,?_⟩
  clear hK K
  try simp only [zA,zB,zC,Act.put,zD,zE,zF]
  refine aK rfl rfl (fun K hK=>?_)
  go_simp
  refine (HS2.out _ (hw.below (hb6.trans (hS2.mono hb6.size)))).mono ?_
  rintro e sv3 ⟨rfl,ad1⟩
  have Lv:=hS2.trans (ad1.mono hS2.size)
  refine hK _ _ ⟨Lv,?_⟩
  clear hK K
  try simp only [zA,zB,zC,Act.put,zD,zE,zF]
  refine aK rfl rfl (fun K hK=>?_)
  go_simp
  refine (mE.out _ (hw.below (hb6.trans (Lv.mono hb6.size)))).mono ?_
  rintro e sv4 ⟨rfl,ad2⟩
  have hS4:=Lv.trans (ad2.mono Lv.size)
  refine hK _ _ ⟨hS4,?_⟩
  clear hK K
  try simp only [zA,zB,zC,Act.put,zD,zE,zF]
  refine aK rfl rfl (fun K hK=>?_)
  go_simp
  refine (HA2.out _ (hw.below (hb6.trans (hS4.mono hb6.size)))).mono ?_
  rintro e sv5 ⟨rfl,ad3⟩
  have hS5:=hS4.trans (ad3.mono hS4.size)
  refine hK _ _ ⟨hS5,?_⟩
  clear hK K
  try simp only [zA,zB,zC,Act.put,zD,zE,zF]
  unfold gP
  simp only [List.drop_succ_cons,List.drop_zero]
  have hbu:=hb6.trans (hS5.mono hb6.size)
  go_wp2
  refine ag.mk ?_
  go_wp2
  go_ret
  exact ⟨by rw [HR2.out hun];rfl,hbu⟩
theorem ZG {w:World} (vl vr:Value) (C:Cs) (L R:List Iv) (k i j:Nat) (hk:k∈kinds) (hc:bF L R k i j=true) (hn:L.length≤1000) (hm:R.length≤1000) (hC:CsZ 1000 C) (hzl:∀ i,i<L.length→I7 1000 (ah L i)) (YS:∀ j,j<R.length→I7 1000 (ah R j)) (hvl:gm w vl L) (eO:gm w vr R) (hw:Good w) :
  Calls Tryz.prog 239 #[uC vl vr C,oF k i j] w (RV (.string (tx (bY C L R k i j))) w):=by
 unfold kinds at hk
 simp only [List.mem_cons,List.not_mem_nil,or_false] at hk
 unfold bF at hc
 rcases hk with rfl | rfl | rfl | rfl | rfl
 ·simp at hc
  exact Um vl vr C L R i j hc.1 hc.2 hC (hzl i hc.1) (YS j hc.2) hvl eO hw
 ·simp at hc
  exact Ui vl vr C L R i j hc hn hC (hzl i hc) hvl eO hw
 ·simp at hc
  exact Uj vl vr C L R i j hc hm hC (YS j hc) hvl eO hw
 ·simp at hc
  exact Uk vl vr C L R i j hc.1 hn hC (hzl i hc.1) hvl eO hw
 ·simp at hc
  exact Ul vl vr C L R i j hc.1 hm hC (YS j hc.1) hvl eO hw
def E5 (L R:List Iv) (k i j:Nat):Int:=
 if gD k i≤L.length∧iD k j≤R.length then (if (k=4∧qO L i=false)∨(k=5∧qO R j=false) then 7 else 0) else 11
theorem Qo {L R:List Iv} {k i j:Nat} (hk:k∈kinds) (hi:i≤L.length) (hj:j≤R.length):(E5 L R k i j == 0)=bF L R k i j:=by
 unfold kinds at hk
 simp only [List.mem_cons,List.not_mem_nil,or_false] at hk
 unfold E5 bF gD iD
 rcases hk with rfl | rfl | rfl | rfl | rfl
 ·by_cases h:i<L.length <;> by_cases h2:j<R.length <;> simp [Nat.succ_le_iff,h,h2]
 ·by_cases h:i<L.length <;> simp [Nat.succ_le_iff,h,hj]
 ·by_cases h:j<R.length <;> simp [Nat.succ_le_iff,h,hi]
 ·by_cases h:i<L.length <;> cases hr:qO L i <;> simp [Nat.succ_le_iff,h,hj]
 ·by_cases h:j<R.length <;> cases hr:qO R j <;> simp [Nat.succ_le_iff,h,hi]
theorem G7 {w:World} (vl vr:Value) (C:Cs) (L R:List Iv) (k i j:Nat) (hk:k∈kinds) (hi:i≤L.length) (hj:j≤R.length) (hn:L.length≤999) (hm:R.length≤999) (hvl:gm w vl L) (eO:gm w vr R) :
  Calls Tryz.prog 238 #[uC vl vr C,oF k i j] w (RV (.int .i64 (E5 L R k i j)) w):=by
 have vC:=hid (fun w'=>xz k i j hk (by omega) (by omega) w')
 have HRL:=hid (fun (h:i<L.length) w' (hb:Below w.heap.size w w')=>Cy vl L i h (by omega) w' (hvl.below hb))
 have HRR:=hid (fun (h:j<R.length) w' (hb:Below w.heap.size w w')=>Cy vr R j h (by omega) w' (eO.below hb))
 obtain ⟨pl,cl,rfl,hcl,hcm⟩:=hvl.slice
 obtain ⟨pr,cr,rfl,gZ,hcm2⟩:=eO.slice
 obtain ⟨P,hP⟩ : ∃ P,P=gD k i:=⟨_,rfl⟩
 obtain ⟨Q,hQ⟩ : ∃ Q,Q=iD k j:=⟨_,rfl⟩
 obtain ⟨E,hE⟩ : ∃ E,E=E5 L R k i j:=⟨_,rfl⟩
 rw [←hE]
 unfold E5 at hE
 rw [←hP,←hQ] at vC hE
 unfold gD at hP
 unfold iD at hQ
 have HP:=hid hP
 have HQ:=hid hQ
 have HE:=hid hE
 unfold maxLen at hcm hcm2
 unfold uC oF at *
 unfold RV at *
 generalize tx C.ch=t1 at *
 generalize tx C.mi=t2 at *
 generalize tx C.ga=t3 at *
 generalize tx C.re=t4 at *
 have i0:decide ((i:Int)<0)=false:=decide_eq_false (by omega)
 have i1:decide ((L.length:Int)<(i:Int))=false:=decide_eq_false (by omega)
 have i1':decide (L.length<i)=false:=decide_eq_false (by omega)
 have j0:decide ((j:Int)<0)=false:=decide_eq_false (by omega)
 have j1:decide ((R.length:Int)<(j:Int))=false:=decide_eq_false (by omega)
 have j1':decide (R.length<j)=false:=decide_eq_false (by omega)
 clear hvl eO hP hQ hE hn hm hcl gZ
 unfold kinds at hk
 simp only [List.mem_cons,List.not_mem_nil,or_false] at hk
 rcases hk with rfl | rfl | rfl | rfl | rfl
 ·go_enter Tryz.func238,Tryz.ntmps238
  go_upto_region 1 with fail
  obtain ⟨wP,bX⟩ : ∃ wP,wP=w.alloc (Obj.cells #[.slice pl L.length cl,.slice pr R.length cr,.string t1,.string t2,.string t3,.string t4] 122):=⟨_,rfl⟩
  obtain ⟨wA,aS⟩ : ∃ wA,wA=wP.alloc (Obj.cells #[.int .i64 1,.int .i64 (i:Int),.int .i64 (j:Int)] 57):=⟨_,rfl⟩
  have hsP:wP.heap.size=w.heap.size+1:=by rw [bX];simp
  have eT:Below w.heap.size w wP:=by rw [bX];exact ae _ _
  have hpq:wP.heap[w.heap.size]?=some (.cells #[.slice pl L.length cl,.slice pr R.length cr,.string t1,.string t2,.string t3,.string t4] 122 (0,0)):=by rw [bX];exact World.alloc_heap_new _ _
  obtain ⟨fO,ls,g0,g1,g2⟩:=aY aS
  have kI:=(fO.block _ (lt_of_some hpq)).trans hpq
  obtain ⟨q0,q1,q2,q3,q4,q5⟩:=aW kI
  have lq:=lt_of_some kI
  have aP:=eT.trans (fO.mono eT.size)
  rw [bX] at aS
  rw [←aS]
  rw [hsP] at ls g0 g1 g2
  clear aS bX hsP eT hpq fO kI
  go_wp2_with fail
  refine (vC.out wA).mono ?_
  rintro e w1 ⟨rfl,hw1⟩
  have hb1:=aP.trans (hw1.mono aP.size)
  have q0:=(hw1.cell (p:=⟨w.heap.size,0,none⟩) lq).trans q0
  have q1:=(hw1.cell (p:=⟨w.heap.size,1,none⟩) lq).trans q1
  have g0:=(hw1.cell (p:=⟨w.heap.size+1,0,none⟩) ls).trans g0
  have g1:=(hw1.cell (p:=⟨w.heap.size+1,1,none⟩) ls).trans g1
  have g2:=(hw1.cell (p:=⟨w.heap.size+1,2,none⟩) ls).trans g2
  have lq:=Nat.lt_of_lt_of_le lq hw1.size
  have ls:=Nat.lt_of_lt_of_le ls hw1.size
  by_cases hp:P≤L.length
  ·have p1:decide ((L.length:Int)<(P:Int))=false:=decide_eq_false (by omega)
   have p2:decide (L.length<P)=false:=decide_eq_false (by omega)
   by_cases hq:Q≤R.length
   ·have p3:decide ((R.length:Int)<(Q:Int))=false:=decide_eq_false (by omega)
    have p4:decide (R.length<Q)=false:=decide_eq_false (by omega)
    have HR:=hid (show E=0 by rw [HE.out,if_pos ⟨hp,hq⟩,if_neg (by omega)])
    clear hp hq
    go_wp2
    go_ret
    exact ⟨by rw [HR.out];rfl,hb1⟩
   ·have p3:decide ((R.length:Int)<(Q:Int))=true:=decide_eq_true (by omega)
    have p4:decide (R.length<Q)=true:=decide_eq_true (by omega)
    have HR:=hid (show E=11 by rw [HE.out,if_neg (fun h=>hq h.2)])
    clear hp hq
    go_wp2
    go_ret
    exact ⟨by rw [HR.out];rfl,hb1⟩
  ·have p1:decide ((L.length:Int)<(P:Int))=true:=decide_eq_true (by omega)
   have p2:decide (L.length<P)=true:=decide_eq_true (by omega)
   have HR:=hid (show E=11 by rw [HE.out,if_neg (fun h=>hp h.1)])
   clear hp
   go_wp2
   go_ret
   exact ⟨by rw [HR.out];rfl,hb1⟩
 ·go_enter Tryz.func238,Tryz.ntmps238
  go_upto_region 1 with fail
  obtain ⟨wP,bX⟩ : ∃ wP,wP=w.alloc (Obj.cells #[.slice pl L.length cl,.slice pr R.length cr,.string t1,.string t2,.string t3,.string t4] 122):=⟨_,rfl⟩
  obtain ⟨wA,aS⟩ : ∃ wA,wA=wP.alloc (Obj.cells #[.int .i64 2,.int .i64 (i:Int),.int .i64 (j:Int)] 57):=⟨_,rfl⟩
  have hsP:wP.heap.size=w.heap.size+1:=by rw [bX];simp
  have eT:Below w.heap.size w wP:=by rw [bX];exact ae _ _
  have hpq:wP.heap[w.heap.size]?=some (.cells #[.slice pl L.length cl,.slice pr R.length cr,.string t1,.string t2,.string t3,.string t4] 122 (0,0)):=by rw [bX];exact World.alloc_heap_new _ _
  obtain ⟨fO,ls,g0,g1,g2⟩:=aY aS
  have kI:=(fO.block _ (lt_of_some hpq)).trans hpq
  obtain ⟨q0,q1,q2,q3,q4,q5⟩:=aW kI
  have lq:=lt_of_some kI
  have aP:=eT.trans (fO.mono eT.size)
  rw [bX] at aS
  rw [←aS]
  rw [hsP] at ls g0 g1 g2
  clear aS bX hsP eT hpq fO kI
  go_wp2_with fail
  refine (vC.out wA).mono ?_
  rintro e w1 ⟨rfl,hw1⟩
  have hb1:=aP.trans (hw1.mono aP.size)
  have q0:=(hw1.cell (p:=⟨w.heap.size,0,none⟩) lq).trans q0
  have q1:=(hw1.cell (p:=⟨w.heap.size,1,none⟩) lq).trans q1
  have g0:=(hw1.cell (p:=⟨w.heap.size+1,0,none⟩) ls).trans g0
  have g1:=(hw1.cell (p:=⟨w.heap.size+1,1,none⟩) ls).trans g1
  have g2:=(hw1.cell (p:=⟨w.heap.size+1,2,none⟩) ls).trans g2
  have lq:=Nat.lt_of_lt_of_le lq hw1.size
  have ls:=Nat.lt_of_lt_of_le ls hw1.size
  by_cases hp:P≤L.length
  ·have p1:decide ((L.length:Int)<(P:Int))=false:=decide_eq_false (by omega)
   have p2:decide (L.length<P)=false:=decide_eq_false (by omega)
   by_cases hq:Q≤R.length
   ·have p3:decide ((R.length:Int)<(Q:Int))=false:=decide_eq_false (by omega)
    have p4:decide (R.length<Q)=false:=decide_eq_false (by omega)
    have HR:=hid (show E=0 by rw [HE.out,if_pos ⟨hp,hq⟩,if_neg (by omega)])
    clear hp hq
    go_wp2
    go_ret
    exact ⟨by rw [HR.out];rfl,hb1⟩
   ·have p3:decide ((R.length:Int)<(Q:Int))=true:=decide_eq_true (by omega)
    have p4:decide (R.length<Q)=true:=decide_eq_true (by omega)
    have HR:=hid (show E=11 by rw [HE.out,if_neg (fun h=>hq h.2)])
    clear hp hq
    go_wp2
    go_ret
    exact ⟨by rw [HR.out];rfl,hb1⟩
  ·have p1:decide ((L.length:Int)<(P:Int))=true:=decide_eq_true (by omega)
   have p2:decide (L.length<P)=true:=decide_eq_true (by omega)
   have HR:=hid (show E=11 by rw [HE.out,if_neg (fun h=>hp h.1)])
   clear hp
   go_wp2
   go_ret
   exact ⟨by rw [HR.out];rfl,hb1⟩
 ·go_enter Tryz.func238,Tryz.ntmps238
  go_upto_region 1 with fail
  obtain ⟨wP,bX⟩ : ∃ wP,wP=w.alloc (Obj.cells #[.slice pl L.length cl,.slice pr R.length cr,.string t1,.string t2,.string t3,.string t4] 122):=⟨_,rfl⟩
  obtain ⟨wA,aS⟩ : ∃ wA,wA=wP.alloc (Obj.cells #[.int .i64 3,.int .i64 (i:Int),.int .i64 (j:Int)] 57):=⟨_,rfl⟩
  have hsP:wP.heap.size=w.heap.size+1:=by rw [bX];simp
  have eT:Below w.heap.size w wP:=by rw [bX];exact ae _ _
  have hpq:wP.heap[w.heap.size]?=some (.cells #[.slice pl L.length cl,.slice pr R.length cr,.string t1,.string t2,.string t3,.string t4] 122 (0,0)):=by rw [bX];exact World.alloc_heap_new _ _
  obtain ⟨fO,ls,g0,g1,g2⟩:=aY aS
  have kI:=(fO.block _ (lt_of_some hpq)).trans hpq
  obtain ⟨q0,q1,q2,q3,q4,q5⟩:=aW kI
  have lq:=lt_of_some kI
  have aP:=eT.trans (fO.mono eT.size)
  rw [bX] at aS
  rw [←aS]
  rw [hsP] at ls g0 g1 g2
  clear aS bX hsP eT hpq fO kI
  go_wp2_with fail
  refine (vC.out wA).mono ?_
  rintro e w1 ⟨rfl,hw1⟩
  have hb1:=aP.trans (hw1.mono aP.size)
  have q0:=(hw1.cell (p:=⟨w.heap.size,0,none⟩) lq).trans q0
  have q1:=(hw1.cell (p:=⟨w.heap.size,1,none⟩) lq).trans q1
  have g0:=(hw1.cell (p:=⟨w.heap.size+1,0,none⟩) ls).trans g0
  have g1:=(hw1.cell (p:=⟨w.heap.size+1,1,none⟩) ls).trans g1
  have g2:=(hw1.cell (p:=⟨w.heap.size+1,2,none⟩) ls).trans g2
  have lq:=Nat.lt_of_lt_of_le lq hw1.size
  have ls:=Nat.lt_of_lt_of_le ls hw1.size
  by_cases hp:P≤L.length
  ·have p1:decide ((L.length:Int)<(P:Int))=false:=decide_eq_false (by omega)
   have p2:decide (L.length<P)=false:=decide_eq_false (by omega)
   by_cases hq:Q≤R.length
   ·have p3:decide ((R.length:Int)<(Q:Int))=false:=decide_eq_false (by omega)
    have p4:decide (R.length<Q)=false:=decide_eq_false (by omega)
    have HR:=hid (show E=0 by rw [HE.out,if_pos ⟨hp,hq⟩,if_neg (by omega)])
    clear hp hq
    go_wp2
    go_ret
    exact ⟨by rw [HR.out];rfl,hb1⟩
   ·have p3:decide ((R.length:Int)<(Q:Int))=true:=decide_eq_true (by omega)
    have p4:decide (R.length<Q)=true:=decide_eq_true (by omega)
    have HR:=hid (show E=11 by rw [HE.out,if_neg (fun h=>hq h.2)])
    clear hp hq
    go_wp2
    go_ret
    exact ⟨by rw [HR.out];rfl,hb1⟩
  ·have p1:decide ((L.length:Int)<(P:Int))=true:=decide_eq_true (by omega)
   have p2:decide (L.length<P)=true:=decide_eq_true (by omega)
   have HR:=hid (show E=11 by rw [HE.out,if_neg (fun h=>hp h.1)])
   clear hp
   go_wp2
   go_ret
   exact ⟨by rw [HR.out];rfl,hb1⟩
 ·go_enter Tryz.func238,Tryz.ntmps238
  go_upto_region 1 with fail
  obtain ⟨wP,bX⟩ : ∃ wP,wP=w.alloc (Obj.cells #[.slice pl L.length cl,.slice pr R.length cr,.string t1,.string t2,.string t3,.string t4] 122):=⟨_,rfl⟩
  obtain ⟨wA,aS⟩ : ∃ wA,wA=wP.alloc (Obj.cells #[.int .i64 4,.int .i64 (i:Int),.int .i64 (j:Int)] 57):=⟨_,rfl⟩
  have hsP:wP.heap.size=w.heap.size+1:=by rw [bX];simp
  have eT:Below w.heap.size w wP:=by rw [bX];exact ae _ _
  have hpq:wP.heap[w.heap.size]?=some (.cells #[.slice pl L.length cl,.slice pr R.length cr,.string t1,.string t2,.string t3,.string t4] 122 (0,0)):=by rw [bX];exact World.alloc_heap_new _ _
  obtain ⟨fO,ls,g0,g1,g2⟩:=aY aS
  have kI:=(fO.block _ (lt_of_some hpq)).trans hpq
  obtain ⟨q0,q1,q2,q3,q4,q5⟩:=aW kI
  have lq:=lt_of_some kI
  have aP:=eT.trans (fO.mono eT.size)
  rw [bX] at aS
  rw [←aS]
  rw [hsP] at ls g0 g1 g2
  clear aS bX hsP eT hpq fO kI
  go_wp2_with fail
  refine (vC.out wA).mono ?_
  rintro e w1 ⟨rfl,hw1⟩
  have hb1:=aP.trans (hw1.mono aP.size)
  have q0:=(hw1.cell (p:=⟨w.heap.size,0,none⟩) lq).trans q0
  have q1:=(hw1.cell (p:=⟨w.heap.size,1,none⟩) lq).trans q1
  have g0:=(hw1.cell (p:=⟨w.heap.size+1,0,none⟩) ls).trans g0
  have g1:=(hw1.cell (p:=⟨w.heap.size+1,1,none⟩) ls).trans g1
  have g2:=(hw1.cell (p:=⟨w.heap.size+1,2,none⟩) ls).trans g2
  have lq:=Nat.lt_of_lt_of_le lq hw1.size
  have ls:=Nat.lt_of_lt_of_le ls hw1.size
  by_cases hp:P≤L.length
  ·have p1:decide ((L.length:Int)<(P:Int))=false:=decide_eq_false (by omega)
   have p2:decide (L.length<P)=false:=decide_eq_false (by omega)
   by_cases hq:Q≤R.length
   ·have p3:decide ((R.length:Int)<(Q:Int))=false:=decide_eq_false (by omega)
    have p4:decide (R.length<Q)=false:=decide_eq_false (by omega)
    have hlt:i<L.length:=by have:=HP.out;simp at this;omega
    have HR:=hid (show E=if qO L i=false then 7 else 0 by
     rw [HE.out,if_pos ⟨hp,hq⟩]
     by_cases h:qO L i=false <;> simp [h])
    have HC:=hid (HRL.out hlt w1 hb1)
    clear hp hq hlt
    cases hr:qO L i
    iterate 2
     ·rw [hr] at HR HC
      go_wp2_with fail
      refine HC.out.mono ?_
      rintro e w2 ⟨rfl,hw2⟩
      have q0:=(hw2.cell (p:=⟨w.heap.size,0,none⟩) lq).trans q0
      have q1:=(hw2.cell (p:=⟨w.heap.size,1,none⟩) lq).trans q1
      have g0:=(hw2.cell (p:=⟨w.heap.size+1,0,none⟩) ls).trans g0
      have g1:=(hw2.cell (p:=⟨w.heap.size+1,1,none⟩) ls).trans g1
      have g2:=(hw2.cell (p:=⟨w.heap.size+1,2,none⟩) ls).trans g2
      go_wp2_with fail
      first
      | refine ⟨trivial,?_⟩
      | skip
      go_wp2
      go_ret
      exact ⟨by rw [HR.out];rfl,hb1.trans (hw2.mono hb1.size)⟩
   ·have p3:decide ((R.length:Int)<(Q:Int))=true:=decide_eq_true (by omega)
    have p4:decide (R.length<Q)=true:=decide_eq_true (by omega)
    have HR:=hid (show E=11 by rw [HE.out,if_neg (fun h=>hq h.2)])
    clear hp hq
    go_wp2
    go_ret
    exact ⟨by rw [HR.out];rfl,hb1⟩
  ·have p1:decide ((L.length:Int)<(P:Int))=true:=decide_eq_true (by omega)
   have p2:decide (L.length<P)=true:=decide_eq_true (by omega)
   have HR:=hid (show E=11 by rw [HE.out,if_neg (fun h=>hp h.1)])
   clear hp
   go_wp2
   go_ret
   exact ⟨by rw [HR.out];rfl,hb1⟩
 ·go_enter Tryz.func238,Tryz.ntmps238
  go_upto_region 1 with fail
  obtain ⟨wP,bX⟩ : ∃ wP,wP=w.alloc (Obj.cells #[.slice pl L.length cl,.slice pr R.length cr,.string t1,.string t2,.string t3,.string t4] 122):=⟨_,rfl⟩
  obtain ⟨wA,aS⟩ : ∃ wA,wA=wP.alloc (Obj.cells #[.int .i64 5,.int .i64 (i:Int),.int .i64 (j:Int)] 57):=⟨_,rfl⟩
  have hsP:wP.heap.size=w.heap.size+1:=by rw [bX];simp
  have eT:Below w.heap.size w wP:=by rw [bX];exact ae _ _
  have hpq:wP.heap[w.heap.size]?=some (.cells #[.slice pl L.length cl,.slice pr R.length cr,.string t1,.string t2,.string t3,.string t4] 122 (0,0)):=by rw [bX];exact World.alloc_heap_new _ _
  obtain ⟨fO,ls,g0,g1,g2⟩:=aY aS
  have kI:=(fO.block _ (lt_of_some hpq)).trans hpq
  obtain ⟨q0,q1,q2,q3,q4,q5⟩:=aW kI
  have lq:=lt_of_some kI
  have aP:=eT.trans (fO.mono eT.size)
  rw [bX] at aS
  rw [←aS]
  rw [hsP] at ls g0 g1 g2
  clear aS bX hsP eT hpq fO kI
  go_wp2_with fail
  refine (vC.out wA).mono ?_
  rintro e w1 ⟨rfl,hw1⟩
  have hb1:=aP.trans (hw1.mono aP.size)
  have q0:=(hw1.cell (p:=⟨w.heap.size,0,none⟩) lq).trans q0
  have q1:=(hw1.cell (p:=⟨w.heap.size,1,none⟩) lq).trans q1
  have g0:=(hw1.cell (p:=⟨w.heap.size+1,0,none⟩) ls).trans g0
  have g1:=(hw1.cell (p:=⟨w.heap.size+1,1,none⟩) ls).trans g1
  have g2:=(hw1.cell (p:=⟨w.heap.size+1,2,none⟩) ls).trans g2
  have lq:=Nat.lt_of_lt_of_le lq hw1.size
  have ls:=Nat.lt_of_lt_of_le ls hw1.size
  by_cases hp:P≤L.length
  ·have p1:decide ((L.length:Int)<(P:Int))=false:=decide_eq_false (by omega)
   have p2:decide (L.length<P)=false:=decide_eq_false (by omega)
   by_cases hq:Q≤R.length
   ·have p3:decide ((R.length:Int)<(Q:Int))=false:=decide_eq_false (by omega)
    have p4:decide (R.length<Q)=false:=decide_eq_false (by omega)
    have hlt:j<R.length:=by have:=HQ.out;simp at this;omega
    have HR:=hid (show E=if qO R j=false then 7 else 0 by
     rw [HE.out,if_pos ⟨hp,hq⟩]
     by_cases h:qO R j=false <;> simp [h])
    have HC:=hid (HRR.out hlt w1 hb1)
    clear hp hq hlt
    cases hr:qO R j
    iterate 2
     ·rw [hr] at HR HC
      go_wp2_with fail
      refine HC.out.mono ?_
      rintro e w2 ⟨rfl,hw2⟩
      have q0:=(hw2.cell (p:=⟨w.heap.size,0,none⟩) lq).trans q0
      have q1:=(hw2.cell (p:=⟨w.heap.size,1,none⟩) lq).trans q1
      have g0:=(hw2.cell (p:=⟨w.heap.size+1,0,none⟩) ls).trans g0
      have g1:=(hw2.cell (p:=⟨w.heap.size+1,1,none⟩) ls).trans g1
      have g2:=(hw2.cell (p:=⟨w.heap.size+1,2,none⟩) ls).trans g2
      go_wp2_with fail
      first
      | refine ⟨trivial,?_⟩
      | skip
      go_wp2
      go_ret
      exact ⟨by rw [HR.out];rfl,hb1.trans (hw2.mono hb1.size)⟩
   ·have p3:decide ((R.length:Int)<(Q:Int))=true:=decide_eq_true (by omega)
    have p4:decide (R.length<Q)=true:=decide_eq_true (by omega)
    have HR:=hid (show E=11 by rw [HE.out,if_neg (fun h=>hq h.2)])
    clear hp hq
    go_wp2
    go_ret
    exact ⟨by rw [HR.out];rfl,hb1⟩
  ·have p1:decide ((L.length:Int)<(P:Int))=true:=decide_eq_true (by omega)
   have p2:decide (L.length<P)=true:=decide_eq_true (by omega)
   have HR:=hid (show E=11 by rw [HE.out,if_neg (fun h=>hp h.1)])
   clear hp
   go_wp2
   go_ret
   exact ⟨by rw [HR.out];rfl,hb1⟩
end Go.Proofs.YtglncfkoohgdaaaGreatDoor
