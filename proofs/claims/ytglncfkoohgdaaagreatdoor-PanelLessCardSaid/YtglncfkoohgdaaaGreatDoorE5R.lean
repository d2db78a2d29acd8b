import Derived.Test.YtglncfkoohgdaaaGreatDoorE3R
set_option maxRecDepth 100000
set_option maxHeartbeats 8000000
namespace Go.Proofs.YtglncfkoohgdaaaGreatDoor
open Go.RowKit Go.Shelf
open Go.Lib (decDigits itoa nDigits)
open Go.Lib (hid)
theorem Uf {w:World} (vl vr:Value) (C:Cs) (L R:List Iv) (i j:Nat) (hi:i<L.length) (hj:j<R.length) (hC:CsZ 1000 C) (hzl:IL 1000 (ah L i)) (Yo:IL 1000 (ah R j)) (hvl:gq w vl L) (eT:gq w vr R) (hw:Good w) :
  Calls Tryz.prog 239 #[uo vl vr C,ow 1 i j] w (RV (.string (tx (cK C L R 1 i j))) w):=by
 have htk:∀ (x:Iv),IL 1000 x→Go.RowKit.Hid (∀ w',Good w'→Calls Tryz.prog 261 #[RF x] w' (RV (.string (tx (aF x))) w')):=fun x hx w' hg=>rf x (hx.1.sm) (hx.2.sm) w' hg
 have HT1:=htk _ hzl
 have HT2:=htk _ Yo
 have z1:=oz hzl
 have z2:=oz Yo
 have HS:=hid (fun w' (hg:Good w')=>jY (aF (ah L i)) (aF (ah R j)) (z1.sm) (z2.sm) w' hg)
 have HAB:=hid (fun w'=>Y3 (aF (ah L i)-aF (ah R j)) w')
 have zd:=z1.sub z2
 have za:Fc 128 2 (sW (aF (ah L i)-aF (ah R j))):=by
  unfold sW
  split
  ·exact zd.neg
  ·exact zd
 have Y4:=hid (fun w' (hg:Good w')=>uk C.ch (sW (aF (ah L i)-aF (ah R j))) (hC.ch.sm) (za.sm) w' hg)
 have HS2:=hid (fun w' (hg:Good w')=>uj (aF (ah L i)) (aF (ah R j)) (z1.sm) (z2.sm) w' hg)
 have mF:=hid (fun w' (hg:Good w')=>uk C.mi (aF (ah L i)+aF (ah R j)) (hC.mi.sm) ((z1.add z2).sm) w' hg)
 have HA2:=hid (fun w' (hg:Good w')=>uj (C.ch*sW (aF (ah L i)-aF (ah R j))) (C.mi*(aF (ah L i)+aF (ah R j))) ((hC.ch.mul za).sm) ((hC.mi.mul (z1.add z2)).sm) w' hg)
 have fq:(ah L i).u=(ah R j).u→tx (cK C L R 1 i j)=tx (C.ch*sW (aF (ah L i)-aF (ah R j))):=fun h=>by unfold cK;rw [if_pos rfl,if_pos h];rfl
 have hR2:¬ (ah L i).u=(ah R j).u→tx (cK C L R 1 i j)=tx (C.ch*sW (aF (ah L i)-aF (ah R j))+C.mi*(aF (ah L i)+aF (ah R j))):=fun h=>by unfold cK;rw [if_pos rfl,if_neg h];rfl
 have hue:((us (ah L i).u).toList == (us (ah R j).u).toList)=decide ((ah L i).u=(ah R j).u):=by
  rw [Bool.eq_iff_iff,beq_iff_eq,decide_eq_true_eq,Lib.toList_data,Lib.toList_data]
 have HR1:=hid fq
 have HR2:=hid hR2
 have HUE:=hid hue
 obtain ⟨pl,cl,rfl,hcl,hcm⟩:=hvl.slice
 obtain ⟨pr,cr,rfl,gZ,hcm2⟩:=eT.slice
 obtain ⟨B,off,rfl,lb,e0,e1,e2⟩:=hvl.at hi
 obtain ⟨B2,oC,rfl,Qn,f0,f1,f2⟩:=eT.at hj
 unfold maxLen at hcm hcm2
 unfold uo ow
 unfold RF at HT1 HT2
 unfold RV at *
 clear hvl eT hC hzl Yo htk z1 z2 zd za fq hR2 hue
 generalize tx (cK C L R 1 i j)=r at *
 generalize tx (C.ch*sW (aF (ah L i)-aF (ah R j))+C.mi*(aF (ah L i)+aF (ah R j)))=r2 at *
 generalize tx (C.mi*(aF (ah L i)+aF (ah R j)))=m at *
 generalize tx (aF (ah L i)+aF (ah R j))=sm at *
 generalize tx (C.ch*sW (aF (ah L i)-aF (ah R j)))=r1 at *
 generalize tx (sW (aF (ah L i)-aF (ah R j)))=ab at *
 generalize tx (aF (ah L i)-aF (ah R j))=df at *
 generalize tx (aF (ah L i))=k1 at *
 generalize tx (aF (ah R j))=k2 at *
 generalize tx C.ch=t1 at *
 generalize tx C.mi=t2 at *
 generalize tx C.ga=t3 at *
 generalize tx C.re=t4 at *
 generalize us (ah L i).u=u1 at *
 generalize tx (ah L i).a=a1 at *
 generalize tx (ah L i).b=b1 at *
 generalize us (ah R j).u=u2 at *
 generalize tx (ah R j).a=a2 at *
 generalize tx (ah R j).b=b2 at *
 have i1:(0:Int)≤(i:Int):=by omega
 have i2:(i:Int)<(L.length:Int):=by omega
 have j1:(0:Int)≤(j:Int):=by omega
 have j2:(j:Int)<(R.length:Int):=by omega
 go_enter Tryz.func239,Tryz.ntmps239
 go_upto_region 1 with fail
 obtain ⟨wP,dI⟩ : ∃ wP,wP=w.alloc (Obj.cells #[.slice (some ⟨B,off,none⟩) L.length cl,.slice (some ⟨B2,oC,none⟩) R.length cr,.string t1,.string t2,.string t3,.string t4] 122):=⟨_,rfl⟩
 obtain ⟨wA,aX⟩ : ∃ wA,wA=wP.alloc (Obj.cells #[.int .i64 1,.int .i64 (i:Int),.int .i64 (j:Int)] 57):=⟨_,rfl⟩
 have hsP:wP.heap.size=w.heap.size+1:=by rw [dI];simp
 have gG:Below w.heap.size w wP:=by rw [dI];exact ae _ _
 have hpq:wP.heap[w.heap.size]?=some (.cells #[.slice (some ⟨B,off,none⟩) L.length cl,.slice (some ⟨B2,oC,none⟩) R.length cr,.string t1,.string t2,.string t3,.string t4] 122 (0,0)):=by rw [dI];exact World.alloc_heap_new _ _
 obtain ⟨fP,ls,g0,g1,g2⟩:=bn aX
 have kG:=(fP.block _ (lt_of_some hpq)).trans hpq
 obtain ⟨q0,q1,q2,q3,q4,q5⟩:=aU kG
 have lq:=lt_of_some kG
 have aS:=gG.trans (fP.mono gG.size)
 rw [dI] at aX
 rw [←aX]
 rw [hsP] at ls g0 g1 g2
 clear aX dI hsP gG hpq fP kG
 have e0:=(aS.cell (p:=⟨B,off+i*3,none⟩) lb).trans e0
 have e1:=(aS.cell (p:=⟨B,off+i*3+1,none⟩) lb).trans e1
 have e2:=(aS.cell (p:=⟨B,off+i*3+2,none⟩) lb).trans e2
 have lb:=Nat.lt_of_lt_of_le lb aS.size
 have f0:=(aS.cell (p:=⟨B2,oC+j*3,none⟩) Qn).trans f0
 have f1:=(aS.cell (p:=⟨B2,oC+j*3+1,none⟩) Qn).trans f1
 have f2:=(aS.cell (p:=⟨B2,oC+j*3+2,none⟩) Qn).trans f2
 have Qn:=Nat.lt_of_lt_of_le Qn aS.size
 go_upto_region 3 with fail
 go_cut [5,6] from 8 to 100 (fun s5 s6 wx=>abL wA s5 s6 (.string u1) (.string a1) (.string b1) (.string u2) (.string a2) (.string b2) wx)
 case first =>
  go_wp2_with fail
  refine gI (fun W'=>Below wA.heap.size wA W') (.take 0 (.take 1 (.take 2 (.take 3 (.take 4 (.take 5 (.take 6 (.take 7 (.take 8 (.take 9 (.take 10 (.take 11 (.two 12 (.one 13 (.one 14 .fin)) 13 (.one 12 (.one 14 .fin))))))))))))))) 15 (by kernel_rfl) (by kernel_rfl) ⟨rfl,rfl,rfl,Nat.le_refl _,fun _ _=>rfl⟩ ?_
  have cO:Below wA.heap.size wA wA.drew:=⟨rfl,rfl,rfl,Nat.le_refl _,fun _ _=>rfl⟩
  generalize wA.drew=dP at *
  iterate 12
   refine bJ rfl ?_ rfl ?_ ?_
   rotate_left
   ·intro W' hS'
    have s0:=(hS'.cell (p:=⟨w.heap.size,0,none⟩) lq).trans q0
    have s1:=(hS'.cell (p:=⟨w.heap.size,1,none⟩) lq).trans q1
    have s2:=(hS'.cell (p:=⟨w.heap.size,2,none⟩) lq).trans q2
    have s3:=(hS'.cell (p:=⟨w.heap.size,3,none⟩) lq).trans q3
    have s4:=(hS'.cell (p:=⟨w.heap.size,4,none⟩) lq).trans q4
    have s5:=(hS'.cell (p:=⟨w.heap.size,5,none⟩) lq).trans q5
    have s6:=(hS'.cell (p:=⟨w.heap.size+1,0,none⟩) ls).trans g0
    have s7:=(hS'.cell (p:=⟨w.heap.size+1,1,none⟩) ls).trans g1
    have s8:=(hS'.cell (p:=⟨w.heap.size+1,2,none⟩) ls).trans g2
    have s9:=(hS'.cell (p:=⟨B,off+i*3,none⟩) lb).trans e0
    have s10:=(hS'.cell (p:=⟨B,off+i*3+1,none⟩) lb).trans e1
    have s11:=(hS'.cell (p:=⟨B,off+i*3+2,none⟩) lb).trans e2
    have s12:=(hS'.cell (p:=⟨B2,oC+j*3,none⟩) Qn).trans f0
    have s13:=(hS'.cell (p:=⟨B2,oC+j*3+1,none⟩) Qn).trans f1
    have s14:=(hS'.cell (p:=⟨B2,oC+j*3+2,none⟩) Qn).trans f2
    go_simp
    try with_reducible rfl
   try simp only [zA,zB,zC,Act.put,zD,zE,zF]
  refine I6 ?_ ?_
  ·refine aM rfl rfl (fun K hK=>?_)
   go_simp
   obtain ⟨gy,jm⟩ : ∃ q,q=dP.alloc (Obj.cells #[.string ⟨#[]⟩,.string ⟨#[]⟩,.string ⟨#[]⟩] 89):=⟨_,rfl⟩
   have Ct:gy.heap[dP.heap.size]?=some (.cells #[.string ⟨#[]⟩,.string ⟨#[]⟩,.string ⟨#[]⟩] 89 (0,0)):=by rw [jm];exact World.alloc_heap_new _ _
   have bR:Below dP.heap.size dP gy:=by rw [jm];exact ae _ _
   have hP1:=cO.trans (bR.mono cO.size)
   rw [←jm]
   clear jm
   refine hK _ _ ⟨hP1,?_⟩
   clear hK K
   try simp only [zA,zB,zC,Act.put,zD,zE,zF]
   refine aM rfl rfl (fun K hK=>?_)
   go_simp
   obtain ⟨sI,jo⟩ : ∃ q,q=gy.alloc (Obj.cells #[.string ⟨#[]⟩,.string ⟨#[]⟩,.string ⟨#[]⟩] 89):=⟨_,rfl⟩
   have Ug:sI.heap[gy.heap.size]?=some (.cells #[.string ⟨#[]⟩,.string ⟨#[]⟩,.string ⟨#[]⟩] 89 (0,0)):=by rw [jo];exact World.alloc_heap_new _ _
   have dL:Below gy.heap.size gy sI:=by rw [jo];exact ae _ _
   have hP2:=hP1.trans (dL.mono hP1.size)
   rw [←jo]
   clear jo
   have xe:=(dL.block _ (lt_of_some Ct)).trans Ct
   refine hK _ _ ⟨hP2,?_⟩
   clear hK K
   try simp only [zA,zB,zC,Act.put,zD,zE,zF]
   obtain ⟨_,_,_⟩:=bS xe
   obtain ⟨_,_,_⟩:=av xe
   refine aM rfl rfl (fun K hK=>?_)
   go_simp
   refine hK _ _ ⟨bY _ _ _ cO.size hP2,?_⟩
   clear hK K
   try simp only [zA,zB,zC,Act.put,zD,zE,zF]
   unfold gU
   simp only [List.drop_succ_cons,List.drop_zero]
   have Uh:dP.heap.size<gy.heap.size:=by
    have:=lt_of_some Ct
    exact this
   have iU:(gy.heap.size:Nat)≠dP.heap.size:=(Nat.ne_of_gt Uh)
   have kA:=fH (.string u1) (.string a1) (.string b1) xe
   have kD:=fH (.string u2) (.string a2) (.string b2) ((fJ (.string u1) (.string a1) (.string b1) iU).trans Ug)
   have kA2:=(fJ (.string u2) (.string a2) (.string b2) (Ne.symm iU)).trans kA
   have kB:=bY (.string u2) (.string a2) (.string b2) hP1.size (bY (.string u1) (.string a1) (.string b1) cO.size hP2)
   obtain ⟨_,_,_⟩:=bS xe
   obtain ⟨_,_,_⟩:=bS Ug
   obtain ⟨_,_,_⟩:=av xe
   obtain ⟨_,_,_⟩:=av Ug
   have eH:=hid (show abL wA (.pointer (some ⟨dP.heap.size,0,none⟩)) (.pointer (some ⟨gy.heap.size,0,none⟩)) (.string u1) (.string a1) (.string b1) (.string u2) (.string a2) (.string b2) _ from ⟨_,_,rfl,rfl,kA2,kD,kB⟩)
   have uX:(dP.heap.size:Nat)≠gy.heap.size:=Ne.symm iU
   clear kA kD kA2 kB Uh
   go_wp2
   refine ag.mk ?_
   go_wp2_with fail
   go_meet
   exact eH.out
  ·refine aM rfl rfl (fun K hK=>?_)
   go_simp
   obtain ⟨iV,gz⟩ : ∃ q,q=dP.alloc (Obj.cells #[.string ⟨#[]⟩,.string ⟨#[]⟩,.string ⟨#[]⟩] 89):=⟨_,rfl⟩
   have Ui:iV.heap[dP.heap.size]?=some (.cells #[.string ⟨#[]⟩,.string ⟨#[]⟩,.string ⟨#[]⟩] 89 (0,0)):=by rw [gz];exact World.alloc_heap_new _ _
   have jq:Below dP.heap.size dP iV:=by rw [gz];exact ae _ _
   have lY:=cO.trans (jq.mono cO.size)
   rw [←gz]
   clear gz
   refine hK _ _ ⟨lY,?_⟩
   clear hK K
   try simp only [zA,zB,zC,Act.put,zD,zE,zF]
   refine aM rfl rfl (fun K hK=>?_)
   go_simp
   obtain ⟨pK,dM⟩ : ∃ q,q=iV.alloc (Obj.cells #[.string ⟨#[]⟩,.string ⟨#[]⟩,.string ⟨#[]⟩] 89):=⟨_,rfl⟩
   have JS:pK.heap[iV.heap.size]?=some (.cells #[.string ⟨#[]⟩,.string ⟨#[]⟩,.string ⟨#[]⟩] 89 (0,0)):=by rw [dM];exact World.alloc_heap_new _ _
   have jr:Below iV.heap.size iV pK:=by rw [dM];exact ae _ _
   have yw:=lY.trans (jr.mono lY.size)
   rw [←dM]
   clear dM
   have GN:=(jr.block _ (lt_of_some Ui)).trans Ui
   refine hK _ _ ⟨yw,?_⟩
   clear hK K
   try simp only [zA,zB,zC,Act.put,zD,zE,zF]
   obtain ⟨_,_,_⟩:=bS JS
   obtain ⟨_,_,_⟩:=av JS
   refine aM rfl rfl (fun K hK=>?_)
   go_simp
   refine hK _ _ ⟨bY _ _ _ lY.size yw,?_⟩
   clear hK K
   try simp only [zA,zB,zC,Act.put,zD,zE,zF]
   unfold gU
   simp only [List.drop_succ_cons,List.drop_zero]
   have Uh:dP.heap.size<iV.heap.size:=by
    have:=lt_of_some Ui
    exact this
   have iU:(dP.heap.size:Nat)≠iV.heap.size:=(Nat.ne_of_lt Uh)
   have kA:=fH (.string u1) (.string a1) (.string b1) JS
   have kD:=fH (.string u2) (.string a2) (.string b2) ((fJ (.string u1) (.string a1) (.string b1) iU).trans GN)
   have kA2:=(fJ (.string u2) (.string a2) (.string b2) (Ne.symm iU)).trans kA
   have kB:=bY (.string u2) (.string a2) (.string b2) cO.size (bY (.string u1) (.string a1) (.string b1) lY.size yw)
   obtain ⟨_,_,_⟩:=bS JS
   obtain ⟨_,_,_⟩:=bS GN
   obtain ⟨_,_,_⟩:=av JS
   obtain ⟨_,_,_⟩:=av GN
   have eH:=hid (show abL wA (.pointer (some ⟨iV.heap.size,0,none⟩)) (.pointer (some ⟨dP.heap.size,0,none⟩)) (.string u1) (.string a1) (.string b1) (.string u2) (.string a2) (.string b2) _ from ⟨_,_,rfl,rfl,kA2,kD,kB⟩)
   have uX:(iV.heap.size:Nat)≠dP.heap.size:=Ne.symm iU
   clear kA kD kA2 kB Uh
   go_wp2
   refine ag.mk ?_
   go_wp2_with fail
   go_meet
   exact eH.out
 case rest =>
 obtain ⟨A,D,rfl,rfl,hA,hD,hbc⟩:=hcut
 have hb5:=aS.trans (hbc.mono aS.size)
 have hlA:=aa hA
 have hlD:=aa hD
 obtain ⟨m0,m1,m2⟩:=av hA
 obtain ⟨n0,n1,n2⟩:=av hD
 have q0:=(hbc.cell (p:=⟨w.heap.size,0,none⟩) lq).trans q0
 have q1:=(hbc.cell (p:=⟨w.heap.size,1,none⟩) lq).trans q1
 have q2:=(hbc.cell (p:=⟨w.heap.size,2,none⟩) lq).trans q2
 have q3:=(hbc.cell (p:=⟨w.heap.size,3,none⟩) lq).trans q3
 have q4:=(hbc.cell (p:=⟨w.heap.size,4,none⟩) lq).trans q4
 have q5:=(hbc.cell (p:=⟨w.heap.size,5,none⟩) lq).trans q5
 have lq:=Nat.lt_of_lt_of_le lq hbc.size
 clear hA hD e0 e1 e2 f0 f1 f2 g0 g1 g2
 go_wp2_with fail
 refine gI (fun W'=>Below wc.heap.size wc W') (.take 0 (.take 1 (.take 2 (.take 3 (.take 5 (.one 4 (.one 6 (.one 7 (.one 8 (.one 9 .fin)))))))))) 10 (by kernel_rfl) (by kernel_rfl) ⟨rfl,rfl,rfl,Nat.le_refl _,fun _ _=>rfl⟩ ?_
 have MO:Below wc.heap.size wc wc.drew:=⟨rfl,rfl,rfl,Nat.le_refl _,fun _ _=>rfl⟩
 generalize wc.drew=qv0 at *
 iterate 5
  refine bJ rfl ?_ rfl ?_ ?_
  rotate_left
  ·intro W' hS'
   have s0:=(hS'.cell (p:=⟨w.heap.size,0,none⟩) lq).trans q0
   have s1:=(hS'.cell (p:=⟨w.heap.size,1,none⟩) lq).trans q1
   have s2:=(hS'.cell (p:=⟨w.heap.size,2,none⟩) lq).trans q2
   have s3:=(hS'.cell (p:=⟨w.heap.size,3,none⟩) lq).trans q3
   have s4:=(hS'.cell (p:=⟨w.heap.size,4,none⟩) lq).trans q4
   have s5:=(hS'.cell (p:=⟨w.heap.size,5,none⟩) lq).trans q5
   have s6:=(hS'.cell (p:=⟨A,0,none⟩) hlA).trans m0
   have s7:=(hS'.cell (p:=⟨A,1,none⟩) hlA).trans m1
   have s8:=(hS'.cell (p:=⟨A,2,none⟩) hlA).trans m2
   have s9:=(hS'.cell (p:=⟨D,0,none⟩) hlD).trans n0
   have s10:=(hS'.cell (p:=⟨D,1,none⟩) hlD).trans n1
   have s11:=(hS'.cell (p:=⟨D,2,none⟩) hlD).trans n2
   go_simp
   try with_reducible rfl
  try simp only [zA,zB,zC,Act.put,zD,zE,zF]
 refine aM rfl rfl (fun K hK=>?_)
 go_simp
 refine (HT1.out _ (hw.below (hb5.trans (MO.mono hb5.size)))).mono ?_
 rintro e qv1 ⟨rfl,JU⟩
 have IM:=MO.trans (JU.mono MO.size)
 refine hK _ _ ⟨IM,?_⟩
 clear hK K
 try simp only [zA,zB,zC,Act.put,zD,zE,zF]
 refine aM rfl rfl (fun K hK=>?_)
 go_simp
 refine (HT2.out _ (hw.below (hb5.trans (IM.mono hb5.size)))).mono ?_
 rintro e qv2 ⟨rfl,JV⟩
 have IP:=IM.trans (JV.mono IM.size)
 refine hK _ _ ⟨IP,?_⟩
 clear hK K
 try simp only [zA,zB,zC,Act.put,zD,zE,zF]
 refine aM rfl rfl (fun K hK=>?_)
 go_simp
 refine (HS.out _ (hw.below (hb5.trans (IP.mono hb5.size)))).mono ?_
 rintro e qv3 ⟨rfl,JW⟩
 have OB:=IP.trans (JW.mono IP.size)
 refine hK _ _ ⟨OB,?_⟩
 clear hK K
 try simp only [zA,zB,zC,Act.put,zD,zE,zF]
 refine aM rfl rfl (fun K hK=>?_)
 go_simp
 refine (HAB.out _).mono ?_
 rintro e Y5 ⟨rfl,JX⟩
 have RG:=OB.trans (JX.mono OB.size)
 refine hK _ _ ⟨RG,?_⟩
 clear hK K
 try simp only [zA,zB,zC,Act.put,zD,zE,zF]
 refine aM rfl rfl (fun K hK=>?_)
 go_simp
 refine (Y4.out _ (hw.below (hb5.trans (RG.mono hb5.size)))).mono ?_
 rintro e Y6 ⟨rfl,JY⟩
 have Ao:=RG.trans (JY.mono RG.size)
 refine hK _ _ ⟨Ao,?_⟩
 clear hK K
 try simp only [zA,zB,zC,Act.put,zD,zE,zF]
 unfold gU
 simp only [List.drop_succ_cons,List.drop_zero]
 have hb6:=hb5.trans (Ao.mono hb5.size)
 have lq6:=Nat.lt_of_lt_of_le lq Ao.size
 have q06:=(Ao.cell (p:=⟨w.heap.size,0,none⟩) lq).trans q0
 have q16:=(Ao.cell (p:=⟨w.heap.size,1,none⟩) lq).trans q1
 have q26:=(Ao.cell (p:=⟨w.heap.size,2,none⟩) lq).trans q2
 have q36:=(Ao.cell (p:=⟨w.heap.size,3,none⟩) lq).trans q3
 have q46:=(Ao.cell (p:=⟨w.heap.size,4,none⟩) lq).trans q4
 have q56:=(Ao.cell (p:=⟨w.heap.size,5,none⟩) lq).trans q5
 have abM:=Nat.lt_of_lt_of_le hlA Ao.size
 have m06:=(Ao.cell (p:=⟨A,0,none⟩) hlA).trans m0
 have m16:=(Ao.cell (p:=⟨A,1,none⟩) hlA).trans m1
 have m26:=(Ao.cell (p:=⟨A,2,none⟩) hlA).trans m2
 have abN:=Nat.lt_of_lt_of_le hlD Ao.size
 have n06:=(Ao.cell (p:=⟨D,0,none⟩) hlD).trans n0
 have n16:=(Ao.cell (p:=⟨D,1,none⟩) hlD).trans n1
 have n26:=(Ao.cell (p:=⟨D,2,none⟩) hlD).trans n2
 obtain ⟨w6,hw6⟩ : ∃ q,q=Y6:=⟨_,rfl⟩
 subst hw6
 go_wp2
 refine ag.mk ?_
 by_cases hun:(ah L i).u=(ah R j).u
 ·have hne:=HUE.out
  rw [decide_eq_true hun] at hne
  go_wp2_with fail
  go_ret
  exact ⟨by rw [HR1.out hun];rfl,hb6⟩
 ·have hne:=HUE.out
  rw [decide_eq_false hun] at hne
  go_wp2_with fail
  refine gI (fun W'=>Below w6.heap.size w6 W') (.take 0 (.take 1 (.take 2 (.take 3 (.take 4 (.take 6 (.one 5 (.one 7 (.one 8 (.one 9 (.one 10 .fin))))))))))) 11 (by kernel_rfl) (by kernel_rfl) ⟨rfl,rfl,rfl,Nat.le_refl _,fun _ _=>rfl⟩ ?_
  have hS0:Below w6.heap.size w6 w6.drew:=⟨rfl,rfl,rfl,Nat.le_refl _,fun _ _=>rfl⟩
  generalize w6.drew=sv0 at *
  iterate 6
   refine bJ rfl ?_ rfl ?_ ?_
   rotate_left
   ·intro W' hS'
    have s0:=(hS'.cell (p:=⟨w.heap.size,0,none⟩) lq6).trans q06
    have s1:=(hS'.cell (p:=⟨w.heap.size,1,none⟩) lq6).trans q16
    have s2:=(hS'.cell (p:=⟨w.heap.size,2,none⟩) lq6).trans q26
    have s3:=(hS'.cell (p:=⟨w.heap.size,3,none⟩) lq6).trans q36
    have s4:=(hS'.cell (p:=⟨w.heap.size,4,none⟩) lq6).trans q46
    have s5:=(hS'.cell (p:=⟨w.heap.size,5,none⟩) lq6).trans q56
    have s6:=(hS'.cell (p:=⟨A,0,none⟩) abM).trans m06
    have s7:=(hS'.cell (p:=⟨A,1,none⟩) abM).trans m16
    have s8:=(hS'.cell (p:=⟨A,2,none⟩) abM).trans m26
    have s9:=(hS'.cell (p:=⟨D,0,none⟩) abN).trans n06
    have s10:=(hS'.cell (p:=⟨D,1,none⟩) abN).trans n16
    have s11:=(hS'.cell (p:=⟨D,2,none⟩) abN).trans n26
    go_simp
    try with_reducible rfl
   try simp only [zA,zB,zC,Act.put,zD,zE,zF]
  refine aM rfl rfl (fun K hK=>?_)
  go_simp
  refine (HT1.out _ (hw.below (hb6.trans (hS0.mono hb6.size)))).mono ?_
  rintro e sv1 ⟨rfl,Uj⟩
  have hS1:=hS0.trans (Uj.mono hS0.size)
  refine hK _ _ ⟨hS1,?_⟩
  clear hK K
  try simp only [zA,zB,zC,Act.put,zD,zE,zF]
  refine aM rfl rfl (fun K hK=>?_)
  go_simp
  refine (HT2.out _ (hw.below (hb6.trans (hS1.mono hb6.size)))).mono ?_
  rintro e sv2 ⟨rfl,adG⟩
  have hS2:=hS1.trans (adG.mono hS1.size)
  refine hK _ _ ⟨hS2,?_⟩
  clear hK K
  try simp only [zA,zB,zC,Act.put,zD,zE,zF]
  refine aM rfl rfl (fun K hK=>?_)
  go_simp
  refine (HS2.out _ (hw.below (hb6.trans (hS2.mono hb6.size)))).mono ?_
  rintro e sv3 ⟨rfl,adH⟩
  have Lt:=hS2.trans (adH.mono hS2.size)
  refine hK _ _ ⟨Lt,?_⟩
  clear hK K
  try simp only [zA,zB,zC,Act.put,zD,zE,zF]
  refine aM rfl rfl (fun K hK=>?_)
  go_simp
  refine (mF.out _ (hw.below (hb6.trans (Lt.mono hb6.size)))).mono ?_
  rintro e sv4 ⟨rfl,adI⟩
  have hS4:=Lt.trans (adI.mono Lt.size)
  refine hK _ _ ⟨hS4,?_⟩
  clear hK K
  try simp only [zA,zB,zC,Act.put,zD,zE,zF]
  refine aM rfl rfl (fun K hK=>?_)
  go_simp
  refine (HA2.out _ (hw.below (hb6.trans (hS4.mono hb6.size)))).mono ?_
  rintro e sv5 ⟨rfl,adJ⟩
  have hS5:=hS4.trans (adJ.mono hS4.size)
  refine hK _ _ ⟨hS5,?_⟩
  clear hK K
  try simp only [zA,zB,zC,Act.put,zD,zE,zF]
  unfold gU
  simp only [List.drop_succ_cons,List.drop_zero]
  have hbu:=hb6.trans (hS5.mono hb6.size)
  go_wp2
  refine ag.mk ?_
  go_wp2
  go_ret
  exact ⟨by rw [HR2.out hun];rfl,hbu⟩
theorem Y7 {w:World} (vl vr:Value) (C:Cs) (L R:List Iv) (k i j:Nat) (hk:k∈kinds) (hc:bG L R k i j=true) (hn:L.length≤1000) (hm:R.length≤1000) (hC:CsZ 1000 C) (hzl:∀ i,i<L.length→IL 1000 (ah L i)) (Yo:∀ j,j<R.length→IL 1000 (ah R j)) (hvl:gq w vl L) (eT:gq w vr R) (hw:Good w) :
  Calls Tryz.prog 239 #[uo vl vr C,ow k i j] w (RV (.string (tx (cK C L R k i j))) w):=by
 unfold kinds at hk
 simp only [List.mem_cons,List.not_mem_nil,or_false] at hk
 unfold bG at hc
 rcases hk with rfl | rfl | rfl | rfl | rfl
 ·simp at hc
  exact Uf vl vr C L R i j hc.1 hc.2 hC (hzl i hc.1) (Yo j hc.2) hvl eT hw
 ·simp at hc
  exact Ub vl vr C L R i j hc hn hC (hzl i hc) hvl eT hw
 ·simp at hc
  exact Uc vl vr C L R i j hc hm hC (Yo j hc) hvl eT hw
 ·simp at hc
  exact Ud vl vr C L R i j hc.1 hn hC (hzl i hc.1) hvl eT hw
 ·simp at hc
  exact Ue vl vr C L R i j hc.1 hm hC (Yo j hc.1) hvl eT hw
def ER (L R:List Iv) (k i j:Nat):Int:=
 if gF k i≤L.length∧iC k j≤R.length then (if (k=4∧qG L i=false)∨(k=5∧qG R j=false) then 7 else 0) else 11
theorem Qo {L R:List Iv} {k i j:Nat} (hk:k∈kinds) (hi:i≤L.length) (hj:j≤R.length):(ER L R k i j == 0)=bG L R k i j:=by
 unfold kinds at hk
 simp only [List.mem_cons,List.not_mem_nil,or_false] at hk
 unfold ER bG gF iC
 rcases hk with rfl | rfl | rfl | rfl | rfl
 ·by_cases h:i<L.length <;> by_cases h2:j<R.length <;> simp [Nat.succ_le_iff,h,h2]
 ·by_cases h:i<L.length <;> simp [Nat.succ_le_iff,h,hj]
 ·by_cases h:j<R.length <;> simp [Nat.succ_le_iff,h,hi]
 ·by_cases h:i<L.length <;> cases hr:qG L i <;> simp [Nat.succ_le_iff,h,hj]
 ·by_cases h:j<R.length <;> cases hr:qG R j <;> simp [Nat.succ_le_iff,h,hi]
theorem GQ {w:World} (vl vr:Value) (C:Cs) (L R:List Iv) (k i j:Nat) (hk:k∈kinds) (hi:i≤L.length) (hj:j≤R.length) (hn:L.length≤999) (hm:R.length≤999) (hvl:gq w vl L) (eT:gq w vr R) :
  Calls Tryz.prog 238 #[uo vl vr C,ow k i j] w (RV (.int .i64 (ER L R k i j)) w):=by
 have uW:=hid (fun w'=>xc k i j hk (by omega) (by omega) w')
 have HRL:=hid (fun (h:i<L.length) w' (hb:Below w.heap.size w w')=>Cr vl L i h (by omega) w' (hvl.below hb))
 have HRR:=hid (fun (h:j<R.length) w' (hb:Below w.heap.size w w')=>Cr vr R j h (by omega) w' (eT.below hb))
 obtain ⟨pl,cl,rfl,hcl,hcm⟩:=hvl.slice
 obtain ⟨pr,cr,rfl,gZ,hcm2⟩:=eT.slice
 obtain ⟨P,hP⟩ : ∃ P,P=gF k i:=⟨_,rfl⟩
 obtain ⟨Q,hQ⟩ : ∃ Q,Q=iC k j:=⟨_,rfl⟩
 obtain ⟨E,hE⟩ : ∃ E,E=ER L R k i j:=⟨_,rfl⟩
 rw [←hE]
 unfold ER at hE
 rw [←hP,←hQ] at uW hE
 unfold gF at hP
 unfold iC at hQ
 have HP:=hid hP
 have HQ:=hid hQ
 have HE:=hid hE
 unfold maxLen at hcm hcm2
 unfold uo ow at *
 unfold RV at *
 generalize tx C.ch=t1 at *
 generalize tx C.mi=t2 at *
 generalize tx C.ga=t3 at *
 generalize tx C.re=t4 at *
 have i0:decide ((i:Int)<0)=false:=decide_eq_false (by omega)
 have i1:decide ((L.length:Int)<(i:Int))=false:=decide_eq_false (by omega)
 have i1':decide (L.length<i)=false:=decide_eq_false (by omega)
 have j0:decide ((j:Int)<0)=false:=decide_eq_false (by omega)
 have j1:decide ((R.length:Int)<(j:Int))=false:=decide_eq_false (by omega)
 have j1':decide (R.length<j)=false:=decide_eq_false (by omega)
 clear hvl eT hP hQ hE hn hm hcl gZ
 unfold kinds at hk
 simp only [List.mem_cons,List.not_mem_nil,or_false] at hk
 rcases hk with rfl | rfl | rfl | rfl | rfl
 ·go_enter Tryz.func238,Tryz.ntmps238
  go_upto_region 1 with fail
  obtain ⟨wP,dI⟩ : ∃ wP,wP=w.alloc (Obj.cells #[.slice pl L.length cl,.slice pr R.length cr,.string t1,.string t2,.string t3,.string t4] 122):=⟨_,rfl⟩
  obtain ⟨wA,aX⟩ : ∃ wA,wA=wP.alloc (Obj.cells #[.int .i64 1,.int .i64 (i:Int),.int .i64 (j:Int)] 57):=⟨_,rfl⟩
  have hsP:wP.heap.size=w.heap.size+1:=by rw [dI];simp
  have gG:Below w.heap.size w wP:=by rw [dI];exact ae _ _
  have hpq:wP.heap[w.heap.size]?=some (.cells #[.slice pl L.length cl,.slice pr R.length cr,.string t1,.string t2,.string t3,.string t4] 122 (0,0)):=by rw [dI];exact World.alloc_heap_new _ _
  obtain ⟨fP,ls,g0,g1,g2⟩:=bn aX
  have kG:=(fP.block _ (lt_of_some hpq)).trans hpq
  obtain ⟨q0,q1,q2,q3,q4,q5⟩:=aU kG
  have lq:=lt_of_some kG
  have aS:=gG.trans (fP.mono gG.size)
  rw [dI] at aX
  rw [←aX]
  rw [hsP] at ls g0 g1 g2
  clear aX dI hsP gG hpq fP kG
  go_wp2_with fail
  refine (uW.out wA).mono ?_
  rintro e w1 ⟨rfl,hw1⟩
  have hb1:=aS.trans (hw1.mono aS.size)
  have q0:=(hw1.cell (p:=⟨w.heap.size,0,none⟩) lq).trans q0
  have q1:=(hw1.cell (p:=⟨w.heap.size,1,none⟩) lq).trans q1
  have g0:=(hw1.cell (p:=⟨w.heap.size+1,0,none⟩) ls).trans g0
  have g1:=(hw1.cell (p:=⟨w.heap.size+1,1,none⟩) ls).trans g1
  have g2:=(hw1.cell (p:=⟨w.heap.size+1,2,none⟩) ls).trans g2
  have lq:=Nat.lt_of_lt_of_le lq hw1.size
  have ls:=Nat.lt_of_lt_of_le ls hw1.size
  by_cases hp:P≤L.length
  ·have p1:decide ((L.length:Int)<(P:Int))=false:=decide_eq_false (by omega)
   have p2:decide (L.length<P)=false:=decide_eq_false (by omega)
   by_cases hq:Q≤R.length
   ·have p3:decide ((R.length:Int)<(Q:Int))=false:=decide_eq_false (by omega)
    have p4:decide (R.length<Q)=false:=decide_eq_false (by omega)
    have HR:=hid (show E=0 by rw [HE.out,if_pos ⟨hp,hq⟩,if_neg (by omega)])
    clear hp hq
    go_wp2
    go_ret
    exact ⟨by rw [HR.out];rfl,hb1⟩
   ·have p3:decide ((R.length:Int)<(Q:Int))=true:=decide_eq_true (by omega)
    have p4:decide (R.length<Q)=true:=decide_eq_true (by omega)
    have HR:=hid (show E=11 by rw [HE.out,if_neg (fun h=>hq h.2)])
    clear hp hq
    go_wp2
    go_ret
    exact ⟨by rw [HR.out];rfl,hb1⟩
  ·have p1:decide ((L.length:Int)<(P:Int))=true:=decide_eq_true (by omega)
   have p2:decide (L.length<P)=true:=decide_eq_true (by omega)
   have HR:=hid (show E=11 by rw [HE.out,if_neg (fun h=>hp h.1)])
   clear hp
   go_wp2
   go_ret
   exact ⟨by rw [HR.out];rfl,hb1⟩
 ·go_enter Tryz.func238,Tryz.ntmps238
  go_upto_region 1 with fail
  obtain ⟨wP,dI⟩ : ∃ wP,wP=w.alloc (Obj.cells #[.slice pl L.length cl,.slice pr R.length cr,.string t1,.string t2,.string t3,.string t4] 122):=⟨_,rfl⟩
  obtain ⟨wA,aX⟩ : ∃ wA,wA=wP.alloc (Obj.cells #[.int .i64 2,.int .i64 (i:Int),.int .i64 (j:Int)] 57):=⟨_,rfl⟩
  have hsP:wP.heap.size=w.heap.size+1:=by rw [dI];simp
  have gG:Below w.heap.size w wP:=by rw [dI];exact ae _ _
  have hpq:wP.heap[w.heap.size]?=some (.cells #[.slice pl L.length cl,.slice pr R.length cr,.string t1,.string t2,.string t3,.string t4] 122 (0,0)):=by rw [dI];exact World.alloc_heap_new _ _
  obtain ⟨fP,ls,g0,g1,g2⟩:=bn aX
  have kG:=(fP.block _ (lt_of_some hpq)).trans hpq
  obtain ⟨q0,q1,q2,q3,q4,q5⟩:=aU kG
  have lq:=lt_of_some kG
  have aS:=gG.trans (fP.mono gG.size)
  rw [dI] at aX
  rw [←aX]
  rw [hsP] at ls g0 g1 g2
  clear aX dI hsP gG hpq fP kG
  go_wp2_with fail
  refine (uW.out wA).mono ?_
  rintro e w1 ⟨rfl,hw1⟩
  have hb1:=aS.trans (hw1.mono aS.size)
  have q0:=(hw1.cell (p:=⟨w.heap.size,0,none⟩) lq).trans q0
  have q1:=(hw1.cell (p:=⟨w.heap.size,1,none⟩) lq).trans q1
  have g0:=(hw1.cell (p:=⟨w.heap.size+1,0,none⟩) ls).trans g0
  have g1:=(hw1.cell (p:=⟨w.heap.size+1,1,none⟩) ls).trans g1
  have g2:=(hw1.cell (p:=⟨w.heap.size+1,2,none⟩) ls).trans g2
  have lq:=Nat.lt_of_lt_of_le lq hw1.size
  have ls:=Nat.lt_of_lt_of_le ls hw1.size
  by_cases hp:P≤L.length
  ·have p1:decide ((L.length:Int)<(P:Int))=false:=decide_eq_false (by omega)
   have p2:decide (L.length<P)=false:=decide_eq_false (by omega)
   by_cases hq:Q≤R.length
   ·have p3:decide ((R.length:Int)<(Q:Int))=false:=decide_eq_false (by omega)
    have p4:decide (R.length<Q)=false:=decide_eq_false (by omega)
    have HR:=hid (show E=0 by rw [HE.out,if_pos ⟨hp,hq⟩,if_neg (by omega)])
    clear hp hq
    go_wp2
    go_ret
    exact ⟨by rw [HR.out];rfl,hb1⟩
   ·have p3:decide ((R.length:Int)<(Q:Int))=true:=decide_eq_true (by omega)
    have p4:decide (R.length<Q)=true:=decide_eq_true (by omega)
    have HR:=hid (show E=11 by rw [HE.out,if_neg (fun h=>hq h.2)])
    clear hp hq
    go_wp2
    go_ret
    exact ⟨by rw [HR.out];rfl,hb1⟩
  ·have p1:decide ((L.length:Int)<(P:Int))=true:=decide_eq_true (by omega)
   have p2:decide (L.length<P)=true:=decide_eq_true (by omega)
   have HR:=hid (show E=11 by rw [HE.out,if_neg (fun h=>hp h.1)])
   clear hp
   go_wp2
   go_ret
   exact ⟨by rw [HR.out];rfl,hb1⟩
 ·go_enter Tryz.func238,Tryz.ntmps238
  go_upto_region 1 with fail
  obtain ⟨wP,dI⟩ : ∃ wP,wP=w.alloc (Obj.cells #[.slice pl L.length cl,.slice pr R.length cr,.string t1,.string t2,.string t3,.string t4] 122):=⟨_,rfl⟩
  obtain ⟨wA,aX⟩ : ∃ wA,wA=wP.alloc (Obj.cells #[.int .i64 3,.int .i64 (i:Int),.int .i64 (j:Int)] 57):=⟨_,rfl⟩
  have hsP:wP.heap.size=w.heap.size+1:=by rw [dI];simp
  have gG:Below w.heap.size w wP:=by rw [dI];exact ae _ _
  have hpq:wP.heap[w.heap.size]?=some (.cells #[.slice pl L.length cl,.slice pr R.length cr,.string t1,.string t2,.string t3,.string t4] 122 (0,0)):=by rw [dI];exact World.alloc_heap_new _ _
  obtain ⟨fP,ls,g0,g1,g2⟩:=bn aX
  have kG:=(fP.block _ (lt_of_some hpq)).trans hpq
  obtain ⟨q0,q1,q2,q3,q4,q5⟩:=aU kG
  have lq:=lt_of_some kG
  have aS:=gG.trans (fP.mono gG.size)
  rw [dI] at aX
  rw [←aX]
  rw [hsP] at ls g0 g1 g2
  clear aX dI hsP gG hpq fP kG
  go_wp2_with fail
  refine (uW.out wA).mono ?_
  rintro e w1 ⟨rfl,hw1⟩
  have hb1:=aS.trans (hw1.mono aS.size)
  have q0:=(hw1.cell (p:=⟨w.heap.size,0,none⟩) lq).trans q0
  have q1:=(hw1.cell (p:=⟨w.heap.size,1,none⟩) lq).trans q1
  have g0:=(hw1.cell (p:=⟨w.heap.size+1,0,none⟩) ls).trans g0
  have g1:=(hw1.cell (p:=⟨w.heap.size+1,1,none⟩) ls).trans g1
  have g2:=(hw1.cell (p:=⟨w.heap.size+1,2,none⟩) ls).trans g2
  have lq:=Nat.lt_of_lt_of_le lq hw1.size
  have ls:=Nat.lt_of_lt_of_le ls hw1.size
  by_cases hp:P≤L.length
  ·have p1:decide ((L.length:Int)<(P:Int))=false:=decide_eq_false (by omega)
   have p2:decide (L.length<P)=false:=decide_eq_false (by omega)
   by_cases hq:Q≤R.length
   ·have p3:decide ((R.length:Int)<(Q:Int))=false:=decide_eq_false (by omega)
    have p4:decide (R.length<Q)=false:=decide_eq_false (by omega)
    have HR:=hid (show E=0 by rw [HE.out,if_pos ⟨hp,hq⟩,if_neg (by omega)])
    clear hp hq
    go_wp2
    go_ret
    exact ⟨by rw [HR.out];rfl,hb1⟩
   ·have p3:decide ((R.length:Int)<(Q:Int))=true:=decide_eq_true (by omega)
    have p4:decide (R.length<Q)=true:=decide_eq_true (by omega)
    have HR:=hid (show E=11 by rw [HE.out,if_neg (fun h=>hq h.2)])
    clear hp hq
    go_wp2
    go_ret
    exact ⟨by rw [HR.out];rfl,hb1⟩
  ·have p1:decide ((L.length:Int)<(P:Int))=true:=decide_eq_true (by omega)
   have p2:decide (L.length<P)=true:=decide_eq_true (by omega)
   have HR:=hid (show E=11 by rw [HE.out,if_neg (fun h=>hp h.1)])
   clear hp
   go_wp2
   go_ret
   exact ⟨by rw [HR.out];rfl,hb1⟩
 ·go_enter Tryz.func238,Tryz.ntmps238
  go_upto_region 1 with fail
  obtain ⟨wP,dI⟩ : ∃ wP,wP=w.alloc (Obj.cells #[.slice pl L.length cl,.slice pr R.length cr,.string t1,.string t2,.string t3,.string t4] 122):=⟨_,rfl⟩
  obtain ⟨wA,aX⟩ : ∃ wA,wA=wP.alloc (Obj.cells #[.int .i64 4,.int .i64 (i:Int),.int .i64 (j:Int)] 57):=⟨_,rfl⟩
  have hsP:wP.heap.size=w.heap.size+1:=by rw [dI];simp
  have gG:Below w.heap.size w wP:=by rw [dI];exact ae _ _
  have hpq:wP.heap[w.heap.size]?=some (.cells #[.slice pl L.length cl,.slice pr R.length cr,.string t1,.string t2,.string t3,.string t4] 122 (0,0)):=by rw [dI];exact World.alloc_heap_new _ _
  obtain ⟨fP,ls,g0,g1,g2⟩:=bn aX
  have kG:=(fP.block _ (lt_of_some hpq)).trans hpq
  obtain ⟨q0,q1,q2,q3,q4,q5⟩:=aU kG
  have lq:=lt_of_some kG
  have aS:=gG.trans (fP.mono gG.size)
  rw [dI] at aX
  rw [←aX]
  rw [hsP] at ls g0 g1 g2
  clear aX dI hsP gG hpq fP kG
  go_wp2_with fail
  refine (uW.out wA).mono ?_
  rintro e w1 ⟨rfl,hw1⟩
  have hb1:=aS.trans (hw1.mono aS.size)
  have q0:=(hw1.cell (p:=⟨w.heap.size,0,none⟩) lq).trans q0
  have q1:=(hw1.cell (p:=⟨w.heap.size,1,none⟩) lq).trans q1
  have g0:=(hw1.cell (p:=⟨w.heap.size+1,0,none⟩) ls).trans g0
  have g1:=(hw1.cell (p:=⟨w.heap.size+1,1,none⟩) ls).trans g1
  have g2:=(hw1.cell (p:=⟨w.heap.size+1,2,none⟩) ls).trans g2
  have lq:=Nat.lt_of_lt_of_le lq hw1.size
  have ls:=Nat.lt_of_lt_of_le ls hw1.size
  by_cases hp:P≤L.length
  ·have p1:decide ((L.length:Int)<(P:Int))=false:=decide_eq_false (by omega)
   have p2:decide (L.length<P)=false:=decide_eq_false (by omega)
   by_cases hq:Q≤R.length
   ·have p3:decide ((R.length:Int)<(Q:Int))=false:=decide_eq_false (by omega)
    have p4:decide (R.length<Q)=false:=decide_eq_false (by omega)
    have hlt:i<L.length:=by have:=HP.out;simp at this;omega
    have HR:=hid (show E=if qG L i=false then 7 else 0 by
     rw [HE.out,if_pos ⟨hp,hq⟩]
     by_cases h:qG L i=false <;> simp [h])
    have HC:=hid (HRL.out hlt w1 hb1)
    clear hp hq hlt
    cases hr:qG L i
    ·rw [hr] at HR HC
     go_wp2_with fail
     refine HC.out.mono ?_
     rintro e w2 ⟨rfl,hw2⟩
     have q0:=(hw2.cell (p:=⟨w.heap.size,0,none⟩) lq).trans q0
     have q1:=(hw2.cell (p:=⟨w.heap.size,1,none⟩) lq).trans q1
     have g0:=(hw2.cell (p:=⟨w.heap.size+1,0,none⟩) ls).trans g0
     have g1:=(hw2.cell (p:=⟨w.heap.size+1,1,none⟩) ls).trans g1
     have g2:=(hw2.cell (p:=⟨w.heap.size+1,2,none⟩) ls).trans g2
     go_wp2_with fail
     first
     | refine ⟨trivial,?_⟩
     | skip
     go_wp2
     go_ret
     exact ⟨by rw [HR.out];rfl,hb1.trans (hw2.mono hb1.size)⟩
    ·rw [hr] at HR HC
     go_wp2_with fail
     refine HC.out.mono ?_
     rintro e w2 ⟨rfl,hw2⟩
     have q0:=(hw2.cell (p:=⟨w.heap.size,0,none⟩) lq).trans q0
     have q1:=(hw2.cell (p:=⟨w.heap.size,1,none⟩) lq).trans q1
     have g0:=(hw2.cell (p:=⟨w.heap.size+1,0,none⟩) ls).trans g0
     have g1:=(hw2.cell (p:=⟨w.heap.size+1,1,none⟩) ls).trans g1
     have g2:=(hw2.cell (p:=⟨w.heap.size+1,2,none⟩) ls).trans g2
     go_wp2_with fail
     first
     | refine ⟨trivial,?_⟩
     | skip
     go_wp2
     go_ret
     exact ⟨by rw [HR.out];rfl,hb1.trans (hw2.mono hb1.size)⟩
   ·have p3:decide ((R.length:Int)<(Q:Int))=true:=decide_eq_true (by omega)
    have p4:decide (R.length<Q)=true:=decide_eq_true (by omega)
    have HR:=hid (show E=11 by rw [HE.out,if_neg (fun h=>hq h.2)])
    clear hp hq
    go_wp2
    go_ret
    exact ⟨by rw [HR.out];rfl,hb1⟩
  ·have p1:decide ((L.length:Int)<(P:Int))=true:=decide_eq_true (by omega)
   have p2:decide (L.length<P)=true:=decide_eq_true (by omega)
   have HR:=hid (show E=11 by rw [HE.out,if_neg (fun h=>hp h.1)])
   clear hp
   go_wp2
   go_ret
   exact ⟨by rw [HR.out];rfl,hb1⟩
 ·go_enter Tryz.func238,Tryz.ntmps238
  go_upto_region 1 with fail
  obtain ⟨wP,dI⟩ : ∃ wP,wP=w.alloc (Obj.cells #[.slice pl L.length cl,.slice pr R.length cr,.string t1,.string t2,.string t3,.string t4] 122):=⟨_,rfl⟩
  obtain ⟨wA,aX⟩ : ∃ wA,wA=wP.alloc (Obj.cells #[.int .i64 5,.int .i64 (i:Int),.int .i64 (j:Int)] 57):=⟨_,rfl⟩
  have hsP:wP.heap.size=w.heap.size+1:=by rw [dI];simp
  have gG:Below w.heap.size w wP:=by rw [dI];exact ae _ _
  have hpq:wP.heap[w.heap.size]?=some (.cells #[.slice pl L.length cl,.slice pr R.length cr,.string t1,.string t2,.string t3,.string t4] 122 (0,0)):=by rw [dI];exact World.alloc_heap_new _ _
  obtain ⟨fP,ls,g0,g1,g2⟩:=bn aX
  have kG:=(fP.block _ (lt_of_some hpq)).trans hpq
  obtain ⟨q0,q1,q2,q3,q4,q5⟩:=aU kG
  have lq:=lt_of_some kG
  have aS:=gG.trans (fP.mono gG.size)
  rw [dI] at aX
  rw [←aX]
  rw [hsP] at ls g0 g1 g2
  clear aX dI hsP gG hpq fP kG
  go_wp2_with fail
  refine (uW.out wA).mono ?_
  rintro e w1 ⟨rfl,hw1⟩
  have hb1:=aS.trans (hw1.mono aS.size)
  have q0:=(hw1.cell (p:=⟨w.heap.size,0,none⟩) lq).trans q0
  have q1:=(hw1.cell (p:=⟨w.heap.size,1,none⟩) lq).trans q1
  have g0:=(hw1.cell (p:=⟨w.heap.size+1,0,none⟩) ls).trans g0
  have g1:=(hw1.cell (p:=⟨w.heap.size+1,1,none⟩) ls).trans g1
  have g2:=(hw1.cell (p:=⟨w.heap.size+1,2,none⟩) ls).trans g2
  have lq:=Nat.lt_of_lt_of_le lq hw1.size
  have ls:=Nat.lt_of_lt_of_le ls hw1.size
  by_cases hp:P≤L.length
  ·have p1:decide ((L.length:Int)<(P:Int))=false:=decide_eq_false (by omega)
   have p2:decide (L.length<P)=false:=decide_eq_false (by omega)
   by_cases hq:Q≤R.length
   ·have p3:decide ((R.length:Int)<(Q:Int))=false:=decide_eq_false (by omega)
    have p4:decide (R.length<Q)=false:=decide_eq_false (by omega)
    have hlt:j<R.length:=by have:=HQ.out;simp at this;omega
    have HR:=hid (show E=if qG R j=false then 7 else 0 by
     rw [HE.out,if_pos ⟨hp,hq⟩]
     by_cases h:qG R j=false <;> simp [h])
    have HC:=hid (HRR.out hlt w1 hb1)
    clear hp hq hlt
    cases hr:qG R j
    ·rw [hr] at HR HC
     go_wp2_with fail
     refine HC.out.mono ?_
     rintro e w2 ⟨rfl,hw2⟩
     have q0:=(hw2.cell (p:=⟨w.heap.size,0,none⟩) lq).trans q0
     have q1:=(hw2.cell (p:=⟨w.heap.size,1,none⟩) lq).trans q1
     have g0:=(hw2.cell (p:=⟨w.heap.size+1,0,none⟩) ls).trans g0
     have g1:=(hw2.cell (p:=⟨w.heap.size+1,1,none⟩) ls).trans g1
     have g2:=(hw2.cell (p:=⟨w.heap.size+1,2,none⟩) ls).trans g2
     go_wp2_with fail
     first
     | refine ⟨trivial,?_⟩
     | skip
     go_wp2
     go_ret
     exact ⟨by rw [HR.out];rfl,hb1.trans (hw2.mono hb1.size)⟩
    ·rw [hr] at HR HC
     go_wp2_with fail
     refine HC.out.mono ?_
     rintro e w2 ⟨rfl,hw2⟩
     have q0:=(hw2.cell (p:=⟨w.heap.size,0,none⟩) lq).trans q0
     have q1:=(hw2.cell (p:=⟨w.heap.size,1,none⟩) lq).trans q1
     have g0:=(hw2.cell (p:=⟨w.heap.size+1,0,none⟩) ls).trans g0
     have g1:=(hw2.cell (p:=⟨w.heap.size+1,1,none⟩) ls).trans g1
     have g2:=(hw2.cell (p:=⟨w.heap.size+1,2,none⟩) ls).trans g2
     go_wp2_with fail
     first
     | refine ⟨trivial,?_⟩
     | skip
     go_wp2
     go_ret
     exact ⟨by rw [HR.out];rfl,hb1.trans (hw2.mono hb1.size)⟩
   ·have p3:decide ((R.length:Int)<(Q:Int))=true:=decide_eq_true (by omega)
    have p4:decide (R.length<Q)=true:=decide_eq_true (by omega)
    have HR:=hid (show E=11 by rw [HE.out,if_neg (fun h=>hq h.2)])
    clear hp hq
    go_wp2
    go_ret
    exact ⟨by rw [HR.out];rfl,hb1⟩
  ·have p1:decide ((L.length:Int)<(P:Int))=true:=decide_eq_true (by omega)
   have p2:decide (L.length<P)=true:=decide_eq_true (by omega)
   have HR:=hid (show E=11 by rw [HE.out,if_neg (fun h=>hp h.1)])
   clear hp
   go_wp2
   go_ret
   exact ⟨by rw [HR.out];rfl,hb1⟩
end Go.Proofs.YtglncfkoohgdaaaGreatDoor
