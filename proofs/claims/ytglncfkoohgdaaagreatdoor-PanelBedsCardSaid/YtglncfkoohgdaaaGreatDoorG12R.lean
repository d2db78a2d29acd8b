import Derived.Test.YtglncfkoohgdaaaGreatDoorG11R
set_option maxRecDepth 100000
set_option maxHeartbeats 8000000
namespace Go.Proofs.YtglncfkoohgdaaaGreatDoor
open Go.RowKit Go.Shelf
open Go.Lib (decDigits itoa nDigits)
open Go.Lib (hid)
attribute [local go_sem] Oper.semAt_some
def acL (w:World) (s5 s6:Value) (a b c d e f:Value) (W:World):Prop:=∃ A D,s5=.pointer (some ⟨A,0,none⟩)∧s6=.pointer (some ⟨D,0,none⟩)∧W.heap[A]?=some (.cells #[a,b,c] 89 (0,0))∧W.heap[D]?=some (.cells #[d,e,f] 89 (0,0))∧Below w.heap.size w W∧w.heap.size≤A∧w.heap.size≤D
def yS (w:World) (s5 s6:Value) (a b c d:Value) (W:World):Prop:=∃ A D,s5=.pointer (some ⟨A,0,none⟩)∧s6=.pointer (some ⟨D,0,none⟩)∧W.heap[A]?=some (.cells #[a,b] 113 (0,0))∧W.heap[D]?=some (.cells #[c,d] 113 (0,0))∧Below w.heap.size w W∧w.heap.size≤A∧w.heap.size≤D
theorem rV {W:World} {B:Nat} {t:TypeId} {a b c d e f g h:Value} (hh:W.heap[B]?=some (.cells #[a,b,c,d,e,f,g,h] t (0,0))) :
  W.cell? ⟨B,0,none⟩=some a∧W.cell? ⟨B,1,none⟩=some b∧W.cell? ⟨B,2,none⟩=some c∧W.cell? ⟨B,3,none⟩=some d∧W.cell? ⟨B,4,none⟩=some e∧W.cell? ⟨B,5,none⟩=some f∧W.cell? ⟨B,6,none⟩=some g∧W.cell? ⟨B,7,none⟩=some h:=by
 refine ⟨by simp [World.cell?,hh],by simp [World.cell?,hh],by simp [World.cell?,hh],by simp [World.cell?,hh],by simp [World.cell?,hh],by simp [World.cell?,hh],by simp [World.cell?,hh],by simp [World.cell?,hh]⟩
theorem rW {P:bQ} {k:Nat} {s:Stp} (h:s.k=1):((ah (ai P k) s.i).u=(ah (ai P (k+1)) s.j).u→aC P k s=[(⟨k,(ah (ai P k) s.i).u,OH P k (ah (ai P k) s.i) (ah (ai P (k+1)) s.j)⟩,false)]) ∧
  (¬ (ah (ai P k) s.i).u=(ah (ai P (k+1)) s.j).u→aC P k s =
   [(⟨k,(ah (ai P k) s.i).u,[aG P k (ah (ai P k) s.i).b,l8 (aG P k (ah (ai P k) s.i).b) (aG P (k+1) (ah (ai P (k+1)) s.j).b),l8 (aG P k (ah (ai P k) s.i).a) (aG P (k+1) (ah (ai P (k+1)) s.j).a),aG P k (ah (ai P k) s.i).a]⟩,false),
   (⟨k,(ah (ai P (k+1)) s.j).u,[l8 (aG P k (ah (ai P k) s.i).b) (aG P (k+1) (ah (ai P (k+1)) s.j).b),aG P (k+1) (ah (ai P (k+1)) s.j).b,aG P (k+1) (ah (ai P (k+1)) s.j).a,l8 (aG P k (ah (ai P k) s.i).a) (aG P (k+1) (ah (ai P (k+1)) s.j).a)]⟩,true)]):=by
 unfold aC
 rw [if_pos h]
 exact ⟨fun e=>if_pos e,fun e=>if_neg e⟩
theorem bz {W:World} {A D:Nat} (u v:Value) (h:D≠A):((W.setCell ⟨A,0,none⟩ u).setCell ⟨A,1,none⟩ v).heap[D]?=W.heap[D]?:=by
 rw [Below.heap_setCell _ _ _ _ h,Below.heap_setCell _ _ _ _ h]
theorem Nj {N0:Nat} {vg va vt:Value} {P:bQ} {k:Nat} {s:Stp} {Bs Bl Br B1 B2 Bk Bp:Nat} {vl vr:Value} (hk:k+1<P.lg.length) (hO:dm P) (hs:s.k=1) (hi:s.i<(ai P k).length) (hj:s.j<(ai P (k+1)).length) (l:Nat) (J Jx:Nat→World→Prop) (W:World) (hw:Good W) (hE:lF N0 vg va vt P k s Bs Bl Br B1 B2 Bk Bp vl vr W)
  (hJ:kP 97 W.heap.size J)
  (hY:∀ i (_:i<(aC P k s).length) v W1,J i W1→(∃ x,(aC P k s)[i]?=some x∧qx x v W1)→YieldAt Fence.wide 8 Tryz.prog l #[v] W1 fun e W'=>(e=.returned (.bool true)∧J (i+1) W'∧(i+1<(aC P k s).length→iM N0 W1 W'))∨(e=.returned (.bool false)∧Jx i W')) (h0:J 0 W) :
  CallsIn Fence.wide 9 Tryz.prog 104 #[.func (.yield l) #[] #[],.pointer (some ⟨Bs,0,none⟩),.pointer (some ⟨Bl,0,none⟩),.pointer (some ⟨Br,0,none⟩),.pointer (some ⟨B1,0,none⟩),.pointer (some ⟨B2,0,none⟩),.pointer (some ⟨Bk,0,none⟩)] W fun e W'=>(∃ v,e=.returned v)∧(J (aC P k s).length W'∨∃ i,i<(aC P k s).length∧Jx i W'):=by
 have QY:=hid (rW (P:=P) (k:=k) hs)
 have hix:=hO.iv k s.i (by omega) hi
 have hiy:=hO.iv (k+1) s.j hk hj
 have zxa:=hix.1.c4
 have zxb:=hix.2.c4
 have zya:=hiy.1.c4
 have zyb:=hiy.2.c4
 have zat:=(hO.xs k (by omega)).c4
 have acM:=(hO.xs (k+1) hk).c4
 have ztp:=(hO.tp k (by omega)).c4
 have acN:=(hO.tp (k+1) hk).c4
 have ZC:=hid (fun w' (hg:Good w')=>FL (aG P k (ah (ai P k) s.i).b) (aG P (k+1) (ah (ai P (k+1)) s.j).b) ⟨zat.mono (by decide),(ztp.sub zxb).mono (by decide)⟩ ⟨acM.mono (by decide),(acN.sub zyb).mono (by decide)⟩ w' hg)
 have mE:=hid (fun w' (hg:Good w')=>FL (aG P k (ah (ai P k) s.i).a) (aG P (k+1) (ah (ai P (k+1)) s.j).a) ⟨zat.mono (by decide),(ztp.sub zxa).mono (by decide)⟩ ⟨acM.mono (by decide),(acN.sub zya).mono (by decide)⟩ w' hg)
 have hue:((us (ah (ai P k) s.i).u).toList == (us (ah (ai P (k+1)) s.j).u).toList)=decide ((ah (ai P k) s.i).u=(ah (ai P (k+1)) s.j).u):=by
  rw [Bool.eq_iff_iff,beq_iff_eq,decide_eq_true_eq,Lib.toList_data,Lib.toList_data]
 have HUE:=hid hue
 have HCQ:=hid (show (#[.string (tx (cZ P k)),.string (tx (bG P k-(ah (ai P k) s.i).b)),.string (tx (cZ P (k+1))),.string (tx (bG P (k+1)-(ah (ai P (k+1)) s.j).b)),.string (tx (cZ P (k+1))),.string (tx (bG P (k+1)-(ah (ai P (k+1)) s.j).a)),.string (tx (cZ P k)),.string (tx (bG P k-(ah (ai P k) s.i).a))]:Array Value).toList=cellsS ((OH P k (ah (ai P k) s.i) (ah (ai P (k+1)) s.j):List QP).map aR) from rfl)
 have agj:=hid (show (#[.string (tx (cZ P k)),.string (tx (bG P k-(ah (ai P k) s.i).b)),.string (tx ((cZ P k+cZ P (k+1))*(1/2))),.string (tx (((bG P k-(ah (ai P k) s.i).b)+(bG P (k+1)-(ah (ai P (k+1)) s.j).b))*(1/2))),.string (tx ((cZ P k+cZ P (k+1))*(1/2))),.string (tx (((bG P k-(ah (ai P k) s.i).a)+(bG P (k+1)-(ah (ai P (k+1)) s.j).a))*(1/2))),.string (tx (cZ P k)),.string (tx (bG P k-(ah (ai P k) s.i).a))]:Array Value).toList=cellsS (([aG P k (ah (ai P k) s.i).b,l8 (aG P k (ah (ai P k) s.i).b) (aG P (k+1) (ah (ai P (k+1)) s.j).b),l8 (aG P k (ah (ai P k) s.i).a) (aG P (k+1) (ah (ai P (k+1)) s.j).a),aG P k (ah (ai P k) s.i).a]:List QP).map aR) from rfl)
 have Ki:=hid (show (#[.string (tx ((cZ P k+cZ P (k+1))*(1/2))),.string (tx (((bG P k-(ah (ai P k) s.i).b)+(bG P (k+1)-(ah (ai P (k+1)) s.j).b))*(1/2))),.string (tx (cZ P (k+1))),.string (tx (bG P (k+1)-(ah (ai P (k+1)) s.j).b)),.string (tx (cZ P (k+1))),.string (tx (bG P (k+1)-(ah (ai P (k+1)) s.j).a)),.string (tx ((cZ P k+cZ P (k+1))*(1/2))),.string (tx (((bG P k-(ah (ai P k) s.i).a)+(bG P (k+1)-(ah (ai P (k+1)) s.j).a))*(1/2)))]:Array Value).toList=cellsS (([l8 (aG P k (ah (ai P k) s.i).b) (aG P (k+1) (ah (ai P (k+1)) s.j).b),aG P (k+1) (ah (ai P (k+1)) s.j).b,aG P (k+1) (ah (ai P (k+1)) s.j).a,l8 (aG P k (ah (ai P k) s.i).a) (aG P (k+1) (ah (ai P (k+1)) s.j).a)]:List QP).map aR) from rfl)
 have HJ:=hid hJ
 have HY:=hid hY
 have HJW:=hid h0
 have Mi:=hid (Nat.le_refl W.heap.size)
 obtain ⟨pl,cl,rfl,hcl,gZ⟩:=hE.vL.slice
 obtain ⟨pr,cr,rfl,hcr,aem⟩:=hE.vR.slice
 obtain ⟨b,off,rfl,lb,c0,c1,c2⟩:=hE.vL.at hi
 obtain ⟨b2,lW,rfl,Qn,d0,d1,d2⟩:=hE.vR.at hj
 have HE:=hid hE
 have HT:=hid (fun wJ (vF:Below W.heap.size W wJ) (Dh:Hid (lF N0 vg va vt P k s Bs Bl Br B1 B2 Bk Bp (.slice (some ⟨b,off,none⟩) (ai P k).length cl) (.slice (some ⟨b2,lW,none⟩) (ai P (k+1)).length cr) wJ))=>And.intro (fun W' (hb:Below wJ.heap.size wJ W')=>De (w:=W') vg va vt P k (ah (ai P k) s.i).b Bp Bk (by omega) hO ((hE.pm.below vF).below hb) ((hb.block _ (aa Dh.out.hp)).trans Dh.out.hp) ((hb.block _ (aa Dh.out.hk)).trans Dh.out.hk) zxb.sm (hw.below (vF.trans (hb.mono vF.size)))) (And.intro (fun W' (hb:Below wJ.heap.size wJ W')=>Df (w:=W') vg va vt P k (ah (ai P (k+1)) s.j).b Bp Bk hk hO ((hE.pm.below vF).below hb) ((hb.block _ (aa Dh.out.hp)).trans Dh.out.hp) ((hb.block _ (aa Dh.out.hk)).trans Dh.out.hk) zyb.sm (hw.below (vF.trans (hb.mono vF.size)))) (And.intro (fun W' (hb:Below wJ.heap.size wJ W')=>Df (w:=W') vg va vt P k (ah (ai P (k+1)) s.j).a Bp Bk hk hO ((hE.pm.below vF).below hb) ((hb.block _ (aa Dh.out.hp)).trans Dh.out.hp) ((hb.block _ (aa Dh.out.hk)).trans Dh.out.hk) zya.sm (hw.below (vF.trans (hb.mono vF.size)))) (fun W' (hb:Below wJ.heap.size wJ W')=>De (w:=W') vg va vt P k (ah (ai P k) s.i).a Bp Bk (by omega) hO ((hE.pm.below vF).below hb) ((hb.block _ (aa Dh.out.hp)).trans Dh.out.hp) ((hb.block _ (aa Dh.out.hk)).trans Dh.out.hk) zxa.sm (hw.below (vF.trans (hb.mono vF.size)))))))
 unfold RV xm l8 aG at ZC mE
 dsimp only at ZC mE
 unfold RV xm aG at HT
 dsimp only at HT
 obtain ⟨g0,g1,g2⟩:=az hE.hs
 have FM:=(one_cell hE.hl).1
 have FN:=(one_cell hE.hr).1
 have ls:=aa hE.hs
 have ll:=aa hE.hl
 have lr:=aa hE.hr
 have aen:=enters_of Tryz.func102 (by kernel_rfl) rfl
 have aeo:=enters_of Tryz.func103 (by kernel_rfl) rfl
 have R4:=(hO.log k (by omega)).2
 have ahq:=(hO.log (k+1) hk).2
 generalize hnl:(ai P k).length=nl at *
 generalize hnr:(ai P (k+1)).length=nr at *
 generalize hu1:us (ah (ai P k) s.i).u=u1 at *
 generalize hu2:us (ah (ai P (k+1)) s.j).u=u2 at *
 have HU1:=hid hu1
 have HU2:=hid hu2
 generalize tx ((cZ P k+cZ P (k+1))*(1/2))=r1 at *
 generalize tx ((bG P k-(ah (ai P k) s.i).b+(bG P (k+1)-(ah (ai P (k+1)) s.j).b))*(1/2))=r2 at *
 generalize tx ((bG P k-(ah (ai P k) s.i).a+(bG P (k+1)-(ah (ai P (k+1)) s.j).a))*(1/2))=r4 at *
 generalize tx (bG P k-(ah (ai P k) s.i).b)=p1 at *
 generalize tx (bG P (k+1)-(ah (ai P (k+1)) s.j).b)=p2 at *
 generalize tx (bG P (k+1)-(ah (ai P (k+1)) s.j).a)=p3 at *
 generalize tx (bG P k-(ah (ai P k) s.i).a)=p4 at *
 generalize tx (cZ P k)=tA at *
 generalize tx (cZ P (k+1))=tC at *
 generalize tx (ah (ai P k) s.i).a=YY at *
 generalize tx (ah (ai P k) s.i).b=tb1 at *
 generalize tx (ah (ai P (k+1)) s.j).a=ta2 at *
 generalize tx (ah (ai P (k+1)) s.j).b=tb2 at *
 have HEQ:=hid (show decide ((ah (ai P k) s.i).u=(ah (ai P (k+1)) s.j).u)=(u1.toList == u2.toList) from hue.symm)
 rw [hs] at g0
 generalize hgi:s.i=si at *
 generalize hgj:s.j=sj at *
 have i1:(0:Int)≤(si:Int):=by omega
 have i2:(si:Int)<(nl:Int):=by omega
 have i3:(0:Int)≤(sj:Int):=by omega
 have i4:(sj:Int)<(nr:Int):=by omega
 have HN0:=hid (show N0≤W.heap.size by have:=HE.out.ge.1;omega)
 clear hix hiy zxa zxb zya zyb zat acM ztp acN hue hE hJ hY h0 hu1 hu2 hgi hgj hnl hnr hO hi hj hs hk
 refine callsIn_of_wp Tryz.func104 rfl trivial ?_ rfl
 simp only [Tryz.ntmps104,List.size_toArray,List.length_cons,List.length_nil,Nat.reduceAdd,Nat.reduceSub,Array.replicate_succ,Array.replicate_zero,List.push_toArray,List.append_toArray,List.nil_append,List.cons_append]
 gi_upto_region 4 with fail
 try dsimp only
 gi_cut [8,9] from 46 (fun s8 s9 wx=>acL W s8 s9 (.string u1) (.string YY) (.string tb1) (.string u2) (.string ta2) (.string tb2) wx)
 case first =>
  have kL:=hid (fun W' (hS':Below W.heap.size W W')=>And.intro ((hS'.cell (p:=⟨Bs,1,none⟩) ls).trans g1) (And.intro ((hS'.cell (p:=⟨Bs,2,none⟩) ls).trans g2) (And.intro ((hS'.cell (p:=⟨Bl,0,none⟩) ll).trans FM) (And.intro ((hS'.cell (p:=⟨Br,0,none⟩) lr).trans FN) (And.intro ((hS'.cell (p:=⟨b,off+si*3,none⟩) lb).trans c0) (And.intro ((hS'.cell (p:=⟨b,off+si*3+1,none⟩) lb).trans c1) (And.intro ((hS'.cell (p:=⟨b,off+si*3+2,none⟩) lb).trans c2) (And.intro ((hS'.cell (p:=⟨b2,lW+sj*3,none⟩) Qn).trans d0) (And.intro ((hS'.cell (p:=⟨b2,lW+sj*3+1,none⟩) Qn).trans d1) ((hS'.cell (p:=⟨b2,lW+sj*3+2,none⟩) Qn).trans d2))))))))))
  refine bN bT (fun W'=>Below W.heap.size W W') (.take 0 (.take 1 (.take 2 (.take 3 (.take 4 (.take 5 (.take 6 (.take 7 (.take 8 (.take 9 (.two 10 (.one 11 (.one 12 .fin)) 11 (.one 10 (.one 12 .fin))))))))))))) 13 (by kernel_rfl) (by kernel_rfl) (by kernel_rfl) ⟨rfl,rfl,rfl,Nat.le_refl _,fun _ _=>rfl⟩ ?_
  have bZ:Below W.heap.size W W.drew:=⟨rfl,rfl,rfl,Nat.le_refl _,fun _ _=>rfl⟩
  generalize W.drew=dW at *
  iterate 10
   refine aF rfl ?_ rfl ?_ ?_
   rotate_left
   ·intro W' hS'
    obtain ⟨s0,s1,s2,s3,s4,s5,s6,s7,s8,s9⟩:=kL.out _ hS'
    go_simp
    try with_reducible rfl
   try simp only [zA,zB,zC,Act.put,zD,zE,zF]
  refine dE ?_ ?_
  ·refine af rfl rfl (fun K hK=>?_)
   go_simp
   obtain ⟨gK,mZ⟩ : ∃ q,q=dW.alloc (Obj.cells #[.string ⟨#[]⟩,.string ⟨#[]⟩,.string ⟨#[]⟩] 89):=⟨_,rfl⟩
   have OX:gK.heap[dW.heap.size]?=some (.cells #[.string ⟨#[]⟩,.string ⟨#[]⟩,.string ⟨#[]⟩] 89 (0,0)):=by rw [mZ];exact World.alloc_heap_new _ _
   have cK:Below dW.heap.size dW gK:=by rw [mZ];exact ae _ _
   have hP1:=bZ.trans (cK.mono bZ.size)
   rw [←mZ]
   clear mZ
   refine hK _ _ ⟨hP1,?_⟩
   clear hK K
   try simp only [zA,zB,zC,Act.put,zD,zE,zF]
   refine af rfl rfl (fun K hK=>?_)
   go_simp
   have agk:=lt_of_some OX
   obtain ⟨sW,jo⟩ : ∃ q,q=gK.alloc (Obj.cells #[.string ⟨#[]⟩,.string ⟨#[]⟩,.string ⟨#[]⟩] 89):=⟨_,rfl⟩
   have Va:sW.heap[gK.heap.size]?=some (.cells #[.string ⟨#[]⟩,.string ⟨#[]⟩,.string ⟨#[]⟩] 89 (0,0)):=by rw [jo];exact World.alloc_heap_new _ _
   have dK:Below gK.heap.size gK sW:=by rw [jo];exact ae _ _
   have hP2:=hP1.trans (dK.mono hP1.size)
   rw [←jo]
   clear jo
   have xM:=(dK.block _ (lt_of_some OX)).trans OX
   refine hK _ _ ⟨hP2,?_⟩
   clear hK K
   try simp only [zA,zB,zC,Act.put,zD,zE,zF]
   obtain ⟨_,_,_⟩:=bP xM
   obtain ⟨_,_,_⟩:=az xM
   refine af rfl rfl (fun K hK=>?_)
   go_simp
   refine hK _ _ ⟨bW _ _ _ bZ.size hP2,?_⟩
   clear hK K
   try simp only [zA,zB,zC,Act.put,zD,zE,zF]
   unfold bR
   simp only [List.drop_succ_cons,List.drop_zero]
   have Uo:dW.heap.size<gK.heap.size:=by
    have:=lt_of_some OX
    exact this
   have iV:(gK.heap.size:Nat)≠dW.heap.size:=(Nat.ne_of_gt Uo)
   have kA:=fG (.string u1) (.string YY) (.string tb1) xM
   have kD:=fG (.string u2) (.string ta2) (.string tb2) ((fH (.string u1) (.string YY) (.string tb1) iV).trans Va)
   have kA2:=(fH (.string u2) (.string ta2) (.string tb2) (Ne.symm iV)).trans kA
   have kB:=bW (.string u2) (.string ta2) (.string tb2) hP1.size (bW (.string u1) (.string YY) (.string tb1) bZ.size hP2)
   obtain ⟨_,_,_⟩:=bP xM
   obtain ⟨_,_,_⟩:=bP Va
   obtain ⟨_,_,_⟩:=az xM
   obtain ⟨_,_,_⟩:=az Va
   have eF:=hid (show acL W (.pointer (some ⟨dW.heap.size,0,none⟩)) (.pointer (some ⟨gK.heap.size,0,none⟩)) (.string u1) (.string YY) (.string tb1) (.string u2) (.string ta2) (.string tb2) _ from ⟨_,_,rfl,rfl,kA2,kD,kB,bZ.size,hP1.size⟩)
   have vD:(dW.heap.size:Nat)≠gK.heap.size:=Ne.symm iV
   clear kA kD kA2 kB Uo
   gi_wp2_with fail
   gi_meet
   exact eF.out
  ·refine af rfl rfl (fun K hK=>?_)
   go_simp
   obtain ⟨iW,gq⟩ : ∃ q,q=dW.alloc (Obj.cells #[.string ⟨#[]⟩,.string ⟨#[]⟩,.string ⟨#[]⟩] 89):=⟨_,rfl⟩
   have OY:iW.heap[dW.heap.size]?=some (.cells #[.string ⟨#[]⟩,.string ⟨#[]⟩,.string ⟨#[]⟩] 89 (0,0)):=by rw [gq];exact World.alloc_heap_new _ _
   have jq:Below dW.heap.size dW iW:=by rw [gq];exact ae _ _
   have lY:=bZ.trans (jq.mono bZ.size)
   rw [←gq]
   clear gq
   refine hK _ _ ⟨lY,?_⟩
   clear hK K
   try simp only [zA,zB,zC,Act.put,zD,zE,zF]
   refine af rfl rfl (fun K hK=>?_)
   go_simp
   have agl:=lt_of_some OY
   obtain ⟨pQ,dL⟩ : ∃ q,q=iW.alloc (Obj.cells #[.string ⟨#[]⟩,.string ⟨#[]⟩,.string ⟨#[]⟩] 89):=⟨_,rfl⟩
   have KM:pQ.heap[iW.heap.size]?=some (.cells #[.string ⟨#[]⟩,.string ⟨#[]⟩,.string ⟨#[]⟩] 89 (0,0)):=by rw [dL];exact World.alloc_heap_new _ _
   have jr:Below iW.heap.size iW pQ:=by rw [dL];exact ae _ _
   have yK:=lY.trans (jr.mono lY.size)
   rw [←dL]
   clear dL
   have Hq:=(jr.block _ (lt_of_some OY)).trans OY
   refine hK _ _ ⟨yK,?_⟩
   clear hK K
   try simp only [zA,zB,zC,Act.put,zD,zE,zF]
   obtain ⟨_,_,_⟩:=bP KM
   obtain ⟨_,_,_⟩:=az KM
   refine af rfl rfl (fun K hK=>?_)
   go_simp
   refine hK _ _ ⟨bW _ _ _ lY.size yK,?_⟩
   clear hK K
   try simp only [zA,zB,zC,Act.put,zD,zE,zF]
   unfold bR
   simp only [List.drop_succ_cons,List.drop_zero]
   have Uo:dW.heap.size<iW.heap.size:=by
    have:=lt_of_some OY
    exact this
   have iV:(dW.heap.size:Nat)≠iW.heap.size:=(Nat.ne_of_lt Uo)
   have kA:=fG (.string u1) (.string YY) (.string tb1) KM
   have kD:=fG (.string u2) (.string ta2) (.string tb2) ((fH (.string u1) (.string YY) (.string tb1) iV).trans Hq)
   have kA2:=(fH (.string u2) (.string ta2) (.string tb2) (Ne.symm iV)).trans kA
   have kB:=bW (.string u2) (.string ta2) (.string tb2) bZ.size (bW (.string u1) (.string YY) (.string tb1) lY.size yK)
   obtain ⟨_,_,_⟩:=bP KM
   obtain ⟨_,_,_⟩:=bP Hq
   obtain ⟨_,_,_⟩:=az KM
   obtain ⟨_,_,_⟩:=az Hq
   have eF:=hid (show acL W (.pointer (some ⟨iW.heap.size,0,none⟩)) (.pointer (some ⟨dW.heap.size,0,none⟩)) (.string u1) (.string YY) (.string tb1) (.string u2) (.string ta2) (.string tb2) _ from ⟨_,_,rfl,rfl,kA2,kD,kB,lY.size,bZ.size⟩)
   have vD:(iW.heap.size:Nat)≠dW.heap.size:=Ne.symm iV
   clear kA kD kA2 kB Uo
   gi_wp2_with fail
   gi_meet
   exact eF.out
 case rest =>
 obtain ⟨A8,A9,rfl,rfl,hA,hD,vF,hgA,hgD⟩:=hcut
 obtain ⟨wJ,hwj⟩ : ∃ q,q=wc:=⟨_,rfl⟩
 subst hwj
 have Dh:=hid (HE.out.below vF)
 obtain ⟨ht1,ht2,ht3,Us⟩:=HT.out wJ vF Dh
 have HT1:=hid ht1
 have HT2:=hid ht2
 have HT3:=hid ht3
 have HT4:=hid Us
 have HA:=hid hA
 have HD:=hid hD
 have E8:=hid vF
 have agm:=hid (And.intro hgA hgD)
 obtain ⟨m0,m1,m2⟩:=az hA
 obtain ⟨n0,n1,n2⟩:=az hD
 have lA:=aa hA
 have lD:=aa hD
 have f1:=(one_cell Dh.out.h1).1
 have f2:=(one_cell Dh.out.h2).1
 have l1:=aa Dh.out.h1
 have l2:=aa Dh.out.h2
 clear ht1 ht2 ht3 Us hA hD vF hgA hgD HT g0 g1 g2 FM FN c0 c1 c2 d0 d1 d2 ls ll lr lb Qn
 gi_upto_region 5 with fail
 have kL:=hid (fun W' (hS':Below wJ.heap.size wJ W')=>And.intro ((hS'.cell (p:=⟨B1,0,none⟩) l1).trans f1) (And.intro ((hS'.cell (p:=⟨B2,0,none⟩) l2).trans f2) (And.intro ((hS'.cell (p:=⟨A8,0,none⟩) lA).trans m0) (And.intro ((hS'.cell (p:=⟨A8,1,none⟩) lA).trans m1) (And.intro ((hS'.cell (p:=⟨A8,2,none⟩) lA).trans m2) (And.intro ((hS'.cell (p:=⟨A9,0,none⟩) lD).trans n0) (And.intro ((hS'.cell (p:=⟨A9,1,none⟩) lD).trans n1) ((hS'.cell (p:=⟨A9,2,none⟩) lD).trans n2))))))))
 refine bN bT (fun W'=>Below wJ.heap.size wJ W') (.take 0 (.take 1 (.take 2 (.take 4 (.take 5 (.take 6 (.take 8 (.take 9 (.take 10 (.take 12 (.take 13 (.take 14 (.one 3 (.one 7 (.one 11 (.one 15 (.one 16 .fin))))))))))))))))) 17 (by kernel_rfl) (by kernel_rfl) (by kernel_rfl) ⟨rfl,rfl,rfl,Nat.le_refl _,fun _ _=>rfl⟩ ?_
 have MQ:Below wJ.heap.size wJ wJ.drew:=⟨rfl,rfl,rfl,Nat.le_refl _,fun _ _=>rfl⟩
 generalize wJ.drew=qv0 at *
 iterate 12
  refine aF rfl ?_ rfl ?_ ?_
  rotate_left
  ·intro W' hS'
   obtain ⟨s0,s1,s2,s3,s4,s5,s6,s7⟩:=kL.out _ hS'
   go_simp
   try with_reducible rfl
  try simp only [zA,zB,zC,Act.put,zD,zE,zF]
 refine af rfl rfl (fun K hK=>?_)
 go_simp
 refine (HT1.out _ (MQ)).mono ?_
 rintro e qv1 ⟨rfl,J9⟩
 have I8:=MQ.trans (J9.mono MQ.size)
 refine hK _ _ ⟨I8,?_⟩
 clear hK K
 try simp only [zA,zB,zC,Act.put,zD,zE,zF]
 refine af rfl rfl (fun K hK=>?_)
 go_simp
 refine (HT2.out _ (I8)).mono ?_
 rintro e qv2 ⟨rfl,Ka⟩
 have I9:=I8.trans (Ka.mono I8.size)
 refine hK _ _ ⟨I9,?_⟩
 clear hK K
 try simp only [zA,zB,zC,Act.put,zD,zE,zF]
 refine af rfl rfl (fun K hK=>?_)
 go_simp
 refine (HT3.out _ (I9)).mono ?_
 rintro e qv3 ⟨rfl,Kb⟩
 have OB:=I9.trans (Kb.mono I9.size)
 refine hK _ _ ⟨OB,?_⟩
 clear hK K
 try simp only [zA,zB,zC,Act.put,zD,zE,zF]
 refine af rfl rfl (fun K hK=>?_)
 go_simp
 refine (HT4.out _ (OB)).mono ?_
 rintro e ZE ⟨rfl,Kc⟩
 have RP:=OB.trans (Kc.mono OB.size)
 refine hK _ _ ⟨RP,?_⟩
 clear hK K
 try simp only [zA,zB,zC,Act.put,zD,zE,zF]
 refine af rfl rfl (fun K hK=>?_)
 go_simp
 obtain ⟨ZF,xN⟩ : ∃ q,q=ZE.alloc (Obj.cells #[.string tA,.string p1,.string tC,.string p2,.string tC,.string p3,.string tA,.string p4] 113):=⟨_,rfl⟩
 have aep:ZF.heap[ZE.heap.size]?=some (.cells #[.string tA,.string p1,.string tC,.string p2,.string tC,.string p3,.string tA,.string p4] 113 (0,0)):=by rw [xN];exact World.alloc_heap_new _ _
 have Ke:Below ZE.heap.size ZE ZF:=by rw [xN];exact ae _ _
 have Aw:=RP.trans (Ke.mono RP.size)
 rw [←xN]
 clear xN
 refine hK _ _ ⟨Aw,?_⟩
 clear hK K
 try simp only [zA,zB,zC,Act.put,zD,zE,zF]
 unfold bR
 simp only [List.drop_succ_cons,List.drop_zero]
 obtain ⟨bq,hbq⟩ : ∃ q,q=ZE.heap.size:=⟨_,rfl⟩
 have HZQ:=hid (show ZF.heap[bq]?=some (.cells #[.string tA,.string p1,.string tC,.string p2,.string tC,.string p3,.string tA,.string p4] 113 (0,0)) by rw [hbq];exact aep)
 have HGQ:=hid (show wJ.heap.size≤bq by rw [hbq];exact RP.size)
 rw [←hbq]
 have R7:=hid Aw
 clear hbq f1 f2 m0 m1 m2 n0 n1 n2
 obtain ⟨wq,hwq⟩ : ∃ q,q=ZF:=⟨_,rfl⟩
 rw [←hwq] at HZQ R7 ⊢
 clear hwq
 have nX:=hid (E8.out.trans (R7.out.mono E8.out.size))
 have aeq:=hid (Dh.out.below R7.out)
 have hA:=(R7.out.block _ (aa HA.out)).trans HA.out
 have hD:=(R7.out.block _ (aa HD.out)).trans HD.out
 have HA2:=hid hA
 have HD2:=hid hD
 have HJQ:=hid (dh HJ.out HJW.out nX.out)
 obtain ⟨m0,m1,m2⟩:=az hA
 obtain ⟨n0,n1,n2⟩:=az hD
 have k0:=bL aeq.out.hk
 clear hA hD lA lD l1 l2
 by_cases hun:(ah (ai P k) si).u=(ah (ai P (k+1)) sj).u
 ·have heq:=HEQ.out.symm
  rw [decide_eq_true hun] at heq
  have hp:=QY.out.1 hun
  have acO:=hid (show (aC P k s)[0]?=some _ by rw [hp];rfl)
  have acP:=hid (show (aC P k s).length=1 by rw [hp];rfl)
  have QZ:=hid (show ∃ x,(aC P k s)[0]?=some x∧qx x (.agg #[.int .i64 (k:Int),.string u1,.slice (some ⟨bq,0,none⟩) 4 4,.bool false]) wq from ⟨_,acO.out,mh rfl HU1.out rfl HCQ.out HZQ.out (by decide)⟩)
  clear hun hp
  gi_upto_region 7 with fail
  obtain ⟨fn,tmps,assign,body,hy,hR⟩:=HY.out 0 (by rw [acP.out];decide) _ wq HJQ.out QZ.out
  gi_wp2
  refine hR.mono ?_
  rintro e W9 (⟨rfl,CE,_⟩ | ⟨rfl,pR⟩)
  ·have Ay:=hid CE
   clear CE
   gi_wp2
   refine bodyPost_ret (results_none rfl _ _ _) rfl ?_
   exact ⟨⟨_,rfl⟩,.inl (by rw [acP.out];exact Ay.out)⟩
  ·have Ay:=hid pR
   clear pR
   gi_wp2
   refine bodyPost_ret (results_none rfl _ _ _) rfl ?_
   exact ⟨⟨_,rfl⟩,.inr ⟨0,by rw [acP.out];decide,Ay.out⟩⟩
 ·have heq:=HEQ.out.symm
  rw [decide_eq_false hun] at heq
  have hp:=QY.out.2 hun
  have acO:=hid (show (aC P k s)[0]?=some _ by rw [hp];rfl)
  have agn:=hid (show (aC P k s)[1]?=some _ by rw [hp];rfl)
  have Q3:=hid (show (aC P k s).length=2 by rw [hp];rfl)
  obtain ⟨q0,q1,q2,q3,q4,q5,q6,q7⟩:=rV HZQ.out
  have lq:=aa HZQ.out
  clear hun hp
  gi_upto_region 8 with fail
  try dsimp only
  gi_cut [11,12] from 86 (fun s11 s12 wx=>yS wq s11 s12 (.string r1) (.string r2) (.string r1) (.string r4) wx)
  case first =>
   have kL:=hid (fun W' (hS':Below wq.heap.size wq W')=>And.intro ((hS'.cell (p:=⟨bq,0,none⟩) lq).trans q0) (And.intro ((hS'.cell (p:=⟨bq,1,none⟩) lq).trans q1) (And.intro ((hS'.cell (p:=⟨bq,2,none⟩) lq).trans q2) (And.intro ((hS'.cell (p:=⟨bq,3,none⟩) lq).trans q3) (And.intro ((hS'.cell (p:=⟨bq,4,none⟩) lq).trans q4) (And.intro ((hS'.cell (p:=⟨bq,5,none⟩) lq).trans q5) (And.intro ((hS'.cell (p:=⟨bq,6,none⟩) lq).trans q6) ((hS'.cell (p:=⟨bq,7,none⟩) lq).trans q7))))))))
   refine bN bT (fun W'=>Below wq.heap.size wq W') (.take 0 (.take 1 (.take 2 (.take 3 (.take 4 (.take 5 (.take 7 (.take 8 (.take 9 (.take 10 (.take 11 (.take 12 (.three 6 (.three 13 (.two 14 (.one 15 (.one 16 .fin)) 15 (.one 14 (.one 16 .fin))) 14 (.two 13 (.one 15 (.one 16 .fin)) 15 (.one 13 (.one 16 .fin))) 15 (.two 13 (.one 14 (.one 16 .fin)) 14 (.one 13 (.one 16 .fin)))) 14 (.two 6 (.two 13 (.one 15 (.one 16 .fin)) 15 (.one 13 (.one 16 .fin))) 15 (.one 6 (.one 13 (.one 16 .fin)))) 15 (.two 6 (.two 13 (.one 14 (.one 16 .fin)) 14 (.one 13 (.one 16 .fin))) 14 (.one 6 (.one 13 (.one 16 .fin))))))))))))))))) 17 (by kernel_rfl) (by kernel_rfl) (by kernel_rfl) ⟨rfl,rfl,rfl,Nat.le_refl _,fun _ _=>rfl⟩ ?_
   have hR0:Below wq.heap.size wq wq.drew:=⟨rfl,rfl,rfl,Nat.le_refl _,fun _ _=>rfl⟩
   generalize wq.drew=nz at *
   iterate 12
    refine aF rfl ?_ rfl ?_ ?_
    rotate_left
    ·intro W' hS'
     obtain ⟨s0,s1,s2,s3,s4,s5,s6,s7⟩:=kL.out _ hS'
     go_simp
     try with_reducible rfl
    try simp only [zA,zB,zC,Act.put,zD,zE,zF]
   refine Bh ?_ ?_ ?_
   ·refine af rfl rfl (fun K hK=>?_)
    go_simp
    refine (ZC.out _ (hw.below (nX.out.trans (hR0.mono nX.out.size)))).mono ?_
    rintro e tJ ⟨rfl,Vb⟩
    have eY:=hR0.trans (Vb.mono hR0.size)
    refine hK _ _ ⟨eY,?_⟩
    clear hK K
    try simp only [zA,zB,zC,Act.put,zD,zE,zF]
    refine Bh ?_ ?_ ?_
    ·refine af rfl rfl (fun K hK=>?_)
     go_simp
     refine (mE.out _ (hw.below (nX.out.trans (eY.mono nX.out.size)))).mono ?_
     rintro e AV ⟨rfl,Vd⟩
     have hR2:=eY.trans (Vd.mono eY.size)
     refine hK _ _ ⟨hR2,?_⟩
     clear hK K
     try simp only [zA,zB,zC,Act.put,zD,zE,zF]
     refine dE ?_ ?_
     ·refine af rfl rfl (fun K hK=>?_)
      go_simp
      obtain ⟨OZ,xO⟩ : ∃ q,q=AV.alloc (Obj.cells #[.string ⟨#[]⟩,.string ⟨#[]⟩] 113):=⟨_,rfl⟩
      have Ve:OZ.heap[AV.heap.size]?=some (.cells #[.string ⟨#[]⟩,.string ⟨#[]⟩] 113 (0,0)):=by rw [xO];exact World.alloc_heap_new _ _
      have Vf:Below AV.heap.size AV OZ:=by rw [xO];exact ae _ _
      have hR3:=hR2.trans (Vf.mono hR2.size)
      rw [←xO]
      clear xO
      refine hK _ _ ⟨hR3,?_⟩
      clear hK K
      try simp only [zA,zB,zC,Act.put,zD,zE,zF]
      refine af rfl rfl (fun K hK=>?_)
      go_simp
      have agp:=lt_of_some Ve
      obtain ⟨rv4,xP⟩ : ∃ q,q=OZ.alloc (Obj.cells #[.string ⟨#[]⟩,.string ⟨#[]⟩] 113):=⟨_,rfl⟩
      have abw:rv4.heap[OZ.heap.size]?=some (.cells #[.string ⟨#[]⟩,.string ⟨#[]⟩] 113 (0,0)):=by rw [xP];exact World.alloc_heap_new _ _
      have O0:Below OZ.heap.size OZ rv4:=by rw [xP];exact ae _ _
      have hR4:=hR3.trans (O0.mono hR3.size)
      rw [←xP]
      clear xP
      have Hr:=(O0.block _ (lt_of_some Ve)).trans Ve
      refine hK _ _ ⟨hR4,?_⟩
      clear hK K
      try simp only [zA,zB,zC,Act.put,zD,zE,zF]
      obtain ⟨_,_,_,_⟩:=aj Hr
      refine af rfl rfl (fun K hK=>?_)
      go_simp
      refine hK _ _ ⟨(hR4.setCell (p:=⟨_,0,none⟩) hR2.size _).setCell (p:=⟨_,1,none⟩) hR2.size _,?_⟩
      clear hK K
      try simp only [zA,zB,zC,Act.put,zD,zE,zF]
      unfold bR
      simp only [List.drop_succ_cons,List.drop_zero]
      have iV:(OZ.heap.size:Nat)≠AV.heap.size:=by
       omega
      have kA:=aV (.string r2) (aU (.string r1) Hr)
      have kD:=aV (.string r4) (aU (.string r1) ((bz (.string r1) (.string r2) iV).trans abw))
      have kA2:=(bz (.string r1) (.string r4) (Ne.symm iV)).trans kA
      have kB:=((((hR4).setCell (p:=⟨AV.heap.size,0,none⟩) hR2.size (.string r1)).setCell (p:=⟨AV.heap.size,1,none⟩) hR2.size (.string r2)).setCell (p:=⟨OZ.heap.size,0,none⟩) hR3.size (.string r1)).setCell (p:=⟨OZ.heap.size,1,none⟩) hR3.size (.string r4)
      obtain ⟨_,_,_,_⟩:=aj Hr
      obtain ⟨_,_,_,_⟩:=aj abw
      have eF:=hid (show yS wq (.pointer (some ⟨AV.heap.size,0,none⟩)) (.pointer (some ⟨OZ.heap.size,0,none⟩)) (.string r1) (.string r2) (.string r1) (.string r4) _ from ⟨_,_,rfl,rfl,kA2,kD,kB,hR2.size,hR3.size⟩)
      have vD:(AV.heap.size:Nat)≠OZ.heap.size:=Ne.symm iV
      clear kA kD kA2 kB
      gi_wp2_with fail
      gi_meet
      exact eF.out
     ·refine af rfl rfl (fun K hK=>?_)
      go_simp
      obtain ⟨O3,xQ⟩ : ∃ q,q=AV.alloc (Obj.cells #[.string ⟨#[]⟩,.string ⟨#[]⟩] 113):=⟨_,rfl⟩
      have Vg:O3.heap[AV.heap.size]?=some (.cells #[.string ⟨#[]⟩,.string ⟨#[]⟩] 113 (0,0)):=by rw [xQ];exact World.alloc_heap_new _ _
      have Vh:Below AV.heap.size AV O3:=by rw [xQ];exact ae _ _
      have Q5:=hR2.trans (Vh.mono hR2.size)
      rw [←xQ]
      clear xQ
      refine hK _ _ ⟨Q5,?_⟩
      clear hK K
      try simp only [zA,zB,zC,Act.put,zD,zE,zF]
      refine af rfl rfl (fun K hK=>?_)
      go_simp
      have agq:=lt_of_some Vg
      obtain ⟨rv7,O4⟩ : ∃ q,q=O3.alloc (Obj.cells #[.string ⟨#[]⟩,.string ⟨#[]⟩] 113):=⟨_,rfl⟩
      have Vi:rv7.heap[O3.heap.size]?=some (.cells #[.string ⟨#[]⟩,.string ⟨#[]⟩] 113 (0,0)):=by rw [O4];exact World.alloc_heap_new _ _
      have KN:Below O3.heap.size O3 rv7:=by rw [O4];exact ae _ _
      have hR7:=Q5.trans (KN.mono Q5.size)
      rw [←O4]
      clear O4
      have O5:=(KN.block _ (lt_of_some Vg)).trans Vg
      refine hK _ _ ⟨hR7,?_⟩
      clear hK K
      try simp only [zA,zB,zC,Act.put,zD,zE,zF]
      obtain ⟨_,_,_,_⟩:=aj Vi
      refine af rfl rfl (fun K hK=>?_)
      go_simp
      refine hK _ _ ⟨(hR7.setCell (p:=⟨_,0,none⟩) Q5.size _).setCell (p:=⟨_,1,none⟩) Q5.size _,?_⟩
      clear hK K
      try simp only [zA,zB,zC,Act.put,zD,zE,zF]
      unfold bR
      simp only [List.drop_succ_cons,List.drop_zero]
      have iV:(AV.heap.size:Nat)≠O3.heap.size:=by
       omega
      have kA:=aV (.string r2) (aU (.string r1) Vi)
      have kD:=aV (.string r4) (aU (.string r1) ((bz (.string r1) (.string r2) iV).trans O5))
      have kA2:=(bz (.string r1) (.string r4) (Ne.symm iV)).trans kA
      have kB:=((((hR7).setCell (p:=⟨O3.heap.size,0,none⟩) Q5.size (.string r1)).setCell (p:=⟨O3.heap.size,1,none⟩) Q5.size (.string r2)).setCell (p:=⟨AV.heap.size,0,none⟩) hR2.size (.string r1)).setCell (p:=⟨AV.heap.size,1,none⟩) hR2.size (.string r4)
      obtain ⟨_,_,_,_⟩:=aj Vi
      obtain ⟨_,_,_,_⟩:=aj O5
      have eF:=hid (show yS wq (.pointer (some ⟨O3.heap.size,0,none⟩)) (.pointer (some ⟨AV.heap.size,0,none⟩)) (.string r1) (.string r2) (.string r1) (.string r4) _ from ⟨_,_,rfl,rfl,kA2,kD,kB,Q5.size,hR2.size⟩)
      have vD:(O3.heap.size:Nat)≠AV.heap.size:=Ne.symm iV
      clear kA kD kA2 kB
      gi_wp2_with fail
      gi_meet
      exact eF.out
    ·refine af rfl rfl (fun K hK=>?_)
     go_simp
     obtain ⟨Vj,O6⟩ : ∃ q,q=tJ.alloc (Obj.cells #[.string ⟨#[]⟩,.string ⟨#[]⟩] 113):=⟨_,rfl⟩
     have KO:Vj.heap[tJ.heap.size]?=some (.cells #[.string ⟨#[]⟩,.string ⟨#[]⟩] 113 (0,0)):=by rw [O6];exact World.alloc_heap_new _ _
     have aer:Below tJ.heap.size tJ Vj:=by rw [O6];exact ae _ _
     have hR9:=eY.trans (aer.mono eY.size)
     rw [←O6]
     clear O6
     refine hK _ _ ⟨hR9,?_⟩
     clear hK K
     try simp only [zA,zB,zC,Act.put,zD,zE,zF]
     refine dE ?_ ?_
     ·refine af rfl rfl (fun K hK=>?_)
      go_simp
      refine (mE.out _ (hw.below (nX.out.trans (hR9.mono nX.out.size)))).mono ?_
      rintro e Ht ⟨rfl,Vk⟩
      have Q6:=hR9.trans (Vk.mono hR9.size)
      have Di:=(Vk.block _ (lt_of_some KO)).trans KO
      refine hK _ _ ⟨Q6,?_⟩
      clear hK K
      try simp only [zA,zB,zC,Act.put,zD,zE,zF]
      refine af rfl rfl (fun K hK=>?_)
      go_simp
      have afx:=lt_of_some Di
      obtain ⟨aes,Hu⟩ : ∃ q,q=Ht.alloc (Obj.cells #[.string ⟨#[]⟩,.string ⟨#[]⟩] 113):=⟨_,rfl⟩
      have Vl:aes.heap[Ht.heap.size]?=some (.cells #[.string ⟨#[]⟩,.string ⟨#[]⟩] 113 (0,0)):=by rw [Hu];exact World.alloc_heap_new _ _
      have Vm:Below Ht.heap.size Ht aes:=by rw [Hu];exact ae _ _
      have acQ:=Q6.trans (Vm.mono Q6.size)
      rw [←Hu]
      clear Hu
      have Dj:=(Vm.block _ (lt_of_some Di)).trans Di
      refine hK _ _ ⟨acQ,?_⟩
      clear hK K
      try simp only [zA,zB,zC,Act.put,zD,zE,zF]
      obtain ⟨_,_,_,_⟩:=aj Dj
      refine af rfl rfl (fun K hK=>?_)
      go_simp
      refine hK _ _ ⟨(acQ.setCell (p:=⟨_,0,none⟩) eY.size _).setCell (p:=⟨_,1,none⟩) eY.size _,?_⟩
      clear hK K
      try simp only [zA,zB,zC,Act.put,zD,zE,zF]
      unfold bR
      simp only [List.drop_succ_cons,List.drop_zero]
      have iV:(Ht.heap.size:Nat)≠tJ.heap.size:=by
       omega
      have kA:=aV (.string r2) (aU (.string r1) Dj)
      have kD:=aV (.string r4) (aU (.string r1) ((bz (.string r1) (.string r2) iV).trans Vl))
      have kA2:=(bz (.string r1) (.string r4) (Ne.symm iV)).trans kA
      have kB:=((((acQ).setCell (p:=⟨tJ.heap.size,0,none⟩) eY.size (.string r1)).setCell (p:=⟨tJ.heap.size,1,none⟩) eY.size (.string r2)).setCell (p:=⟨Ht.heap.size,0,none⟩) Q6.size (.string r1)).setCell (p:=⟨Ht.heap.size,1,none⟩) Q6.size (.string r4)
      obtain ⟨_,_,_,_⟩:=aj Dj
      obtain ⟨_,_,_,_⟩:=aj Vl
      have eF:=hid (show yS wq (.pointer (some ⟨tJ.heap.size,0,none⟩)) (.pointer (some ⟨Ht.heap.size,0,none⟩)) (.string r1) (.string r2) (.string r1) (.string r4) _ from ⟨_,_,rfl,rfl,kA2,kD,kB,eY.size,Q6.size⟩)
      have vD:(tJ.heap.size:Nat)≠Ht.heap.size:=Ne.symm iV
      clear kA kD kA2 kB
      gi_wp2_with fail
      gi_meet
      exact eF.out
     ·refine af rfl rfl (fun K hK=>?_)
      go_simp
      have afy:=lt_of_some KO
      obtain ⟨aet,Hw⟩ : ∃ q,q=Vj.alloc (Obj.cells #[.string ⟨#[]⟩,.string ⟨#[]⟩] 113):=⟨_,rfl⟩
      have Vn:aet.heap[Vj.heap.size]?=some (.cells #[.string ⟨#[]⟩,.string ⟨#[]⟩] 113 (0,0)):=by rw [Hw];exact World.alloc_heap_new _ _
      have Vo:Below Vj.heap.size Vj aet:=by rw [Hw];exact ae _ _
      have aae:=hR9.trans (Vo.mono hR9.size)
      rw [←Hw]
      clear Hw
      have KP:=(Vo.block _ (lt_of_some KO)).trans KO
      refine hK _ _ ⟨aae,?_⟩
      clear hK K
      try simp only [zA,zB,zC,Act.put,zD,zE,zF]
      refine af rfl rfl (fun K hK=>?_)
      go_simp
      refine (mE.out _ (hw.below (nX.out.trans (aae.mono nX.out.size)))).mono ?_
      rintro e ahr ⟨rfl,Nk⟩
      have acR:=aae.trans (Nk.mono aae.size)
      have Dl:=(Nk.block _ (lt_of_some KP)).trans KP
      have FO:=(Nk.block _ (lt_of_some Vn)).trans Vn
      refine hK _ _ ⟨acR,?_⟩
      clear hK K
      try simp only [zA,zB,zC,Act.put,zD,zE,zF]
      obtain ⟨_,_,_,_⟩:=aj Dl
      refine af rfl rfl (fun K hK=>?_)
      go_simp
      refine hK _ _ ⟨(acR.setCell (p:=⟨_,0,none⟩) eY.size _).setCell (p:=⟨_,1,none⟩) eY.size _,?_⟩
      clear hK K
      try simp only [zA,zB,zC,Act.put,zD,zE,zF]
      unfold bR
      simp only [List.drop_succ_cons,List.drop_zero]
      have iV:(Vj.heap.size:Nat)≠tJ.heap.size:=by
       omega
      have kA:=aV (.string r2) (aU (.string r1) Dl)
      have kD:=aV (.string r4) (aU (.string r1) ((bz (.string r1) (.string r2) iV).trans FO))
      have kA2:=(bz (.string r1) (.string r4) (Ne.symm iV)).trans kA
      have kB:=((((acR).setCell (p:=⟨tJ.heap.size,0,none⟩) eY.size (.string r1)).setCell (p:=⟨tJ.heap.size,1,none⟩) eY.size (.string r2)).setCell (p:=⟨Vj.heap.size,0,none⟩) hR9.size (.string r1)).setCell (p:=⟨Vj.heap.size,1,none⟩) hR9.size (.string r4)
      obtain ⟨_,_,_,_⟩:=aj Dl
      obtain ⟨_,_,_,_⟩:=aj FO
      have eF:=hid (show yS wq (.pointer (some ⟨tJ.heap.size,0,none⟩)) (.pointer (some ⟨Vj.heap.size,0,none⟩)) (.string r1) (.string r2) (.string r1) (.string r4) _ from ⟨_,_,rfl,rfl,kA2,kD,kB,eY.size,hR9.size⟩)
      have vD:(tJ.heap.size:Nat)≠Vj.heap.size:=Ne.symm iV
      clear kA kD kA2 kB
      gi_wp2_with fail
      gi_meet
      exact eF.out
    ·refine af rfl rfl (fun K hK=>?_)
     go_simp
     obtain ⟨Dn,Hy⟩ : ∃ q,q=tJ.alloc (Obj.cells #[.string ⟨#[]⟩,.string ⟨#[]⟩] 113):=⟨_,rfl⟩
     have Dp:Dn.heap[tJ.heap.size]?=some (.cells #[.string ⟨#[]⟩,.string ⟨#[]⟩] 113 (0,0)):=by rw [Hy];exact World.alloc_heap_new _ _
     have acS:Below tJ.heap.size tJ Dn:=by rw [Hy];exact ae _ _
     have Dq:=eY.trans (acS.mono eY.size)
     rw [←Hy]
     clear Hy
     refine hK _ _ ⟨Dq,?_⟩
     clear hK K
     try simp only [zA,zB,zC,Act.put,zD,zE,zF]
     refine dE ?_ ?_
     ·refine af rfl rfl (fun K hK=>?_)
      go_simp
      refine (mE.out _ (hw.below (nX.out.trans (Dq.mono nX.out.size)))).mono ?_
      rintro e Hz ⟨rfl,Vp⟩
      have KQ:=Dq.trans (Vp.mono Dq.size)
      have yT:=(Vp.block _ (lt_of_some Dp)).trans Dp
      refine hK _ _ ⟨KQ,?_⟩
      clear hK K
      try simp only [zA,zB,zC,Act.put,zD,zE,zF]
      refine af rfl rfl (fun K hK=>?_)
      go_simp
      have afz:=lt_of_some yT
      obtain ⟨aeu,H5⟩ : ∃ q,q=Hz.alloc (Obj.cells #[.string ⟨#[]⟩,.string ⟨#[]⟩] 113):=⟨_,rfl⟩
      have Nl:aeu.heap[Hz.heap.size]?=some (.cells #[.string ⟨#[]⟩,.string ⟨#[]⟩] 113 (0,0)):=by rw [H5];exact World.alloc_heap_new _ _
      have Vq:Below Hz.heap.size Hz aeu:=by rw [H5];exact ae _ _
      have acT:=KQ.trans (Vq.mono KQ.size)
      rw [←H5]
      clear H5
      have FP:=(Vq.block _ (lt_of_some yT)).trans yT
      refine hK _ _ ⟨acT,?_⟩
      clear hK K
      try simp only [zA,zB,zC,Act.put,zD,zE,zF]
      obtain ⟨_,_,_,_⟩:=aj Nl
      refine af rfl rfl (fun K hK=>?_)
      go_simp
      refine hK _ _ ⟨(acT.setCell (p:=⟨_,0,none⟩) KQ.size _).setCell (p:=⟨_,1,none⟩) KQ.size _,?_⟩
      clear hK K
      try simp only [zA,zB,zC,Act.put,zD,zE,zF]
      unfold bR
      simp only [List.drop_succ_cons,List.drop_zero]
      have iV:(tJ.heap.size:Nat)≠Hz.heap.size:=by
       omega
      have kA:=aV (.string r2) (aU (.string r1) Nl)
      have kD:=aV (.string r4) (aU (.string r1) ((bz (.string r1) (.string r2) iV).trans FP))
      have kA2:=(bz (.string r1) (.string r4) (Ne.symm iV)).trans kA
      have kB:=((((acT).setCell (p:=⟨Hz.heap.size,0,none⟩) KQ.size (.string r1)).setCell (p:=⟨Hz.heap.size,1,none⟩) KQ.size (.string r2)).setCell (p:=⟨tJ.heap.size,0,none⟩) eY.size (.string r1)).setCell (p:=⟨tJ.heap.size,1,none⟩) eY.size (.string r4)
      obtain ⟨_,_,_,_⟩:=aj Nl
      obtain ⟨_,_,_,_⟩:=aj FP
      have eF:=hid (show yS wq (.pointer (some ⟨Hz.heap.size,0,none⟩)) (.pointer (some ⟨tJ.heap.size,0,none⟩)) (.string r1) (.string r2) (.string r1) (.string r4) _ from ⟨_,_,rfl,rfl,kA2,kD,kB,KQ.size,eY.size⟩)
      have vD:(Hz.heap.size:Nat)≠tJ.heap.size:=Ne.symm iV
      clear kA kD kA2 kB
      gi_wp2_with fail
      gi_meet
      exact eF.out
     ·refine af rfl rfl (fun K hK=>?_)
      go_simp
      have afA:=lt_of_some Dp
      obtain ⟨aev,H7⟩ : ∃ q,q=Dn.alloc (Obj.cells #[.string ⟨#[]⟩,.string ⟨#[]⟩] 113):=⟨_,rfl⟩
      have Vr:aev.heap[Dn.heap.size]?=some (.cells #[.string ⟨#[]⟩,.string ⟨#[]⟩] 113 (0,0)):=by rw [H7];exact World.alloc_heap_new _ _
      have Vs:Below Dn.heap.size Dn aev:=by rw [H7];exact ae _ _
      have aaf:=Dq.trans (Vs.mono Dq.size)
      rw [←H7]
      clear H7
      have FQ:=(Vs.block _ (lt_of_some Dp)).trans Dp
      refine hK _ _ ⟨aaf,?_⟩
      clear hK K
      try simp only [zA,zB,zC,Act.put,zD,zE,zF]
      refine af rfl rfl (fun K hK=>?_)
      go_simp
      refine (mE.out _ (hw.below (nX.out.trans (aaf.mono nX.out.size)))).mono ?_
      rintro e ahs ⟨rfl,Nn⟩
      have acU:=aaf.trans (Nn.mono aaf.size)
      have FR:=(Nn.block _ (lt_of_some FQ)).trans FQ
      have yU:=(Nn.block _ (lt_of_some Vr)).trans Vr
      refine hK _ _ ⟨acU,?_⟩
      clear hK K
      try simp only [zA,zB,zC,Act.put,zD,zE,zF]
      obtain ⟨_,_,_,_⟩:=aj yU
      refine af rfl rfl (fun K hK=>?_)
      go_simp
      refine hK _ _ ⟨(acU.setCell (p:=⟨_,0,none⟩) Dq.size _).setCell (p:=⟨_,1,none⟩) Dq.size _,?_⟩
      clear hK K
      try simp only [zA,zB,zC,Act.put,zD,zE,zF]
      unfold bR
      simp only [List.drop_succ_cons,List.drop_zero]
      have iV:(tJ.heap.size:Nat)≠Dn.heap.size:=by
       omega
      have kA:=aV (.string r2) (aU (.string r1) yU)
      have kD:=aV (.string r4) (aU (.string r1) ((bz (.string r1) (.string r2) iV).trans FR))
      have kA2:=(bz (.string r1) (.string r4) (Ne.symm iV)).trans kA
      have kB:=((((acU).setCell (p:=⟨Dn.heap.size,0,none⟩) Dq.size (.string r1)).setCell (p:=⟨Dn.heap.size,1,none⟩) Dq.size (.string r2)).setCell (p:=⟨tJ.heap.size,0,none⟩) eY.size (.string r1)).setCell (p:=⟨tJ.heap.size,1,none⟩) eY.size (.string r4)
      obtain ⟨_,_,_,_⟩:=aj yU
      obtain ⟨_,_,_,_⟩:=aj FR
      have eF:=hid (show yS wq (.pointer (some ⟨Dn.heap.size,0,none⟩)) (.pointer (some ⟨tJ.heap.size,0,none⟩)) (.string r1) (.string r2) (.string r1) (.string r4) _ from ⟨_,_,rfl,rfl,kA2,kD,kB,Dq.size,eY.size⟩)
      have vD:(Dn.heap.size:Nat)≠tJ.heap.size:=Ne.symm iV
      clear kA kD kA2 kB
      gi_wp2_with fail
      gi_meet
      exact eF.out
   ·refine af rfl rfl (fun K hK=>?_)
    go_simp
    obtain ⟨Dr,H8⟩ : ∃ q,q=nz.alloc (Obj.cells #[.string ⟨#[]⟩,.string ⟨#[]⟩] 113):=⟨_,rfl⟩
    have Dt:Dr.heap[nz.heap.size]?=some (.cells #[.string ⟨#[]⟩,.string ⟨#[]⟩] 113 (0,0)):=by rw [H8];exact World.alloc_heap_new _ _
    have acV:Below nz.heap.size nz Dr:=by rw [H8];exact ae _ _
    have H9:=hR0.trans (acV.mono hR0.size)
    rw [←H8]
    clear H8
    refine hK _ _ ⟨H9,?_⟩
    clear hK K
    try simp only [zA,zB,zC,Act.put,zD,zE,zF]
    refine dE ?_ ?_
    ·refine af rfl rfl (fun K hK=>?_)
     go_simp
     refine (ZC.out _ (hw.below (nX.out.trans (H9.mono nX.out.size)))).mono ?_
     rintro e Ia ⟨rfl,Vt⟩
     have Ib:=H9.trans (Vt.mono H9.size)
     have oJ:=(Vt.block _ (lt_of_some Dt)).trans Dt
     refine hK _ _ ⟨Ib,?_⟩
     clear hK K
     try simp only [zA,zB,zC,Act.put,zD,zE,zF]
     refine dE ?_ ?_
     ·refine af rfl rfl (fun K hK=>?_)
      go_simp
      refine (mE.out _ (hw.below (nX.out.trans (Ib.mono nX.out.size)))).mono ?_
      rintro e Ic ⟨rfl,Vu⟩
      have Q7:=Ib.trans (Vu.mono Ib.size)
      have yV:=(Vu.block _ (lt_of_some oJ)).trans oJ
      refine hK _ _ ⟨Q7,?_⟩
      clear hK K
      try simp only [zA,zB,zC,Act.put,zD,zE,zF]
      refine af rfl rfl (fun K hK=>?_)
      go_simp
      have afB:=lt_of_some yV
      obtain ⟨aew,Ie⟩ : ∃ q,q=Ic.alloc (Obj.cells #[.string ⟨#[]⟩,.string ⟨#[]⟩] 113):=⟨_,rfl⟩
      have Vv:aew.heap[Ic.heap.size]?=some (.cells #[.string ⟨#[]⟩,.string ⟨#[]⟩] 113 (0,0)):=by rw [Ie];exact World.alloc_heap_new _ _
      have Vw:Below Ic.heap.size Ic aew:=by rw [Ie];exact ae _ _
      have acW:=Q7.trans (Vw.mono Q7.size)
      rw [←Ie]
      clear Ie
      have yX:=(Vw.block _ (lt_of_some yV)).trans yV
      refine hK _ _ ⟨acW,?_⟩
      clear hK K
      try simp only [zA,zB,zC,Act.put,zD,zE,zF]
      obtain ⟨_,_,_,_⟩:=aj yX
      refine af rfl rfl (fun K hK=>?_)
      go_simp
      refine hK _ _ ⟨(acW.setCell (p:=⟨_,0,none⟩) hR0.size _).setCell (p:=⟨_,1,none⟩) hR0.size _,?_⟩
      clear hK K
      try simp only [zA,zB,zC,Act.put,zD,zE,zF]
      unfold bR
      simp only [List.drop_succ_cons,List.drop_zero]
      have iV:(Ic.heap.size:Nat)≠nz.heap.size:=by
       omega
      have kA:=aV (.string r2) (aU (.string r1) yX)
      have kD:=aV (.string r4) (aU (.string r1) ((bz (.string r1) (.string r2) iV).trans Vv))
      have kA2:=(bz (.string r1) (.string r4) (Ne.symm iV)).trans kA
      have kB:=((((acW).setCell (p:=⟨nz.heap.size,0,none⟩) hR0.size (.string r1)).setCell (p:=⟨nz.heap.size,1,none⟩) hR0.size (.string r2)).setCell (p:=⟨Ic.heap.size,0,none⟩) Q7.size (.string r1)).setCell (p:=⟨Ic.heap.size,1,none⟩) Q7.size (.string r4)
      obtain ⟨_,_,_,_⟩:=aj yX
      obtain ⟨_,_,_,_⟩:=aj Vv
      have eF:=hid (show yS wq (.pointer (some ⟨nz.heap.size,0,none⟩)) (.pointer (some ⟨Ic.heap.size,0,none⟩)) (.string r1) (.string r2) (.string r1) (.string r4) _ from ⟨_,_,rfl,rfl,kA2,kD,kB,hR0.size,Q7.size⟩)
      have vD:(nz.heap.size:Nat)≠Ic.heap.size:=Ne.symm iV
      clear kA kD kA2 kB
      gi_wp2_with fail
      gi_meet
      exact eF.out
     ·refine af rfl rfl (fun K hK=>?_)
      go_simp
      have afC:=lt_of_some oJ
      obtain ⟨aex,Ig⟩ : ∃ q,q=Ia.alloc (Obj.cells #[.string ⟨#[]⟩,.string ⟨#[]⟩] 113):=⟨_,rfl⟩
      have Vx:aex.heap[Ia.heap.size]?=some (.cells #[.string ⟨#[]⟩,.string ⟨#[]⟩] 113 (0,0)):=by rw [Ig];exact World.alloc_heap_new _ _
      have Vy:Below Ia.heap.size Ia aex:=by rw [Ig];exact ae _ _
      have aag:=Ib.trans (Vy.mono Ib.size)
      rw [←Ig]
      clear Ig
      have FT:=(Vy.block _ (lt_of_some oJ)).trans oJ
      refine hK _ _ ⟨aag,?_⟩
      clear hK K
      try simp only [zA,zB,zC,Act.put,zD,zE,zF]
      refine af rfl rfl (fun K hK=>?_)
      go_simp
      refine (mE.out _ (hw.below (nX.out.trans (aag.mono nX.out.size)))).mono ?_
      rintro e aht ⟨rfl,Np⟩
      have acX:=aag.trans (Np.mono aag.size)
      have yY:=(Np.block _ (lt_of_some FT)).trans FT
      have FU:=(Np.block _ (lt_of_some Vx)).trans Vx
      refine hK _ _ ⟨acX,?_⟩
      clear hK K
      try simp only [zA,zB,zC,Act.put,zD,zE,zF]
      obtain ⟨_,_,_,_⟩:=aj yY
      refine af rfl rfl (fun K hK=>?_)
      go_simp
      refine hK _ _ ⟨(acX.setCell (p:=⟨_,0,none⟩) hR0.size _).setCell (p:=⟨_,1,none⟩) hR0.size _,?_⟩
      clear hK K
      try simp only [zA,zB,zC,Act.put,zD,zE,zF]
      unfold bR
      simp only [List.drop_succ_cons,List.drop_zero]
      have iV:(Ia.heap.size:Nat)≠nz.heap.size:=by
       omega
      have kA:=aV (.string r2) (aU (.string r1) yY)
      have kD:=aV (.string r4) (aU (.string r1) ((bz (.string r1) (.string r2) iV).trans FU))
      have kA2:=(bz (.string r1) (.string r4) (Ne.symm iV)).trans kA
      have kB:=((((acX).setCell (p:=⟨nz.heap.size,0,none⟩) hR0.size (.string r1)).setCell (p:=⟨nz.heap.size,1,none⟩) hR0.size (.string r2)).setCell (p:=⟨Ia.heap.size,0,none⟩) Ib.size (.string r1)).setCell (p:=⟨Ia.heap.size,1,none⟩) Ib.size (.string r4)
      obtain ⟨_,_,_,_⟩:=aj yY
      obtain ⟨_,_,_,_⟩:=aj FU
      have eF:=hid (show yS wq (.pointer (some ⟨nz.heap.size,0,none⟩)) (.pointer (some ⟨Ia.heap.size,0,none⟩)) (.string r1) (.string r2) (.string r1) (.string r4) _ from ⟨_,_,rfl,rfl,kA2,kD,kB,hR0.size,Ib.size⟩)
      have vD:(nz.heap.size:Nat)≠Ia.heap.size:=Ne.symm iV
      clear kA kD kA2 kB
      gi_wp2_with fail
      gi_meet
      exact eF.out
    ·refine af rfl rfl (fun K hK=>?_)
     go_simp
     have afD:=lt_of_some Dt
     obtain ⟨aey,Ih⟩ : ∃ q,q=Dr.alloc (Obj.cells #[.string ⟨#[]⟩,.string ⟨#[]⟩] 113):=⟨_,rfl⟩
     have Vz:aey.heap[Dr.heap.size]?=some (.cells #[.string ⟨#[]⟩,.string ⟨#[]⟩] 113 (0,0)):=by rw [Ih];exact World.alloc_heap_new _ _
     have VA:Below Dr.heap.size Dr aey:=by rw [Ih];exact ae _ _
     have aah:=H9.trans (VA.mono H9.size)
     rw [←Ih]
     clear Ih
     have FV:=(VA.block _ (lt_of_some Dt)).trans Dt
     refine hK _ _ ⟨aah,?_⟩
     clear hK K
     try simp only [zA,zB,zC,Act.put,zD,zE,zF]
     refine af rfl rfl (fun K hK=>?_)
     go_simp
     refine (ZC.out _ (hw.below (nX.out.trans (aah.mono nX.out.size)))).mono ?_
     rintro e ahu ⟨rfl,Nq⟩
     have aai:=aah.trans (Nq.mono aah.size)
     have FW:=(Nq.block _ (lt_of_some FV)).trans FV
     have FX:=(Nq.block _ (lt_of_some Vz)).trans Vz
     refine hK _ _ ⟨aai,?_⟩
     clear hK K
     try simp only [zA,zB,zC,Act.put,zD,zE,zF]
     refine af rfl rfl (fun K hK=>?_)
     go_simp
     refine (mE.out _ (hw.below (nX.out.trans (aai.mono nX.out.size)))).mono ?_
     rintro e ahv ⟨rfl,Nr⟩
     have acY:=aai.trans (Nr.mono aai.size)
     have yZ:=(Nr.block _ (lt_of_some FW)).trans FW
     have FY:=(Nr.block _ (lt_of_some FX)).trans FX
     refine hK _ _ ⟨acY,?_⟩
     clear hK K
     try simp only [zA,zB,zC,Act.put,zD,zE,zF]
     obtain ⟨_,_,_,_⟩:=aj yZ
     refine af rfl rfl (fun K hK=>?_)
     go_simp
     refine hK _ _ ⟨(acY.setCell (p:=⟨_,0,none⟩) hR0.size _).setCell (p:=⟨_,1,none⟩) hR0.size _,?_⟩
     clear hK K
     try simp only [zA,zB,zC,Act.put,zD,zE,zF]
     unfold bR
     simp only [List.drop_succ_cons,List.drop_zero]
     have iV:(Dr.heap.size:Nat)≠nz.heap.size:=by
      omega
     have kA:=aV (.string r2) (aU (.string r1) yZ)
     have kD:=aV (.string r4) (aU (.string r1) ((bz (.string r1) (.string r2) iV).trans FY))
     have kA2:=(bz (.string r1) (.string r4) (Ne.symm iV)).trans kA
     have kB:=((((acY).setCell (p:=⟨nz.heap.size,0,none⟩) hR0.size (.string r1)).setCell (p:=⟨nz.heap.size,1,none⟩) hR0.size (.string r2)).setCell (p:=⟨Dr.heap.size,0,none⟩) H9.size (.string r1)).setCell (p:=⟨Dr.heap.size,1,none⟩) H9.size (.string r4)
     obtain ⟨_,_,_,_⟩:=aj yZ
     obtain ⟨_,_,_,_⟩:=aj FY
     have eF:=hid (show yS wq (.pointer (some ⟨nz.heap.size,0,none⟩)) (.pointer (some ⟨Dr.heap.size,0,none⟩)) (.string r1) (.string r2) (.string r1) (.string r4) _ from ⟨_,_,rfl,rfl,kA2,kD,kB,hR0.size,H9.size⟩)
     have vD:(nz.heap.size:Nat)≠Dr.heap.size:=Ne.symm iV
     clear kA kD kA2 kB
     gi_wp2_with fail
     gi_meet
     exact eF.out
   ·refine af rfl rfl (fun K hK=>?_)
    go_simp
    obtain ⟨Du,Ii⟩ : ∃ q,q=nz.alloc (Obj.cells #[.string ⟨#[]⟩,.string ⟨#[]⟩] 113):=⟨_,rfl⟩
    have Dv:Du.heap[nz.heap.size]?=some (.cells #[.string ⟨#[]⟩,.string ⟨#[]⟩] 113 (0,0)):=by rw [Ii];exact World.alloc_heap_new _ _
    have acZ:Below nz.heap.size nz Du:=by rw [Ii];exact ae _ _
    have Dw:=hR0.trans (acZ.mono hR0.size)
    rw [←Ii]
    clear Ii
    refine hK _ _ ⟨Dw,?_⟩
    clear hK K
    try simp only [zA,zB,zC,Act.put,zD,zE,zF]
    refine dE ?_ ?_
    ·refine af rfl rfl (fun K hK=>?_)
     go_simp
     refine (ZC.out _ (hw.below (nX.out.trans (Dw.mono nX.out.size)))).mono ?_
     rintro e Ij ⟨rfl,VB⟩
     have Dx:=Dw.trans (VB.mono Dw.size)
     have oK:=(VB.block _ (lt_of_some Dv)).trans Dv
     refine hK _ _ ⟨Dx,?_⟩
     clear hK K
     try simp only [zA,zB,zC,Act.put,zD,zE,zF]
     refine dE ?_ ?_
     ·refine af rfl rfl (fun K hK=>?_)
      go_simp
      refine (mE.out _ (hw.below (nX.out.trans (Dx.mono nX.out.size)))).mono ?_
      rintro e Ik ⟨rfl,VC⟩
      have KR:=Dx.trans (VC.mono Dx.size)
      have y7:=(VC.block _ (lt_of_some oK)).trans oK
      refine hK _ _ ⟨KR,?_⟩
      clear hK K
      try simp only [zA,zB,zC,Act.put,zD,zE,zF]
      refine af rfl rfl (fun K hK=>?_)
      go_simp
      have afE:=lt_of_some y7
      obtain ⟨aez,Il⟩ : ∃ q,q=Ik.alloc (Obj.cells #[.string ⟨#[]⟩,.string ⟨#[]⟩] 113):=⟨_,rfl⟩
      have Ns:aez.heap[Ik.heap.size]?=some (.cells #[.string ⟨#[]⟩,.string ⟨#[]⟩] 113 (0,0)):=by rw [Il];exact World.alloc_heap_new _ _
      have VD:Below Ik.heap.size Ik aez:=by rw [Il];exact ae _ _
      have ac0:=KR.trans (VD.mono KR.size)
      rw [←Il]
      clear Il
      have FZ:=(VD.block _ (lt_of_some y7)).trans y7
      refine hK _ _ ⟨ac0,?_⟩
      clear hK K
      try simp only [zA,zB,zC,Act.put,zD,zE,zF]
      obtain ⟨_,_,_,_⟩:=aj Ns
      refine af rfl rfl (fun K hK=>?_)
      go_simp
      refine hK _ _ ⟨(ac0.setCell (p:=⟨_,0,none⟩) KR.size _).setCell (p:=⟨_,1,none⟩) KR.size _,?_⟩
      clear hK K
      try simp only [zA,zB,zC,Act.put,zD,zE,zF]
      unfold bR
      simp only [List.drop_succ_cons,List.drop_zero]
      have iV:(nz.heap.size:Nat)≠Ik.heap.size:=by
       omega
      have kA:=aV (.string r2) (aU (.string r1) Ns)
      have kD:=aV (.string r4) (aU (.string r1) ((bz (.string r1) (.string r2) iV).trans FZ))
      have kA2:=(bz (.string r1) (.string r4) (Ne.symm iV)).trans kA
      have kB:=((((ac0).setCell (p:=⟨Ik.heap.size,0,none⟩) KR.size (.string r1)).setCell (p:=⟨Ik.heap.size,1,none⟩) KR.size (.string r2)).setCell (p:=⟨nz.heap.size,0,none⟩) hR0.size (.string r1)).setCell (p:=⟨nz.heap.size,1,none⟩) hR0.size (.string r4)
      obtain ⟨_,_,_,_⟩:=aj Ns
      obtain ⟨_,_,_,_⟩:=aj FZ
      have eF:=hid (show yS wq (.pointer (some ⟨Ik.heap.size,0,none⟩)) (.pointer (some ⟨nz.heap.size,0,none⟩)) (.string r1) (.string r2) (.string r1) (.string r4) _ from ⟨_,_,rfl,rfl,kA2,kD,kB,KR.size,hR0.size⟩)
      have vD:(Ik.heap.size:Nat)≠nz.heap.size:=Ne.symm iV
      clear kA kD kA2 kB
      gi_wp2_with fail
      gi_meet
      exact eF.out
     ·refine af rfl rfl (fun K hK=>?_)
      go_simp
      have afF:=lt_of_some oK
      obtain ⟨aeA,Im⟩ : ∃ q,q=Ij.alloc (Obj.cells #[.string ⟨#[]⟩,.string ⟨#[]⟩] 113):=⟨_,rfl⟩
      have VE:aeA.heap[Ij.heap.size]?=some (.cells #[.string ⟨#[]⟩,.string ⟨#[]⟩] 113 (0,0)):=by rw [Im];exact World.alloc_heap_new _ _
      have VF:Below Ij.heap.size Ij aeA:=by rw [Im];exact ae _ _
      have aaj:=Dx.trans (VF.mono Dx.size)
      rw [←Im]
      clear Im
      have F3:=(VF.block _ (lt_of_some oK)).trans oK
      refine hK _ _ ⟨aaj,?_⟩
      clear hK K
      try simp only [zA,zB,zC,Act.put,zD,zE,zF]
      refine af rfl rfl (fun K hK=>?_)
      go_simp
      refine (mE.out _ (hw.below (nX.out.trans (aaj.mono nX.out.size)))).mono ?_
      rintro e ahw ⟨rfl,Nt⟩
      have ac1:=aaj.trans (Nt.mono aaj.size)
      have F4:=(Nt.block _ (lt_of_some F3)).trans F3
      have y8:=(Nt.block _ (lt_of_some VE)).trans VE
      refine hK _ _ ⟨ac1,?_⟩
      clear hK K
      try simp only [zA,zB,zC,Act.put,zD,zE,zF]
      obtain ⟨_,_,_,_⟩:=aj y8
      refine af rfl rfl (fun K hK=>?_)
      go_simp
      refine hK _ _ ⟨(ac1.setCell (p:=⟨_,0,none⟩) Dx.size _).setCell (p:=⟨_,1,none⟩) Dx.size _,?_⟩
      clear hK K
      try simp only [zA,zB,zC,Act.put,zD,zE,zF]
      unfold bR
      simp only [List.drop_succ_cons,List.drop_zero]
      have iV:(nz.heap.size:Nat)≠Ij.heap.size:=by
       omega
      have kA:=aV (.string r2) (aU (.string r1) y8)
      have kD:=aV (.string r4) (aU (.string r1) ((bz (.string r1) (.string r2) iV).trans F4))
      have kA2:=(bz (.string r1) (.string r4) (Ne.symm iV)).trans kA
      have kB:=((((ac1).setCell (p:=⟨Ij.heap.size,0,none⟩) Dx.size (.string r1)).setCell (p:=⟨Ij.heap.size,1,none⟩) Dx.size (.string r2)).setCell (p:=⟨nz.heap.size,0,none⟩) hR0.size (.string r1)).setCell (p:=⟨nz.heap.size,1,none⟩) hR0.size (.string r4)
      obtain ⟨_,_,_,_⟩:=aj y8
      obtain ⟨_,_,_,_⟩:=aj F4
      have eF:=hid (show yS wq (.pointer (some ⟨Ij.heap.size,0,none⟩)) (.pointer (some ⟨nz.heap.size,0,none⟩)) (.string r1) (.string r2) (.string r1) (.string r4) _ from ⟨_,_,rfl,rfl,kA2,kD,kB,Dx.size,hR0.size⟩)
      have vD:(Ij.heap.size:Nat)≠nz.heap.size:=Ne.symm iV
      clear kA kD kA2 kB
      gi_wp2_with fail
      gi_meet
      exact eF.out
    ·refine af rfl rfl (fun K hK=>?_)
     go_simp
     have afG:=lt_of_some Dv
     obtain ⟨aeB,Io⟩ : ∃ q,q=Du.alloc (Obj.cells #[.string ⟨#[]⟩,.string ⟨#[]⟩] 113):=⟨_,rfl⟩
     have VG:aeB.heap[Du.heap.size]?=some (.cells #[.string ⟨#[]⟩,.string ⟨#[]⟩] 113 (0,0)):=by rw [Io];exact World.alloc_heap_new _ _
     have VH:Below Du.heap.size Du aeB:=by rw [Io];exact ae _ _
     have aak:=Dw.trans (VH.mono Dw.size)
     rw [←Io]
     clear Io
     have F5:=(VH.block _ (lt_of_some Dv)).trans Dv
     refine hK _ _ ⟨aak,?_⟩
     clear hK K
     try simp only [zA,zB,zC,Act.put,zD,zE,zF]
     refine af rfl rfl (fun K hK=>?_)
     go_simp
     refine (ZC.out _ (hw.below (nX.out.trans (aak.mono nX.out.size)))).mono ?_
     rintro e ahx ⟨rfl,Nu⟩
     have aal:=aak.trans (Nu.mono aak.size)
     have F6:=(Nu.block _ (lt_of_some F5)).trans F5
     have F7:=(Nu.block _ (lt_of_some VG)).trans VG
     refine hK _ _ ⟨aal,?_⟩
     clear hK K
     try simp only [zA,zB,zC,Act.put,zD,zE,zF]
     refine af rfl rfl (fun K hK=>?_)
     go_simp
     refine (mE.out _ (hw.below (nX.out.trans (aal.mono nX.out.size)))).mono ?_
     rintro e ahy ⟨rfl,Nv⟩
     have ac2:=aal.trans (Nv.mono aal.size)
     have F8:=(Nv.block _ (lt_of_some F6)).trans F6
     have y9:=(Nv.block _ (lt_of_some F7)).trans F7
     refine hK _ _ ⟨ac2,?_⟩
     clear hK K
     try simp only [zA,zB,zC,Act.put,zD,zE,zF]
     obtain ⟨_,_,_,_⟩:=aj y9
     refine af rfl rfl (fun K hK=>?_)
     go_simp
     refine hK _ _ ⟨(ac2.setCell (p:=⟨_,0,none⟩) Dw.size _).setCell (p:=⟨_,1,none⟩) Dw.size _,?_⟩
     clear hK K
     try simp only [zA,zB,zC,Act.put,zD,zE,zF]
     unfold bR
     simp only [List.drop_succ_cons,List.drop_zero]
     have iV:(nz.heap.size:Nat)≠Du.heap.size:=by
      omega
     have kA:=aV (.string r2) (aU (.string r1) y9)
     have kD:=aV (.string r4) (aU (.string r1) ((bz (.string r1) (.string r2) iV).trans F8))
     have kA2:=(bz (.string r1) (.string r4) (Ne.symm iV)).trans kA
     have kB:=((((ac2).setCell (p:=⟨Du.heap.size,0,none⟩) Dw.size (.string r1)).setCell (p:=⟨Du.heap.size,1,none⟩) Dw.size (.string r2)).setCell (p:=⟨nz.heap.size,0,none⟩) hR0.size (.string r1)).setCell (p:=⟨nz.heap.size,1,none⟩) hR0.size (.string r4)
     obtain ⟨_,_,_,_⟩:=aj y9
     obtain ⟨_,_,_,_⟩:=aj F8
     have eF:=hid (show yS wq (.pointer (some ⟨Du.heap.size,0,none⟩)) (.pointer (some ⟨nz.heap.size,0,none⟩)) (.string r1) (.string r2) (.string r1) (.string r4) _ from ⟨_,_,rfl,rfl,kA2,kD,kB,Dw.size,hR0.size⟩)
     have vD:(Du.heap.size:Nat)≠nz.heap.size:=Ne.symm iV
     clear kA kD kA2 kB
     gi_wp2_with fail
     gi_meet
     exact eF.out
  case rest =>
  obtain ⟨C1,C2,rfl,rfl,hC,hF,O7,hgC,hgF⟩:=hcut
  obtain ⟨wm,hwm⟩ : ∃ q,q=wc:=⟨_,rfl⟩
  subst hwm
  have aeC:=hid (nX.out.trans (O7.mono nX.out.size))
  have ZM:=hid (dh HJ.out HJQ.out O7)
  have Ep:=hid hC
  have YZ:=hid hF
  have HEM:=hid (aeq.out.below O7)
  have HK2:=hid HEM.out.hk
  have HGK:=hid HEM.out.ge.2.2.2.2.2.1
  have hz:=(O7.block _ (aa HZQ.out)).trans HZQ.out
  have aeD:=hid hz
  have ha:=(O7.block _ (aa HA2.out)).trans HA2.out
  have HA9:=hid ((O7.block _ (aa HD2.out)).trans HD2.out)
  have agr:=hid (show N0≤bq by have:=HGQ.out;have:=E8.out.size;have:=HN0.out;omega)
  have HGA:=hid (show N0≤A9 by have:=agm.out.2;have:=HN0.out;omega)
  have HGC:=hid (show N0≤C1∧N0≤C2 by have:=nX.out.size;have:=HN0.out;omega)
  obtain ⟨q0,q1,q2,q3,q4,q5,q6,q7⟩:=rV hz
  obtain ⟨y0,y1,_,_⟩:=aj hC
  obtain ⟨x0,x1,_,_⟩:=aj hF
  obtain ⟨m0,_,_⟩:=az ha
  have k0:=bL HEM.out.hk
  have lq:=aa hz
  have lc:=aa hC
  have ld:=aa hF
  have lk:=aa HEM.out.hk
  have lA:=aa ha
  clear hC hF O7 hgC hgF hz ha heq n0 n1 n2
  gi_upto_region 9 with fail
  have kL:=hid (fun W' (hS':Below wm.heap.size wm W')=>And.intro ((hS'.cell (p:=⟨Bk,0,none⟩) lk).trans k0) (And.intro ((hS'.cell (p:=⟨A8,0,none⟩) lA).trans m0) (And.intro ((hS'.cell (p:=⟨bq,0,none⟩) lq).trans q0) (And.intro ((hS'.cell (p:=⟨bq,1,none⟩) lq).trans q1) (And.intro ((hS'.cell (p:=⟨bq,2,none⟩) lq).trans q2) (And.intro ((hS'.cell (p:=⟨bq,3,none⟩) lq).trans q3) (And.intro ((hS'.cell (p:=⟨bq,4,none⟩) lq).trans q4) (And.intro ((hS'.cell (p:=⟨bq,5,none⟩) lq).trans q5) (And.intro ((hS'.cell (p:=⟨bq,6,none⟩) lq).trans q6) (And.intro ((hS'.cell (p:=⟨bq,7,none⟩) lq).trans q7) (And.intro ((hS'.cell (p:=⟨C1,0,none⟩) lc).trans y0) (And.intro ((hS'.cell (p:=⟨C1,1,none⟩) lc).trans y1) (And.intro ((hS'.cell (p:=⟨C2,0,none⟩) ld).trans x0) ((hS'.cell (p:=⟨C2,1,none⟩) ld).trans x1))))))))))))))
  refine bN bT (fun W'=>Below wm.heap.size wm W') (.take 0 (.take 1 (.take 2 (.take 3 (.take 4 (.take 5 (.take 6 (.take 7 (.take 8 (.take 9 (.take 10 (.take 11 (.one 12 (.take 13 (.take 14 .fin))))))))))))))) 15 (by kernel_rfl) (by kernel_rfl) (by kernel_rfl) ⟨rfl,rfl,rfl,Nat.le_refl _,fun _ _=>rfl⟩ ?_
  have hS0:Below wm.heap.size wm wm.drew:=⟨rfl,rfl,rfl,Nat.le_refl _,fun _ _=>rfl⟩
  generalize wm.drew=sv0 at *
  iterate 12
   refine aF rfl ?_ rfl ?_ ?_
   rotate_left
   ·intro W' hS'
    obtain ⟨s0,s1,s2,s3,s4,s5,s6,s7,s8,s9,s10,s11,s12,s13⟩:=kL.out _ hS'
    go_simp
    try with_reducible rfl
   try simp only [zA,zB,zC,Act.put,zD,zE,zF]
  refine af rfl rfl (fun K hK=>?_)
  go_simp
  obtain ⟨sv1,O8⟩ : ∃ q,q=sv0.alloc (Obj.cells #[.string tA,.string p1,.string r1,.string r2,.string r1,.string r4,.string tA,.string p4] 113):=⟨_,rfl⟩
  have Cz:sv1.heap[sv0.heap.size]?=some (.cells #[.string tA,.string p1,.string r1,.string r2,.string r1,.string r4,.string tA,.string p4] 113 (0,0)):=by rw [O8];exact World.alloc_heap_new _ _
  have Ur:Below sv0.heap.size sv0 sv1:=by rw [O8];exact ae _ _
  have hS1:=hS0.trans (Ur.mono hS0.size)
  rw [←O8]
  clear O8
  refine hK _ _ ⟨hS1,?_⟩
  clear hK K
  try simp only [zA,zB,zC,Act.put,zD,zE,zF]
  iterate 2
   refine aF rfl ?_ rfl ?_ ?_
   rotate_left
   ·intro W' hS'
    obtain ⟨s0,s1,s2,s3,s4,s5,s6,s7,s8,s9,s10,s11,s12,s13⟩:=kL.out _ hS'
    go_simp
    try with_reducible rfl
   try simp only [zA,zB,zC,Act.put,zD,zE,zF]
  unfold bR
  simp only [List.drop_succ_cons,List.drop_zero]
  have LG:=aeC.out.trans (hS1.mono aeC.out.size)
  have QZ:=hid (show ∃ x,(aC P k s)[0]?=some x∧qx x (.agg #[.int .i64 (k:Int),.string u1,.slice (some ⟨sv0.heap.size,0,none⟩) 4 4,.bool false]) sv1 from ⟨_,acO.out,mh rfl HU1.out rfl agj.out Cz (by decide)⟩)
  have hJv:J 0 sv1:=dh HJ.out ZM.out hS1
  obtain ⟨fn,tmps,assign,body,hy,hR⟩:=HY.out 0 (by rw [Q3.out];decide) _ sv1 hJv QZ.out
  have HB1:=hid LG
  have HSN:=hid hS1
  clear hJv LG k0 m0 q0 q1 q2 q3 q4 q5 q6 q7 y0 y1 x0 x1
  gi_wp2
  refine hR.mono ?_
  rintro e W9 (⟨rfl,CE,RS⟩ | ⟨rfl,pR⟩)
  ·have HJ1:=hid CE
   have RU:=hid (RS (by rw [Q3.out];decide))
   clear CE RS
   have hq9:=RU.out bq _ agr.out ((HSN.out.block _ (aa aeD.out)).trans aeD.out) rfl
   have hc9:=RU.out C1 _ HGC.out.1 ((HSN.out.block _ (aa Ep.out)).trans Ep.out) rfl
   have hd9:=RU.out C2 _ HGC.out.2 ((HSN.out.block _ (aa YZ.out)).trans YZ.out) rfl
   have RS:=RU.out Bk _ HGK.out ((HSN.out.block _ (aa HK2.out)).trans HK2.out) rfl
   have ha9:=RU.out A9 _ HGA.out ((HSN.out.block _ (aa HA9.out)).trans HA9.out) rfl
   obtain ⟨q0,q1,q2,q3,q4,q5,q6,q7⟩:=rV hq9
   obtain ⟨y0,y1,_,_⟩:=aj hc9
   obtain ⟨x0,x1,_,_⟩:=aj hd9
   obtain ⟨m0,_,_⟩:=az ha9
   have k0:=bL RS
   have lq:=aa hq9
   have lc:=aa hc9
   have ld:=aa hd9
   have lk:=aa RS
   have lA:=aa ha9
   have aeE:=hid (Below.refl W9.heap.size W9)
   clear hq9 hc9 hd9 RS ha9
   gi_upto_region 10 with fail
   have kL:=hid (fun W' (hS':Below W9.heap.size W9 W')=>And.intro ((hS'.cell (p:=⟨Bk,0,none⟩) lk).trans k0) (And.intro ((hS'.cell (p:=⟨A9,0,none⟩) lA).trans m0) (And.intro ((hS'.cell (p:=⟨bq,0,none⟩) lq).trans q0) (And.intro ((hS'.cell (p:=⟨bq,1,none⟩) lq).trans q1) (And.intro ((hS'.cell (p:=⟨bq,2,none⟩) lq).trans q2) (And.intro ((hS'.cell (p:=⟨bq,3,none⟩) lq).trans q3) (And.intro ((hS'.cell (p:=⟨bq,4,none⟩) lq).trans q4) (And.intro ((hS'.cell (p:=⟨bq,5,none⟩) lq).trans q5) (And.intro ((hS'.cell (p:=⟨bq,6,none⟩) lq).trans q6) (And.intro ((hS'.cell (p:=⟨bq,7,none⟩) lq).trans q7) (And.intro ((hS'.cell (p:=⟨C1,0,none⟩) lc).trans y0) (And.intro ((hS'.cell (p:=⟨C1,1,none⟩) lc).trans y1) (And.intro ((hS'.cell (p:=⟨C2,0,none⟩) ld).trans x0) ((hS'.cell (p:=⟨C2,1,none⟩) ld).trans x1))))))))))))))
   refine bN bT (fun W'=>Below W9.heap.size W9 W') (.take 0 (.take 1 (.take 2 (.take 3 (.take 4 (.take 5 (.take 6 (.take 7 (.take 8 (.take 9 (.take 10 (.take 11 (.one 12 (.take 13 (.take 14 .fin))))))))))))))) 15 (by kernel_rfl) (by kernel_rfl) (by kernel_rfl) ⟨rfl,rfl,rfl,Nat.le_refl _,fun _ _=>rfl⟩ ?_
   have hT0:Below W9.heap.size W9 W9.drew:=⟨rfl,rfl,rfl,Nat.le_refl _,fun _ _=>rfl⟩
   generalize W9.drew=tv0 at *
   iterate 12
    refine aF rfl ?_ rfl ?_ ?_
    rotate_left
    ·intro W' hS'
     obtain ⟨s0,s1,s2,s3,s4,s5,s6,s7,s8,s9,s10,s11,s12,s13⟩:=kL.out _ hS'
     go_simp
     try with_reducible rfl
    try simp only [zA,zB,zC,Act.put,zD,zE,zF]
   refine af rfl rfl (fun K hK=>?_)
   go_simp
   obtain ⟨tv1,O9⟩ : ∃ q,q=tv0.alloc (Obj.cells #[.string r1,.string r2,.string tC,.string p2,.string tC,.string p3,.string r1,.string r4] 113):=⟨_,rfl⟩
   have Cz:tv1.heap[tv0.heap.size]?=some (.cells #[.string r1,.string r2,.string tC,.string p2,.string tC,.string p3,.string r1,.string r4] 113 (0,0)):=by rw [O9];exact World.alloc_heap_new _ _
   have aeF:Below tv0.heap.size tv0 tv1:=by rw [O9];exact ae _ _
   have hT1:=hT0.trans (aeF.mono hT0.size)
   rw [←O9]
   clear O9
   refine hK _ _ ⟨hT1,?_⟩
   clear hK K
   try simp only [zA,zB,zC,Act.put,zD,zE,zF]
   iterate 2
    refine aF rfl ?_ rfl ?_ ?_
    rotate_left
    ·intro W' hS'
     obtain ⟨s0,s1,s2,s3,s4,s5,s6,s7,s8,s9,s10,s11,s12,s13⟩:=kL.out _ hS'
     go_simp
     try with_reducible rfl
    try simp only [zA,zB,zC,Act.put,zD,zE,zF]
   unfold bR
   simp only [List.drop_succ_cons,List.drop_zero]
   have LG:=aeE.out.trans (hT1.mono aeE.out.size)
   have QZ:=hid (show ∃ x,(aC P k s)[1]?=some x∧qx x (.agg #[.int .i64 (k:Int),.string u2,.slice (some ⟨tv0.heap.size,0,none⟩) 4 4,.bool true]) tv1 from ⟨_,agn.out,mh rfl HU2.out rfl Ki.out Cz (by decide)⟩)
   have hJv:J 1 tv1:=dh HJ.out HJ1.out hT1
   obtain ⟨fn,tmps,assign,body,hy,hR⟩:=HY.out 1 (by rw [Q3.out];decide) _ tv1 hJv QZ.out
   clear hJv LG k0 m0 q0 q1 q2 q3 q4 q5 q6 q7 y0 y1 x0 x1
   gi_wp2
   refine hR.mono ?_
   rintro e W8 (⟨rfl,hJ8,_⟩ | ⟨rfl,aeG⟩)
   ·have HJ8:=hid hJ8
    clear hJ8
    gi_wp2
    go_end0
    exact ⟨⟨_,rfl⟩,.inl (by rw [Q3.out];exact HJ8.out)⟩
   ·have HJ8:=hid aeG
    clear aeG
    gi_wp2
    go_end0
    exact ⟨⟨_,rfl⟩,.inr ⟨1,by rw [Q3.out];decide,HJ8.out⟩⟩
  ·have Ay:=hid pR
   clear pR
   gi_wp2
   go_end0
   exact ⟨⟨_,rfl⟩,.inr ⟨0,by rw [Q3.out];decide,Ay.out⟩⟩
end Go.Proofs.YtglncfkoohgdaaaGreatDoor
