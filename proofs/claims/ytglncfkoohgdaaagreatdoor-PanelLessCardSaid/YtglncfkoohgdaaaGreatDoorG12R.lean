import Derived.Test.YtglncfkoohgdaaaGreatDoorG11R
set_option maxRecDepth 100000
set_option maxHeartbeats 8000000
namespace Go.Proofs.YtglncfkoohgdaaaGreatDoor
open Go.RowKit Go.Shelf
open Go.Lib (decDigits itoa nDigits)
open Go.Lib (hid)
attribute [local go_sem] Oper.semAt_some
def acn (w:World) (s5 s6:Value) (a b c d e f:Value) (W:World):Prop:=∃ A D,s5=.pointer (some ⟨A,0,none⟩)∧s6=.pointer (some ⟨D,0,none⟩)∧W.heap[A]?=some (.cells #[a,b,c] 89 (0,0))∧W.heap[D]?=some (.cells #[d,e,f] 89 (0,0))∧Below w.heap.size w W∧w.heap.size≤A∧w.heap.size≤D
def yI (w:World) (s5 s6:Value) (a b c d:Value) (W:World):Prop:=∃ A D,s5=.pointer (some ⟨A,0,none⟩)∧s6=.pointer (some ⟨D,0,none⟩)∧W.heap[A]?=some (.cells #[a,b] 113 (0,0))∧W.heap[D]?=some (.cells #[c,d] 113 (0,0))∧Below w.heap.size w W∧w.heap.size≤A∧w.heap.size≤D
theorem rH {W:World} {B:Nat} {t:TypeId} {a b c d e f g h:Value} (hh:W.heap[B]?=some (.cells #[a,b,c,d,e,f,g,h] t (0,0))) :
  W.cell? ⟨B,0,none⟩=some a∧W.cell? ⟨B,1,none⟩=some b∧W.cell? ⟨B,2,none⟩=some c∧W.cell? ⟨B,3,none⟩=some d∧W.cell? ⟨B,4,none⟩=some e∧W.cell? ⟨B,5,none⟩=some f∧W.cell? ⟨B,6,none⟩=some g∧W.cell? ⟨B,7,none⟩=some h:=by
 refine ⟨by simp [World.cell?,hh],by simp [World.cell?,hh],by simp [World.cell?,hh],by simp [World.cell?,hh],by simp [World.cell?,hh],by simp [World.cell?,hh],by simp [World.cell?,hh],by simp [World.cell?,hh]⟩
theorem rJ {P:dB} {k:Nat} {s:Stp} (h:s.k=1):((ah (ai P k) s.i).u=(ah (ai P (k+1)) s.j).u→aA P k s=[(⟨k,(ah (ai P k) s.i).u,Kh P k (ah (ai P k) s.i) (ah (ai P (k+1)) s.j)⟩,false)]) ∧
  (¬ (ah (ai P k) s.i).u=(ah (ai P (k+1)) s.j).u→aA P k s =
   [(⟨k,(ah (ai P k) s.i).u,[aC P k (ah (ai P k) s.i).b,l9 (aC P k (ah (ai P k) s.i).b) (aC P (k+1) (ah (ai P (k+1)) s.j).b),l9 (aC P k (ah (ai P k) s.i).a) (aC P (k+1) (ah (ai P (k+1)) s.j).a),aC P k (ah (ai P k) s.i).a]⟩,false),
   (⟨k,(ah (ai P (k+1)) s.j).u,[l9 (aC P k (ah (ai P k) s.i).b) (aC P (k+1) (ah (ai P (k+1)) s.j).b),aC P (k+1) (ah (ai P (k+1)) s.j).b,aC P (k+1) (ah (ai P (k+1)) s.j).a,l9 (aC P k (ah (ai P k) s.i).a) (aC P (k+1) (ah (ai P (k+1)) s.j).a)]⟩,true)]):=by
 unfold aA
 rw [if_pos h]
 exact ⟨fun e=>if_pos e,fun e=>if_neg e⟩
theorem bu {W:World} {A D:Nat} (u v:Value) (h:D≠A):((W.setCell ⟨A,0,none⟩ u).setCell ⟨A,1,none⟩ v).heap[D]?=W.heap[D]?:=by
 rw [Below.heap_setCell _ _ _ _ h,Below.heap_setCell _ _ _ _ h]
theorem Nh {N0:Nat} {vg va vt:Value} {P:dB} {k:Nat} {s:Stp} {Bs Bl Br B1 B2 Bk Bp:Nat} {vl vr:Value} (hk:k+1<P.lg.length) (hO:dw P) (hs:s.k=1) (hi:s.i<(ai P k).length) (hj:s.j<(ai P (k+1)).length) (l:Nat) (J Jx:Nat→World→Prop) (W:World) (hw:Good W) (hE:lv N0 vg va vt P k s Bs Bl Br B1 B2 Bk Bp vl vr W)
  (hJ:kN 97 W.heap.size J)
  (hY:∀ i (_:i<(aA P k s).length) v W1,J i W1→(∃ x,(aA P k s)[i]?=some x∧ql x v W1)→YieldAt Fence.wide 8 Tryz.prog l #[v] W1 fun e W'=>(e=.returned (.bool true)∧J (i+1) W'∧(i+1<(aA P k s).length→iM N0 W1 W'))∨(e=.returned (.bool false)∧Jx i W')) (h0:J 0 W) :
  CallsIn Fence.wide 9 Tryz.prog 104 #[.func (.yield l) #[] #[],.pointer (some ⟨Bs,0,none⟩),.pointer (some ⟨Bl,0,none⟩),.pointer (some ⟨Br,0,none⟩),.pointer (some ⟨B1,0,none⟩),.pointer (some ⟨B2,0,none⟩),.pointer (some ⟨Bk,0,none⟩)] W fun e W'=>(∃ v,e=.returned v)∧(J (aA P k s).length W'∨∃ i,i<(aA P k s).length∧Jx i W'):=by
 have KC:=hid (rJ (P:=P) (k:=k) hs)
 have hix:=hO.iv k s.i (by omega) hi
 have hiy:=hO.iv (k+1) s.j hk hj
 have zxa:=hix.1.c4
 have zxb:=hix.2.c4
 have zya:=hiy.1.c4
 have zyb:=hiy.2.c4
 have zat:=(hO.xs k (by omega)).c4
 have aco:=(hO.xs (k+1) hk).c4
 have ztp:=(hO.tp k (by omega)).c4
 have acp:=(hO.tp (k+1) hk).c4
 have Y4:=hid (fun w' (hg:Good w')=>Fx (aC P k (ah (ai P k) s.i).b) (aC P (k+1) (ah (ai P (k+1)) s.j).b) ⟨zat.mono (by decide),(ztp.sub zxb).mono (by decide)⟩ ⟨aco.mono (by decide),(acp.sub zyb).mono (by decide)⟩ w' hg)
 have mF:=hid (fun w' (hg:Good w')=>Fx (aC P k (ah (ai P k) s.i).a) (aC P (k+1) (ah (ai P (k+1)) s.j).a) ⟨zat.mono (by decide),(ztp.sub zxa).mono (by decide)⟩ ⟨aco.mono (by decide),(acp.sub zya).mono (by decide)⟩ w' hg)
 have hue:((us (ah (ai P k) s.i).u).toList == (us (ah (ai P (k+1)) s.j).u).toList)=decide ((ah (ai P k) s.i).u=(ah (ai P (k+1)) s.j).u):=by
  rw [Bool.eq_iff_iff,beq_iff_eq,decide_eq_true_eq,Lib.toList_data,Lib.toList_data]
 have HUE:=hid hue
 have HCQ:=hid (show (#[.string (tx (cZ P k)),.string (tx (bF P k-(ah (ai P k) s.i).b)),.string (tx (cZ P (k+1))),.string (tx (bF P (k+1)-(ah (ai P (k+1)) s.j).b)),.string (tx (cZ P (k+1))),.string (tx (bF P (k+1)-(ah (ai P (k+1)) s.j).a)),.string (tx (cZ P k)),.string (tx (bF P k-(ah (ai P k) s.i).a))]:Array Value).toList=cellsS ((Kh P k (ah (ai P k) s.i) (ah (ai P (k+1)) s.j):List QP).map aQ) from rfl)
 have afW:=hid (show (#[.string (tx (cZ P k)),.string (tx (bF P k-(ah (ai P k) s.i).b)),.string (tx ((cZ P k+cZ P (k+1))*(1/2))),.string (tx (((bF P k-(ah (ai P k) s.i).b)+(bF P (k+1)-(ah (ai P (k+1)) s.j).b))*(1/2))),.string (tx ((cZ P k+cZ P (k+1))*(1/2))),.string (tx (((bF P k-(ah (ai P k) s.i).a)+(bF P (k+1)-(ah (ai P (k+1)) s.j).a))*(1/2))),.string (tx (cZ P k)),.string (tx (bF P k-(ah (ai P k) s.i).a))]:Array Value).toList=cellsS (([aC P k (ah (ai P k) s.i).b,l9 (aC P k (ah (ai P k) s.i).b) (aC P (k+1) (ah (ai P (k+1)) s.j).b),l9 (aC P k (ah (ai P k) s.i).a) (aC P (k+1) (ah (ai P (k+1)) s.j).a),aC P k (ah (ai P k) s.i).a]:List QP).map aQ) from rfl)
 have J3:=hid (show (#[.string (tx ((cZ P k+cZ P (k+1))*(1/2))),.string (tx (((bF P k-(ah (ai P k) s.i).b)+(bF P (k+1)-(ah (ai P (k+1)) s.j).b))*(1/2))),.string (tx (cZ P (k+1))),.string (tx (bF P (k+1)-(ah (ai P (k+1)) s.j).b)),.string (tx (cZ P (k+1))),.string (tx (bF P (k+1)-(ah (ai P (k+1)) s.j).a)),.string (tx ((cZ P k+cZ P (k+1))*(1/2))),.string (tx (((bF P k-(ah (ai P k) s.i).a)+(bF P (k+1)-(ah (ai P (k+1)) s.j).a))*(1/2)))]:Array Value).toList=cellsS (([l9 (aC P k (ah (ai P k) s.i).b) (aC P (k+1) (ah (ai P (k+1)) s.j).b),aC P (k+1) (ah (ai P (k+1)) s.j).b,aC P (k+1) (ah (ai P (k+1)) s.j).a,l9 (aC P k (ah (ai P k) s.i).a) (aC P (k+1) (ah (ai P (k+1)) s.j).a)]:List QP).map aQ) from rfl)
 have HJ:=hid hJ
 have HY:=hid hY
 have HJW:=hid h0
 have N9:=hid (Nat.le_refl W.heap.size)
 obtain ⟨pl,cl,rfl,hcl,gZ⟩:=hE.vL.slice
 obtain ⟨pr,cr,rfl,hcr,ad3⟩:=hE.vR.slice
 obtain ⟨b,off,rfl,lb,c0,c1,c2⟩:=hE.vL.at hi
 obtain ⟨b2,oC,rfl,Qn,d0,d1,d2⟩:=hE.vR.at hj
 have HE:=hid hE
 have HT:=hid (fun wJ (yz:Below W.heap.size W wJ) (C8:Hid (lv N0 vg va vt P k s Bs Bl Br B1 B2 Bk Bp (.slice (some ⟨b,off,none⟩) (ai P k).length cl) (.slice (some ⟨b2,oC,none⟩) (ai P (k+1)).length cr) wJ))=>And.intro (fun W' (hb:Below wJ.heap.size wJ W')=>CX (w:=W') vg va vt P k (ah (ai P k) s.i).b Bp Bk (by omega) hO ((hE.pm.below yz).below hb) ((hb.block _ (aa C8.out.hp)).trans C8.out.hp) ((hb.block _ (aa C8.out.hk)).trans C8.out.hk) zxb.sm (hw.below (yz.trans (hb.mono yz.size)))) (And.intro (fun W' (hb:Below wJ.heap.size wJ W')=>CY (w:=W') vg va vt P k (ah (ai P (k+1)) s.j).b Bp Bk hk hO ((hE.pm.below yz).below hb) ((hb.block _ (aa C8.out.hp)).trans C8.out.hp) ((hb.block _ (aa C8.out.hk)).trans C8.out.hk) zyb.sm (hw.below (yz.trans (hb.mono yz.size)))) (And.intro (fun W' (hb:Below wJ.heap.size wJ W')=>CY (w:=W') vg va vt P k (ah (ai P (k+1)) s.j).a Bp Bk hk hO ((hE.pm.below yz).below hb) ((hb.block _ (aa C8.out.hp)).trans C8.out.hp) ((hb.block _ (aa C8.out.hk)).trans C8.out.hk) zya.sm (hw.below (yz.trans (hb.mono yz.size)))) (fun W' (hb:Below wJ.heap.size wJ W')=>CX (w:=W') vg va vt P k (ah (ai P k) s.i).a Bp Bk (by omega) hO ((hE.pm.below yz).below hb) ((hb.block _ (aa C8.out.hp)).trans C8.out.hp) ((hb.block _ (aa C8.out.hk)).trans C8.out.hk) zxa.sm (hw.below (yz.trans (hb.mono yz.size)))))))
 unfold RV wR l9 aC at Y4 mF
 dsimp only at Y4 mF
 unfold RV wR aC at HT
 dsimp only at HT
 obtain ⟨g0,g1,g2⟩:=av hE.hs
 have Fy:=(one_cell hE.hl).1
 have Fz:=(one_cell hE.hr).1
 have ls:=aa hE.hs
 have ll:=aa hE.hl
 have lr:=aa hE.hr
 have ad4:=enters_of Tryz.func102 (by kernel_rfl) rfl
 have ad5:=enters_of Tryz.func103 (by kernel_rfl) rfl
 have RQ:=(hO.log k (by omega)).2
 have ag1:=(hO.log (k+1) hk).2
 generalize hnl:(ai P k).length=nl at *
 generalize hnr:(ai P (k+1)).length=nr at *
 generalize hu1:us (ah (ai P k) s.i).u=u1 at *
 generalize hu2:us (ah (ai P (k+1)) s.j).u=u2 at *
 have HU1:=hid hu1
 have HU2:=hid hu2
 generalize tx ((cZ P k+cZ P (k+1))*(1/2))=r1 at *
 generalize tx ((bF P k-(ah (ai P k) s.i).b+(bF P (k+1)-(ah (ai P (k+1)) s.j).b))*(1/2))=r2 at *
 generalize tx ((bF P k-(ah (ai P k) s.i).a+(bF P (k+1)-(ah (ai P (k+1)) s.j).a))*(1/2))=r4 at *
 generalize tx (bF P k-(ah (ai P k) s.i).b)=p1 at *
 generalize tx (bF P (k+1)-(ah (ai P (k+1)) s.j).b)=p2 at *
 generalize tx (bF P (k+1)-(ah (ai P (k+1)) s.j).a)=p3 at *
 generalize tx (bF P k-(ah (ai P k) s.i).a)=p4 at *
 generalize tx (cZ P k)=tA at *
 generalize tx (cZ P (k+1))=tC at *
 generalize tx (ah (ai P k) s.i).a=Yu at *
 generalize tx (ah (ai P k) s.i).b=ZG at *
 generalize tx (ah (ai P (k+1)) s.j).a=ZH at *
 generalize tx (ah (ai P (k+1)) s.j).b=ZI at *
 have HEQ:=hid (show decide ((ah (ai P k) s.i).u=(ah (ai P (k+1)) s.j).u)=(u1.toList == u2.toList) from hue.symm)
 rw [hs] at g0
 generalize hgi:s.i=si at *
 generalize hgj:s.j=sj at *
 have i1:(0:Int)≤(si:Int):=by omega
 have i2:(si:Int)<(nl:Int):=by omega
 have i3:(0:Int)≤(sj:Int):=by omega
 have i4:(sj:Int)<(nr:Int):=by omega
 have HN0:=hid (show N0≤W.heap.size by have:=HE.out.ge.1;omega)
 clear hix hiy zxa zxb zya zyb zat aco ztp acp hue hE hJ hY h0 hu1 hu2 hgi hgj hnl hnr hO hi hj hs hk
 refine callsIn_of_wp Tryz.func104 rfl trivial ?_ rfl
 simp only [Tryz.ntmps104,List.size_toArray,List.length_cons,List.length_nil,Nat.reduceAdd,Nat.reduceSub,Array.replicate_succ,Array.replicate_zero,List.push_toArray,List.append_toArray,List.nil_append,List.cons_append]
 gi_upto_region 4 with fail
 try dsimp only
 gi_cut [8,9] from 46 (fun s8 s9 wx=>acn W s8 s9 (.string u1) (.string Yu) (.string ZG) (.string u2) (.string ZH) (.string ZI) wx)
 case first =>
  have mG:=hid (fun W' (hS':Below W.heap.size W W')=>And.intro ((hS'.cell (p:=⟨Bs,1,none⟩) ls).trans g1) (And.intro ((hS'.cell (p:=⟨Bs,2,none⟩) ls).trans g2) (And.intro ((hS'.cell (p:=⟨Bl,0,none⟩) ll).trans Fy) (And.intro ((hS'.cell (p:=⟨Br,0,none⟩) lr).trans Fz) (And.intro ((hS'.cell (p:=⟨b,off+si*3,none⟩) lb).trans c0) (And.intro ((hS'.cell (p:=⟨b,off+si*3+1,none⟩) lb).trans c1) (And.intro ((hS'.cell (p:=⟨b,off+si*3+2,none⟩) lb).trans c2) (And.intro ((hS'.cell (p:=⟨b2,oC+sj*3,none⟩) Qn).trans d0) (And.intro ((hS'.cell (p:=⟨b2,oC+sj*3+1,none⟩) Qn).trans d1) ((hS'.cell (p:=⟨b2,oC+sj*3+2,none⟩) Qn).trans d2))))))))))
  refine bN bW (fun W'=>Below W.heap.size W W') (.take 0 (.take 1 (.take 2 (.take 3 (.take 4 (.take 5 (.take 6 (.take 7 (.take 8 (.take 9 (.two 10 (.one 11 (.one 12 .fin)) 11 (.one 10 (.one 12 .fin))))))))))))) 13 (by kernel_rfl) (by kernel_rfl) (by kernel_rfl) ⟨rfl,rfl,rfl,Nat.le_refl _,fun _ _=>rfl⟩ ?_
  have cO:Below W.heap.size W W.drew:=⟨rfl,rfl,rfl,Nat.le_refl _,fun _ _=>rfl⟩
  generalize W.drew=dP at *
  iterate 10
   refine aD rfl ?_ rfl ?_ ?_
   rotate_left
   ·intro W' hS'
    obtain ⟨s0,s1,s2,s3,s4,s5,s6,s7,s8,s9⟩:=mG.out _ hS'
    go_simp
    try with_reducible rfl
   try simp only [zA,zB,zC,Act.put,zD,zE,zF]
  refine dC ?_ ?_
  ·refine af rfl rfl (fun K hK=>?_)
   go_simp
   obtain ⟨gy,jm⟩ : ∃ q,q=dP.alloc (Obj.cells #[.string ⟨#[]⟩,.string ⟨#[]⟩,.string ⟨#[]⟩] 89):=⟨_,rfl⟩
   have OW:gy.heap[dP.heap.size]?=some (.cells #[.string ⟨#[]⟩,.string ⟨#[]⟩,.string ⟨#[]⟩] 89 (0,0)):=by rw [jm];exact World.alloc_heap_new _ _
   have bR:Below dP.heap.size dP gy:=by rw [jm];exact ae _ _
   have hP1:=cO.trans (bR.mono cO.size)
   rw [←jm]
   clear jm
   refine hK _ _ ⟨hP1,?_⟩
   clear hK K
   try simp only [zA,zB,zC,Act.put,zD,zE,zF]
   refine af rfl rfl (fun K hK=>?_)
   go_simp
   have afX:=lt_of_some OW
   obtain ⟨sI,jo⟩ : ∃ q,q=gy.alloc (Obj.cells #[.string ⟨#[]⟩,.string ⟨#[]⟩,.string ⟨#[]⟩] 89):=⟨_,rfl⟩
   have U1:sI.heap[gy.heap.size]?=some (.cells #[.string ⟨#[]⟩,.string ⟨#[]⟩,.string ⟨#[]⟩] 89 (0,0)):=by rw [jo];exact World.alloc_heap_new _ _
   have dL:Below gy.heap.size gy sI:=by rw [jo];exact ae _ _
   have hP2:=hP1.trans (dL.mono hP1.size)
   rw [←jo]
   clear jo
   have xw:=(dL.block _ (lt_of_some OW)).trans OW
   refine hK _ _ ⟨hP2,?_⟩
   clear hK K
   try simp only [zA,zB,zC,Act.put,zD,zE,zF]
   obtain ⟨_,_,_⟩:=bS xw
   obtain ⟨_,_,_⟩:=av xw
   refine af rfl rfl (fun K hK=>?_)
   go_simp
   refine hK _ _ ⟨bY _ _ _ cO.size hP2,?_⟩
   clear hK K
   try simp only [zA,zB,zC,Act.put,zD,zE,zF]
   unfold bU
   simp only [List.drop_succ_cons,List.drop_zero]
   have Uh:dP.heap.size<gy.heap.size:=by
    have:=lt_of_some OW
    exact this
   have iU:(gy.heap.size:Nat)≠dP.heap.size:=(Nat.ne_of_gt Uh)
   have kA:=fH (.string u1) (.string Yu) (.string ZG) xw
   have kD:=fH (.string u2) (.string ZH) (.string ZI) ((fJ (.string u1) (.string Yu) (.string ZG) iU).trans U1)
   have kA2:=(fJ (.string u2) (.string ZH) (.string ZI) (Ne.symm iU)).trans kA
   have kB:=bY (.string u2) (.string ZH) (.string ZI) hP1.size (bY (.string u1) (.string Yu) (.string ZG) cO.size hP2)
   obtain ⟨_,_,_⟩:=bS xw
   obtain ⟨_,_,_⟩:=bS U1
   obtain ⟨_,_,_⟩:=av xw
   obtain ⟨_,_,_⟩:=av U1
   have eH:=hid (show acn W (.pointer (some ⟨dP.heap.size,0,none⟩)) (.pointer (some ⟨gy.heap.size,0,none⟩)) (.string u1) (.string Yu) (.string ZG) (.string u2) (.string ZH) (.string ZI) _ from ⟨_,_,rfl,rfl,kA2,kD,kB,cO.size,hP1.size⟩)
   have uX:(dP.heap.size:Nat)≠gy.heap.size:=Ne.symm iU
   clear kA kD kA2 kB Uh
   gi_wp2_with fail
   gi_meet
   exact eH.out
  ·refine af rfl rfl (fun K hK=>?_)
   go_simp
   obtain ⟨iV,gz⟩ : ∃ q,q=dP.alloc (Obj.cells #[.string ⟨#[]⟩,.string ⟨#[]⟩,.string ⟨#[]⟩] 89):=⟨_,rfl⟩
   have OX:iV.heap[dP.heap.size]?=some (.cells #[.string ⟨#[]⟩,.string ⟨#[]⟩,.string ⟨#[]⟩] 89 (0,0)):=by rw [gz];exact World.alloc_heap_new _ _
   have jq:Below dP.heap.size dP iV:=by rw [gz];exact ae _ _
   have lY:=cO.trans (jq.mono cO.size)
   rw [←gz]
   clear gz
   refine hK _ _ ⟨lY,?_⟩
   clear hK K
   try simp only [zA,zB,zC,Act.put,zD,zE,zF]
   refine af rfl rfl (fun K hK=>?_)
   go_simp
   have afY:=lt_of_some OX
   obtain ⟨pK,dM⟩ : ∃ q,q=iV.alloc (Obj.cells #[.string ⟨#[]⟩,.string ⟨#[]⟩,.string ⟨#[]⟩] 89):=⟨_,rfl⟩
   have KD:pK.heap[iV.heap.size]?=some (.cells #[.string ⟨#[]⟩,.string ⟨#[]⟩,.string ⟨#[]⟩] 89 (0,0)):=by rw [dM];exact World.alloc_heap_new _ _
   have jr:Below iV.heap.size iV pK:=by rw [dM];exact ae _ _
   have yw:=lY.trans (jr.mono lY.size)
   rw [←dM]
   clear dM
   have G8:=(jr.block _ (lt_of_some OX)).trans OX
   refine hK _ _ ⟨yw,?_⟩
   clear hK K
   try simp only [zA,zB,zC,Act.put,zD,zE,zF]
   obtain ⟨_,_,_⟩:=bS KD
   obtain ⟨_,_,_⟩:=av KD
   refine af rfl rfl (fun K hK=>?_)
   go_simp
   refine hK _ _ ⟨bY _ _ _ lY.size yw,?_⟩
   clear hK K
   try simp only [zA,zB,zC,Act.put,zD,zE,zF]
   unfold bU
   simp only [List.drop_succ_cons,List.drop_zero]
   have Uh:dP.heap.size<iV.heap.size:=by
    have:=lt_of_some OX
    exact this
   have iU:(dP.heap.size:Nat)≠iV.heap.size:=(Nat.ne_of_lt Uh)
   have kA:=fH (.string u1) (.string Yu) (.string ZG) KD
   have kD:=fH (.string u2) (.string ZH) (.string ZI) ((fJ (.string u1) (.string Yu) (.string ZG) iU).trans G8)
   have kA2:=(fJ (.string u2) (.string ZH) (.string ZI) (Ne.symm iU)).trans kA
   have kB:=bY (.string u2) (.string ZH) (.string ZI) cO.size (bY (.string u1) (.string Yu) (.string ZG) lY.size yw)
   obtain ⟨_,_,_⟩:=bS KD
   obtain ⟨_,_,_⟩:=bS G8
   obtain ⟨_,_,_⟩:=av KD
   obtain ⟨_,_,_⟩:=av G8
   have eH:=hid (show acn W (.pointer (some ⟨iV.heap.size,0,none⟩)) (.pointer (some ⟨dP.heap.size,0,none⟩)) (.string u1) (.string Yu) (.string ZG) (.string u2) (.string ZH) (.string ZI) _ from ⟨_,_,rfl,rfl,kA2,kD,kB,lY.size,cO.size⟩)
   have uX:(iV.heap.size:Nat)≠dP.heap.size:=Ne.symm iU
   clear kA kD kA2 kB Uh
   gi_wp2_with fail
   gi_meet
   exact eH.out
 case rest =>
 obtain ⟨A8,A9,rfl,rfl,hA,hD,yz,hgA,hgD⟩:=hcut
 obtain ⟨wJ,hwj⟩ : ∃ q,q=wc:=⟨_,rfl⟩
 subst hwj
 have C8:=hid (HE.out.below yz)
 obtain ⟨ht1,ht2,ht3,Ul⟩:=HT.out wJ yz C8
 have HT1:=hid ht1
 have HT2:=hid ht2
 have HT3:=hid ht3
 have HT4:=hid Ul
 have HA:=hid hA
 have HD:=hid hD
 have OC:=hid yz
 have afZ:=hid (And.intro hgA hgD)
 obtain ⟨m0,m1,m2⟩:=av hA
 obtain ⟨n0,n1,n2⟩:=av hD
 have lA:=aa hA
 have lD:=aa hD
 have f1:=(one_cell C8.out.h1).1
 have f2:=(one_cell C8.out.h2).1
 have l1:=aa C8.out.h1
 have l2:=aa C8.out.h2
 clear ht1 ht2 ht3 Ul hA hD yz hgA hgD HT g0 g1 g2 Fy Fz c0 c1 c2 d0 d1 d2 ls ll lr lb Qn
 gi_upto_region 5 with fail
 have mG:=hid (fun W' (hS':Below wJ.heap.size wJ W')=>And.intro ((hS'.cell (p:=⟨B1,0,none⟩) l1).trans f1) (And.intro ((hS'.cell (p:=⟨B2,0,none⟩) l2).trans f2) (And.intro ((hS'.cell (p:=⟨A8,0,none⟩) lA).trans m0) (And.intro ((hS'.cell (p:=⟨A8,1,none⟩) lA).trans m1) (And.intro ((hS'.cell (p:=⟨A8,2,none⟩) lA).trans m2) (And.intro ((hS'.cell (p:=⟨A9,0,none⟩) lD).trans n0) (And.intro ((hS'.cell (p:=⟨A9,1,none⟩) lD).trans n1) ((hS'.cell (p:=⟨A9,2,none⟩) lD).trans n2))))))))
 refine bN bW (fun W'=>Below wJ.heap.size wJ W') (.take 0 (.take 1 (.take 2 (.take 4 (.take 5 (.take 6 (.take 8 (.take 9 (.take 10 (.take 12 (.take 13 (.take 14 (.one 3 (.one 7 (.one 11 (.one 15 (.one 16 .fin))))))))))))))))) 17 (by kernel_rfl) (by kernel_rfl) (by kernel_rfl) ⟨rfl,rfl,rfl,Nat.le_refl _,fun _ _=>rfl⟩ ?_
 have MO:Below wJ.heap.size wJ wJ.drew:=⟨rfl,rfl,rfl,Nat.le_refl _,fun _ _=>rfl⟩
 generalize wJ.drew=qv0 at *
 iterate 12
  refine aD rfl ?_ rfl ?_ ?_
  rotate_left
  ·intro W' hS'
   obtain ⟨s0,s1,s2,s3,s4,s5,s6,s7⟩:=mG.out _ hS'
   go_simp
   try with_reducible rfl
  try simp only [zA,zB,zC,Act.put,zD,zE,zF]
 refine af rfl rfl (fun K hK=>?_)
 go_simp
 refine (HT1.out _ (MO)).mono ?_
 rintro e qv1 ⟨rfl,JU⟩
 have IM:=MO.trans (JU.mono MO.size)
 refine hK _ _ ⟨IM,?_⟩
 clear hK K
 try simp only [zA,zB,zC,Act.put,zD,zE,zF]
 refine af rfl rfl (fun K hK=>?_)
 go_simp
 refine (HT2.out _ (IM)).mono ?_
 rintro e qv2 ⟨rfl,JV⟩
 have IP:=IM.trans (JV.mono IM.size)
 refine hK _ _ ⟨IP,?_⟩
 clear hK K
 try simp only [zA,zB,zC,Act.put,zD,zE,zF]
 refine af rfl rfl (fun K hK=>?_)
 go_simp
 refine (HT3.out _ (IP)).mono ?_
 rintro e qv3 ⟨rfl,JW⟩
 have OB:=IP.trans (JW.mono IP.size)
 refine hK _ _ ⟨OB,?_⟩
 clear hK K
 try simp only [zA,zB,zC,Act.put,zD,zE,zF]
 refine af rfl rfl (fun K hK=>?_)
 go_simp
 refine (HT4.out _ (OB)).mono ?_
 rintro e Y5 ⟨rfl,JX⟩
 have RG:=OB.trans (JX.mono OB.size)
 refine hK _ _ ⟨RG,?_⟩
 clear hK K
 try simp only [zA,zB,zC,Act.put,zD,zE,zF]
 refine af rfl rfl (fun K hK=>?_)
 go_simp
 obtain ⟨Y6,xy⟩ : ∃ q,q=Y5.alloc (Obj.cells #[.string tA,.string p1,.string tC,.string p2,.string tC,.string p3,.string tA,.string p4] 113):=⟨_,rfl⟩
 have ad6:Y6.heap[Y5.heap.size]?=some (.cells #[.string tA,.string p1,.string tC,.string p2,.string tC,.string p3,.string tA,.string p4] 113 (0,0)):=by rw [xy];exact World.alloc_heap_new _ _
 have JY:Below Y5.heap.size Y5 Y6:=by rw [xy];exact ae _ _
 have Ao:=RG.trans (JY.mono RG.size)
 rw [←xy]
 clear xy
 refine hK _ _ ⟨Ao,?_⟩
 clear hK K
 try simp only [zA,zB,zC,Act.put,zD,zE,zF]
 unfold bU
 simp only [List.drop_succ_cons,List.drop_zero]
 obtain ⟨bq,hbq⟩ : ∃ q,q=Y5.heap.size:=⟨_,rfl⟩
 have HZQ:=hid (show Y6.heap[bq]?=some (.cells #[.string tA,.string p1,.string tC,.string p2,.string tC,.string p3,.string tA,.string p4] 113 (0,0)) by rw [hbq];exact ad6)
 have HGQ:=hid (show wJ.heap.size≤bq by rw [hbq];exact RG.size)
 rw [←hbq]
 have RU:=hid Ao
 clear hbq f1 f2 m0 m1 m2 n0 n1 n2
 obtain ⟨wq,hwq⟩ : ∃ q,q=Y6:=⟨_,rfl⟩
 rw [←hwq] at HZQ RU ⊢
 clear hwq
 have nT:=hid (OC.out.trans (RU.out.mono OC.out.size))
 have ad7:=hid (C8.out.below RU.out)
 have hA:=(RU.out.block _ (aa HA.out)).trans HA.out
 have hD:=(RU.out.block _ (aa HD.out)).trans HD.out
 have HA2:=hid hA
 have HD2:=hid hD
 have HJQ:=hid (di HJ.out HJW.out nT.out)
 obtain ⟨m0,m1,m2⟩:=av hA
 obtain ⟨n0,n1,n2⟩:=av hD
 have k0:=bK ad7.out.hk
 clear hA hD lA lD l1 l2
 by_cases hun:(ah (ai P k) si).u=(ah (ai P (k+1)) sj).u
 ·have heq:=HEQ.out.symm
  rw [decide_eq_true hun] at heq
  have hp:=KC.out.1 hun
  have acr:=hid (show (aA P k s)[0]?=some _ by rw [hp];rfl)
  have acs:=hid (show (aA P k s).length=1 by rw [hp];rfl)
  have QY:=hid (show ∃ x,(aA P k s)[0]?=some x∧ql x (.agg #[.int .i64 (k:Int),.string u1,.slice (some ⟨bq,0,none⟩) 4 4,.bool false]) wq from ⟨_,acr.out,mh rfl HU1.out rfl HCQ.out HZQ.out (by decide)⟩)
  clear hun hp
  gi_upto_region 7 with fail
  obtain ⟨fn,tmps,assign,body,hy,hR⟩:=HY.out 0 (by rw [acs.out];decide) _ wq HJQ.out QY.out
  gi_wp2
  refine hR.mono ?_
  rintro e W9 (⟨rfl,Cu,_⟩ | ⟨rfl,pM⟩)
  ·have Ap:=hid Cu
   clear Cu
   gi_wp2
   refine bodyPost_ret (results_none rfl _ _ _) rfl ?_
   exact ⟨⟨_,rfl⟩,.inl (by rw [acs.out];exact Ap.out)⟩
  ·have Ap:=hid pM
   clear pM
   gi_wp2
   refine bodyPost_ret (results_none rfl _ _ _) rfl ?_
   exact ⟨⟨_,rfl⟩,.inr ⟨0,by rw [acs.out];decide,Ap.out⟩⟩
 ·have heq:=HEQ.out.symm
  rw [decide_eq_false hun] at heq
  have hp:=KC.out.2 hun
  have acr:=hid (show (aA P k s)[0]?=some _ by rw [hp];rfl)
  have af0:=hid (show (aA P k s)[1]?=some _ by rw [hp];rfl)
  have QZ:=hid (show (aA P k s).length=2 by rw [hp];rfl)
  obtain ⟨q0,q1,q2,q3,q4,q5,q6,q7⟩:=rH HZQ.out
  have lq:=aa HZQ.out
  clear hun hp
  gi_upto_region 8 with fail
  try dsimp only
  gi_cut [11,12] from 86 (fun s11 s12 wx=>yI wq s11 s12 (.string r1) (.string r2) (.string r1) (.string r4) wx)
  case first =>
   have mG:=hid (fun W' (hS':Below wq.heap.size wq W')=>And.intro ((hS'.cell (p:=⟨bq,0,none⟩) lq).trans q0) (And.intro ((hS'.cell (p:=⟨bq,1,none⟩) lq).trans q1) (And.intro ((hS'.cell (p:=⟨bq,2,none⟩) lq).trans q2) (And.intro ((hS'.cell (p:=⟨bq,3,none⟩) lq).trans q3) (And.intro ((hS'.cell (p:=⟨bq,4,none⟩) lq).trans q4) (And.intro ((hS'.cell (p:=⟨bq,5,none⟩) lq).trans q5) (And.intro ((hS'.cell (p:=⟨bq,6,none⟩) lq).trans q6) ((hS'.cell (p:=⟨bq,7,none⟩) lq).trans q7))))))))
   refine bN bW (fun W'=>Below wq.heap.size wq W') (.take 0 (.take 1 (.take 2 (.take 3 (.take 4 (.take 5 (.take 7 (.take 8 (.take 9 (.take 10 (.take 11 (.take 12 (.three 6 (.three 13 (.two 14 (.one 15 (.one 16 .fin)) 15 (.one 14 (.one 16 .fin))) 14 (.two 13 (.one 15 (.one 16 .fin)) 15 (.one 13 (.one 16 .fin))) 15 (.two 13 (.one 14 (.one 16 .fin)) 14 (.one 13 (.one 16 .fin)))) 14 (.two 6 (.two 13 (.one 15 (.one 16 .fin)) 15 (.one 13 (.one 16 .fin))) 15 (.one 6 (.one 13 (.one 16 .fin)))) 15 (.two 6 (.two 13 (.one 14 (.one 16 .fin)) 14 (.one 13 (.one 16 .fin))) 14 (.one 6 (.one 13 (.one 16 .fin))))))))))))))))) 17 (by kernel_rfl) (by kernel_rfl) (by kernel_rfl) ⟨rfl,rfl,rfl,Nat.le_refl _,fun _ _=>rfl⟩ ?_
   have hR0:Below wq.heap.size wq wq.drew:=⟨rfl,rfl,rfl,Nat.le_refl _,fun _ _=>rfl⟩
   generalize wq.drew=nC at *
   iterate 12
    refine aD rfl ?_ rfl ?_ ?_
    rotate_left
    ·intro W' hS'
     obtain ⟨s0,s1,s2,s3,s4,s5,s6,s7⟩:=mG.out _ hS'
     go_simp
     try with_reducible rfl
    try simp only [zA,zB,zC,Act.put,zD,zE,zF]
   refine Ba ?_ ?_ ?_
   ·refine af rfl rfl (fun K hK=>?_)
    go_simp
    refine (Y4.out _ (hw.below (nT.out.trans (hR0.mono nT.out.size)))).mono ?_
    rintro e sO ⟨rfl,U2⟩
    have fq:=hR0.trans (U2.mono hR0.size)
    refine hK _ _ ⟨fq,?_⟩
    clear hK K
    try simp only [zA,zB,zC,Act.put,zD,zE,zF]
    refine Ba ?_ ?_ ?_
    ·refine af rfl rfl (fun K hK=>?_)
     go_simp
     refine (mF.out _ (hw.below (nT.out.trans (fq.mono nT.out.size)))).mono ?_
     rintro e AQ ⟨rfl,U3⟩
     have hR2:=fq.trans (U3.mono fq.size)
     refine hK _ _ ⟨hR2,?_⟩
     clear hK K
     try simp only [zA,zB,zC,Act.put,zD,zE,zF]
     refine dC ?_ ?_
     ·refine af rfl rfl (fun K hK=>?_)
      go_simp
      obtain ⟨OY,xz⟩ : ∃ q,q=AQ.alloc (Obj.cells #[.string ⟨#[]⟩,.string ⟨#[]⟩] 113):=⟨_,rfl⟩
      have U4:OY.heap[AQ.heap.size]?=some (.cells #[.string ⟨#[]⟩,.string ⟨#[]⟩] 113 (0,0)):=by rw [xz];exact World.alloc_heap_new _ _
      have U5:Below AQ.heap.size AQ OY:=by rw [xz];exact ae _ _
      have ZJ:=hR2.trans (U5.mono hR2.size)
      rw [←xz]
      clear xz
      refine hK _ _ ⟨ZJ,?_⟩
      clear hK K
      try simp only [zA,zB,zC,Act.put,zD,zE,zF]
      refine af rfl rfl (fun K hK=>?_)
      go_simp
      have af1:=lt_of_some U4
      obtain ⟨rv4,xA⟩ : ∃ q,q=OY.alloc (Obj.cells #[.string ⟨#[]⟩,.string ⟨#[]⟩] 113):=⟨_,rfl⟩
      have aa3:rv4.heap[OY.heap.size]?=some (.cells #[.string ⟨#[]⟩,.string ⟨#[]⟩] 113 (0,0)):=by rw [xA];exact World.alloc_heap_new _ _
      have OZ:Below OY.heap.size OY rv4:=by rw [xA];exact ae _ _
      have hR4:=ZJ.trans (OZ.mono ZJ.size)
      rw [←xA]
      clear xA
      have G9:=(OZ.block _ (lt_of_some U4)).trans U4
      refine hK _ _ ⟨hR4,?_⟩
      clear hK K
      try simp only [zA,zB,zC,Act.put,zD,zE,zF]
      obtain ⟨_,_,_,_⟩:=aj G9
      refine af rfl rfl (fun K hK=>?_)
      go_simp
      refine hK _ _ ⟨(hR4.setCell (p:=⟨_,0,none⟩) hR2.size _).setCell (p:=⟨_,1,none⟩) hR2.size _,?_⟩
      clear hK K
      try simp only [zA,zB,zC,Act.put,zD,zE,zF]
      unfold bU
      simp only [List.drop_succ_cons,List.drop_zero]
      have iU:(OY.heap.size:Nat)≠AQ.heap.size:=by
       omega
      have kA:=aW (.string r2) (aT (.string r1) G9)
      have kD:=aW (.string r4) (aT (.string r1) ((bu (.string r1) (.string r2) iU).trans aa3))
      have kA2:=(bu (.string r1) (.string r4) (Ne.symm iU)).trans kA
      have kB:=((((hR4).setCell (p:=⟨AQ.heap.size,0,none⟩) hR2.size (.string r1)).setCell (p:=⟨AQ.heap.size,1,none⟩) hR2.size (.string r2)).setCell (p:=⟨OY.heap.size,0,none⟩) ZJ.size (.string r1)).setCell (p:=⟨OY.heap.size,1,none⟩) ZJ.size (.string r4)
      obtain ⟨_,_,_,_⟩:=aj G9
      obtain ⟨_,_,_,_⟩:=aj aa3
      have eH:=hid (show yI wq (.pointer (some ⟨AQ.heap.size,0,none⟩)) (.pointer (some ⟨OY.heap.size,0,none⟩)) (.string r1) (.string r2) (.string r1) (.string r4) _ from ⟨_,_,rfl,rfl,kA2,kD,kB,hR2.size,ZJ.size⟩)
      have uX:(AQ.heap.size:Nat)≠OY.heap.size:=Ne.symm iU
      clear kA kD kA2 kB
      gi_wp2_with fail
      gi_meet
      exact eH.out
     ·refine af rfl rfl (fun K hK=>?_)
      go_simp
      obtain ⟨O0,xB⟩ : ∃ q,q=AQ.alloc (Obj.cells #[.string ⟨#[]⟩,.string ⟨#[]⟩] 113):=⟨_,rfl⟩
      have U6:O0.heap[AQ.heap.size]?=some (.cells #[.string ⟨#[]⟩,.string ⟨#[]⟩] 113 (0,0)):=by rw [xB];exact World.alloc_heap_new _ _
      have U7:Below AQ.heap.size AQ O0:=by rw [xB];exact ae _ _
      have Q3:=hR2.trans (U7.mono hR2.size)
      rw [←xB]
      clear xB
      refine hK _ _ ⟨Q3,?_⟩
      clear hK K
      try simp only [zA,zB,zC,Act.put,zD,zE,zF]
      refine af rfl rfl (fun K hK=>?_)
      go_simp
      have af2:=lt_of_some U6
      obtain ⟨rv7,O3⟩ : ∃ q,q=O0.alloc (Obj.cells #[.string ⟨#[]⟩,.string ⟨#[]⟩] 113):=⟨_,rfl⟩
      have U8:rv7.heap[O0.heap.size]?=some (.cells #[.string ⟨#[]⟩,.string ⟨#[]⟩] 113 (0,0)):=by rw [O3];exact World.alloc_heap_new _ _
      have KE:Below O0.heap.size O0 rv7:=by rw [O3];exact ae _ _
      have hR7:=Q3.trans (KE.mono Q3.size)
      rw [←O3]
      clear O3
      have O4:=(KE.block _ (lt_of_some U6)).trans U6
      refine hK _ _ ⟨hR7,?_⟩
      clear hK K
      try simp only [zA,zB,zC,Act.put,zD,zE,zF]
      obtain ⟨_,_,_,_⟩:=aj U8
      refine af rfl rfl (fun K hK=>?_)
      go_simp
      refine hK _ _ ⟨(hR7.setCell (p:=⟨_,0,none⟩) Q3.size _).setCell (p:=⟨_,1,none⟩) Q3.size _,?_⟩
      clear hK K
      try simp only [zA,zB,zC,Act.put,zD,zE,zF]
      unfold bU
      simp only [List.drop_succ_cons,List.drop_zero]
      have iU:(AQ.heap.size:Nat)≠O0.heap.size:=by
       omega
      have kA:=aW (.string r2) (aT (.string r1) U8)
      have kD:=aW (.string r4) (aT (.string r1) ((bu (.string r1) (.string r2) iU).trans O4))
      have kA2:=(bu (.string r1) (.string r4) (Ne.symm iU)).trans kA
      have kB:=((((hR7).setCell (p:=⟨O0.heap.size,0,none⟩) Q3.size (.string r1)).setCell (p:=⟨O0.heap.size,1,none⟩) Q3.size (.string r2)).setCell (p:=⟨AQ.heap.size,0,none⟩) hR2.size (.string r1)).setCell (p:=⟨AQ.heap.size,1,none⟩) hR2.size (.string r4)
      obtain ⟨_,_,_,_⟩:=aj U8
      obtain ⟨_,_,_,_⟩:=aj O4
      have eH:=hid (show yI wq (.pointer (some ⟨O0.heap.size,0,none⟩)) (.pointer (some ⟨AQ.heap.size,0,none⟩)) (.string r1) (.string r2) (.string r1) (.string r4) _ from ⟨_,_,rfl,rfl,kA2,kD,kB,Q3.size,hR2.size⟩)
      have uX:(O0.heap.size:Nat)≠AQ.heap.size:=Ne.symm iU
      clear kA kD kA2 kB
      gi_wp2_with fail
      gi_meet
      exact eH.out
    ·refine af rfl rfl (fun K hK=>?_)
     go_simp
     obtain ⟨U9,O5⟩ : ∃ q,q=sO.alloc (Obj.cells #[.string ⟨#[]⟩,.string ⟨#[]⟩] 113):=⟨_,rfl⟩
     have KF:U9.heap[sO.heap.size]?=some (.cells #[.string ⟨#[]⟩,.string ⟨#[]⟩] 113 (0,0)):=by rw [O5];exact World.alloc_heap_new _ _
     have ad8:Below sO.heap.size sO U9:=by rw [O5];exact ae _ _
     have ZK:=fq.trans (ad8.mono fq.size)
     rw [←O5]
     clear O5
     refine hK _ _ ⟨ZK,?_⟩
     clear hK K
     try simp only [zA,zB,zC,Act.put,zD,zE,zF]
     refine dC ?_ ?_
     ·refine af rfl rfl (fun K hK=>?_)
      go_simp
      refine (mF.out _ (hw.below (nT.out.trans (ZK.mono nT.out.size)))).mono ?_
      rintro e Ha ⟨rfl,Va⟩
      have Q5:=ZK.trans (Va.mono ZK.size)
      have C9:=(Va.block _ (lt_of_some KF)).trans KF
      refine hK _ _ ⟨Q5,?_⟩
      clear hK K
      try simp only [zA,zB,zC,Act.put,zD,zE,zF]
      refine af rfl rfl (fun K hK=>?_)
      go_simp
      have afc:=lt_of_some C9
      obtain ⟨ad9,Hd⟩ : ∃ q,q=Ha.alloc (Obj.cells #[.string ⟨#[]⟩,.string ⟨#[]⟩] 113):=⟨_,rfl⟩
      have Vb:ad9.heap[Ha.heap.size]?=some (.cells #[.string ⟨#[]⟩,.string ⟨#[]⟩] 113 (0,0)):=by rw [Hd];exact World.alloc_heap_new _ _
      have Vd:Below Ha.heap.size Ha ad9:=by rw [Hd];exact ae _ _
      have acu:=Q5.trans (Vd.mono Q5.size)
      rw [←Hd]
      clear Hd
      have Da:=(Vd.block _ (lt_of_some C9)).trans C9
      refine hK _ _ ⟨acu,?_⟩
      clear hK K
      try simp only [zA,zB,zC,Act.put,zD,zE,zF]
      obtain ⟨_,_,_,_⟩:=aj Da
      refine af rfl rfl (fun K hK=>?_)
      go_simp
      refine hK _ _ ⟨(acu.setCell (p:=⟨_,0,none⟩) fq.size _).setCell (p:=⟨_,1,none⟩) fq.size _,?_⟩
      clear hK K
      try simp only [zA,zB,zC,Act.put,zD,zE,zF]
      unfold bU
      simp only [List.drop_succ_cons,List.drop_zero]
      have iU:(Ha.heap.size:Nat)≠sO.heap.size:=by
       omega
      have kA:=aW (.string r2) (aT (.string r1) Da)
      have kD:=aW (.string r4) (aT (.string r1) ((bu (.string r1) (.string r2) iU).trans Vb))
      have kA2:=(bu (.string r1) (.string r4) (Ne.symm iU)).trans kA
      have kB:=((((acu).setCell (p:=⟨sO.heap.size,0,none⟩) fq.size (.string r1)).setCell (p:=⟨sO.heap.size,1,none⟩) fq.size (.string r2)).setCell (p:=⟨Ha.heap.size,0,none⟩) Q5.size (.string r1)).setCell (p:=⟨Ha.heap.size,1,none⟩) Q5.size (.string r4)
      obtain ⟨_,_,_,_⟩:=aj Da
      obtain ⟨_,_,_,_⟩:=aj Vb
      have eH:=hid (show yI wq (.pointer (some ⟨sO.heap.size,0,none⟩)) (.pointer (some ⟨Ha.heap.size,0,none⟩)) (.string r1) (.string r2) (.string r1) (.string r4) _ from ⟨_,_,rfl,rfl,kA2,kD,kB,fq.size,Q5.size⟩)
      have uX:(sO.heap.size:Nat)≠Ha.heap.size:=Ne.symm iU
      clear kA kD kA2 kB
      gi_wp2_with fail
      gi_meet
      exact eH.out
     ·refine af rfl rfl (fun K hK=>?_)
      go_simp
      have afd:=lt_of_some KF
      obtain ⟨aea,He⟩ : ∃ q,q=U9.alloc (Obj.cells #[.string ⟨#[]⟩,.string ⟨#[]⟩] 113):=⟨_,rfl⟩
      have Ve:aea.heap[U9.heap.size]?=some (.cells #[.string ⟨#[]⟩,.string ⟨#[]⟩] 113 (0,0)):=by rw [He];exact World.alloc_heap_new _ _
      have Vf:Below U9.heap.size U9 aea:=by rw [He];exact ae _ _
      have ZL:=ZK.trans (Vf.mono ZK.size)
      rw [←He]
      clear He
      have KG:=(Vf.block _ (lt_of_some KF)).trans KF
      refine hK _ _ ⟨ZL,?_⟩
      clear hK K
      try simp only [zA,zB,zC,Act.put,zD,zE,zF]
      refine af rfl rfl (fun K hK=>?_)
      go_simp
      refine (mF.out _ (hw.below (nT.out.trans (ZL.mono nT.out.size)))).mono ?_
      rintro e ag2 ⟨rfl,Ni⟩
      have acv:=ZL.trans (Ni.mono ZL.size)
      have Db:=(Ni.block _ (lt_of_some KG)).trans KG
      have FB:=(Ni.block _ (lt_of_some Ve)).trans Ve
      refine hK _ _ ⟨acv,?_⟩
      clear hK K
      try simp only [zA,zB,zC,Act.put,zD,zE,zF]
      obtain ⟨_,_,_,_⟩:=aj Db
      refine af rfl rfl (fun K hK=>?_)
      go_simp
      refine hK _ _ ⟨(acv.setCell (p:=⟨_,0,none⟩) fq.size _).setCell (p:=⟨_,1,none⟩) fq.size _,?_⟩
      clear hK K
      try simp only [zA,zB,zC,Act.put,zD,zE,zF]
      unfold bU
      simp only [List.drop_succ_cons,List.drop_zero]
      have iU:(U9.heap.size:Nat)≠sO.heap.size:=by
       omega
      have kA:=aW (.string r2) (aT (.string r1) Db)
      have kD:=aW (.string r4) (aT (.string r1) ((bu (.string r1) (.string r2) iU).trans FB))
      have kA2:=(bu (.string r1) (.string r4) (Ne.symm iU)).trans kA
      have kB:=((((acv).setCell (p:=⟨sO.heap.size,0,none⟩) fq.size (.string r1)).setCell (p:=⟨sO.heap.size,1,none⟩) fq.size (.string r2)).setCell (p:=⟨U9.heap.size,0,none⟩) ZK.size (.string r1)).setCell (p:=⟨U9.heap.size,1,none⟩) ZK.size (.string r4)
      obtain ⟨_,_,_,_⟩:=aj Db
      obtain ⟨_,_,_,_⟩:=aj FB
      have eH:=hid (show yI wq (.pointer (some ⟨sO.heap.size,0,none⟩)) (.pointer (some ⟨U9.heap.size,0,none⟩)) (.string r1) (.string r2) (.string r1) (.string r4) _ from ⟨_,_,rfl,rfl,kA2,kD,kB,fq.size,ZK.size⟩)
      have uX:(sO.heap.size:Nat)≠U9.heap.size:=Ne.symm iU
      clear kA kD kA2 kB
      gi_wp2_with fail
      gi_meet
      exact eH.out
    ·refine af rfl rfl (fun K hK=>?_)
     go_simp
     obtain ⟨Dc,Hf⟩ : ∃ q,q=sO.alloc (Obj.cells #[.string ⟨#[]⟩,.string ⟨#[]⟩] 113):=⟨_,rfl⟩
     have De:Dc.heap[sO.heap.size]?=some (.cells #[.string ⟨#[]⟩,.string ⟨#[]⟩] 113 (0,0)):=by rw [Hf];exact World.alloc_heap_new _ _
     have acw:Below sO.heap.size sO Dc:=by rw [Hf];exact ae _ _
     have Df:=fq.trans (acw.mono fq.size)
     rw [←Hf]
     clear Hf
     refine hK _ _ ⟨Df,?_⟩
     clear hK K
     try simp only [zA,zB,zC,Act.put,zD,zE,zF]
     refine dC ?_ ?_
     ·refine af rfl rfl (fun K hK=>?_)
      go_simp
      refine (mF.out _ (hw.below (nT.out.trans (Df.mono nT.out.size)))).mono ?_
      rintro e Hg ⟨rfl,Vg⟩
      have KH:=Df.trans (Vg.mono Df.size)
      have yJ:=(Vg.block _ (lt_of_some De)).trans De
      refine hK _ _ ⟨KH,?_⟩
      clear hK K
      try simp only [zA,zB,zC,Act.put,zD,zE,zF]
      refine af rfl rfl (fun K hK=>?_)
      go_simp
      have afe:=lt_of_some yJ
      obtain ⟨aeb,Hl⟩ : ∃ q,q=Hg.alloc (Obj.cells #[.string ⟨#[]⟩,.string ⟨#[]⟩] 113):=⟨_,rfl⟩
      have Nj:aeb.heap[Hg.heap.size]?=some (.cells #[.string ⟨#[]⟩,.string ⟨#[]⟩] 113 (0,0)):=by rw [Hl];exact World.alloc_heap_new _ _
      have Vh:Below Hg.heap.size Hg aeb:=by rw [Hl];exact ae _ _
      have acx:=KH.trans (Vh.mono KH.size)
      rw [←Hl]
      clear Hl
      have FC:=(Vh.block _ (lt_of_some yJ)).trans yJ
      refine hK _ _ ⟨acx,?_⟩
      clear hK K
      try simp only [zA,zB,zC,Act.put,zD,zE,zF]
      obtain ⟨_,_,_,_⟩:=aj Nj
      refine af rfl rfl (fun K hK=>?_)
      go_simp
      refine hK _ _ ⟨(acx.setCell (p:=⟨_,0,none⟩) KH.size _).setCell (p:=⟨_,1,none⟩) KH.size _,?_⟩
      clear hK K
      try simp only [zA,zB,zC,Act.put,zD,zE,zF]
      unfold bU
      simp only [List.drop_succ_cons,List.drop_zero]
      have iU:(sO.heap.size:Nat)≠Hg.heap.size:=by
       omega
      have kA:=aW (.string r2) (aT (.string r1) Nj)
      have kD:=aW (.string r4) (aT (.string r1) ((bu (.string r1) (.string r2) iU).trans FC))
      have kA2:=(bu (.string r1) (.string r4) (Ne.symm iU)).trans kA
      have kB:=((((acx).setCell (p:=⟨Hg.heap.size,0,none⟩) KH.size (.string r1)).setCell (p:=⟨Hg.heap.size,1,none⟩) KH.size (.string r2)).setCell (p:=⟨sO.heap.size,0,none⟩) fq.size (.string r1)).setCell (p:=⟨sO.heap.size,1,none⟩) fq.size (.string r4)
      obtain ⟨_,_,_,_⟩:=aj Nj
      obtain ⟨_,_,_,_⟩:=aj FC
      have eH:=hid (show yI wq (.pointer (some ⟨Hg.heap.size,0,none⟩)) (.pointer (some ⟨sO.heap.size,0,none⟩)) (.string r1) (.string r2) (.string r1) (.string r4) _ from ⟨_,_,rfl,rfl,kA2,kD,kB,KH.size,fq.size⟩)
      have uX:(Hg.heap.size:Nat)≠sO.heap.size:=Ne.symm iU
      clear kA kD kA2 kB
      gi_wp2_with fail
      gi_meet
      exact eH.out
     ·refine af rfl rfl (fun K hK=>?_)
      go_simp
      have aff:=lt_of_some De
      obtain ⟨aec,Hm⟩ : ∃ q,q=Dc.alloc (Obj.cells #[.string ⟨#[]⟩,.string ⟨#[]⟩] 113):=⟨_,rfl⟩
      have Vi:aec.heap[Dc.heap.size]?=some (.cells #[.string ⟨#[]⟩,.string ⟨#[]⟩] 113 (0,0)):=by rw [Hm];exact World.alloc_heap_new _ _
      have Vj:Below Dc.heap.size Dc aec:=by rw [Hm];exact ae _ _
      have ZM:=Df.trans (Vj.mono Df.size)
      rw [←Hm]
      clear Hm
      have FD:=(Vj.block _ (lt_of_some De)).trans De
      refine hK _ _ ⟨ZM,?_⟩
      clear hK K
      try simp only [zA,zB,zC,Act.put,zD,zE,zF]
      refine af rfl rfl (fun K hK=>?_)
      go_simp
      refine (mF.out _ (hw.below (nT.out.trans (ZM.mono nT.out.size)))).mono ?_
      rintro e ag3 ⟨rfl,Nk⟩
      have acy:=ZM.trans (Nk.mono ZM.size)
      have FE:=(Nk.block _ (lt_of_some FD)).trans FD
      have yK:=(Nk.block _ (lt_of_some Vi)).trans Vi
      refine hK _ _ ⟨acy,?_⟩
      clear hK K
      try simp only [zA,zB,zC,Act.put,zD,zE,zF]
      obtain ⟨_,_,_,_⟩:=aj yK
      refine af rfl rfl (fun K hK=>?_)
      go_simp
      refine hK _ _ ⟨(acy.setCell (p:=⟨_,0,none⟩) Df.size _).setCell (p:=⟨_,1,none⟩) Df.size _,?_⟩
      clear hK K
      try simp only [zA,zB,zC,Act.put,zD,zE,zF]
      unfold bU
      simp only [List.drop_succ_cons,List.drop_zero]
      have iU:(sO.heap.size:Nat)≠Dc.heap.size:=by
       omega
      have kA:=aW (.string r2) (aT (.string r1) yK)
      have kD:=aW (.string r4) (aT (.string r1) ((bu (.string r1) (.string r2) iU).trans FE))
      have kA2:=(bu (.string r1) (.string r4) (Ne.symm iU)).trans kA
      have kB:=((((acy).setCell (p:=⟨Dc.heap.size,0,none⟩) Df.size (.string r1)).setCell (p:=⟨Dc.heap.size,1,none⟩) Df.size (.string r2)).setCell (p:=⟨sO.heap.size,0,none⟩) fq.size (.string r1)).setCell (p:=⟨sO.heap.size,1,none⟩) fq.size (.string r4)
      obtain ⟨_,_,_,_⟩:=aj yK
      obtain ⟨_,_,_,_⟩:=aj FE
      have eH:=hid (show yI wq (.pointer (some ⟨Dc.heap.size,0,none⟩)) (.pointer (some ⟨sO.heap.size,0,none⟩)) (.string r1) (.string r2) (.string r1) (.string r4) _ from ⟨_,_,rfl,rfl,kA2,kD,kB,Df.size,fq.size⟩)
      have uX:(Dc.heap.size:Nat)≠sO.heap.size:=Ne.symm iU
      clear kA kD kA2 kB
      gi_wp2_with fail
      gi_meet
      exact eH.out
   ·refine af rfl rfl (fun K hK=>?_)
    go_simp
    obtain ⟨Dg,Ho⟩ : ∃ q,q=nC.alloc (Obj.cells #[.string ⟨#[]⟩,.string ⟨#[]⟩] 113):=⟨_,rfl⟩
    have Dh:Dg.heap[nC.heap.size]?=some (.cells #[.string ⟨#[]⟩,.string ⟨#[]⟩] 113 (0,0)):=by rw [Ho];exact World.alloc_heap_new _ _
    have acz:Below nC.heap.size nC Dg:=by rw [Ho];exact ae _ _
    have Hq:=hR0.trans (acz.mono hR0.size)
    rw [←Ho]
    clear Ho
    refine hK _ _ ⟨Hq,?_⟩
    clear hK K
    try simp only [zA,zB,zC,Act.put,zD,zE,zF]
    refine dC ?_ ?_
    ·refine af rfl rfl (fun K hK=>?_)
     go_simp
     refine (Y4.out _ (hw.below (nT.out.trans (Hq.mono nT.out.size)))).mono ?_
     rintro e Hr ⟨rfl,Vk⟩
     have Ht:=Hq.trans (Vk.mono Hq.size)
     have oI:=(Vk.block _ (lt_of_some Dh)).trans Dh
     refine hK _ _ ⟨Ht,?_⟩
     clear hK K
     try simp only [zA,zB,zC,Act.put,zD,zE,zF]
     refine dC ?_ ?_
     ·refine af rfl rfl (fun K hK=>?_)
      go_simp
      refine (mF.out _ (hw.below (nT.out.trans (Ht.mono nT.out.size)))).mono ?_
      rintro e Hu ⟨rfl,Vl⟩
      have Q6:=Ht.trans (Vl.mono Ht.size)
      have yL:=(Vl.block _ (lt_of_some oI)).trans oI
      refine hK _ _ ⟨Q6,?_⟩
      clear hK K
      try simp only [zA,zB,zC,Act.put,zD,zE,zF]
      refine af rfl rfl (fun K hK=>?_)
      go_simp
      have afg:=lt_of_some yL
      obtain ⟨aed,Hw⟩ : ∃ q,q=Hu.alloc (Obj.cells #[.string ⟨#[]⟩,.string ⟨#[]⟩] 113):=⟨_,rfl⟩
      have Vm:aed.heap[Hu.heap.size]?=some (.cells #[.string ⟨#[]⟩,.string ⟨#[]⟩] 113 (0,0)):=by rw [Hw];exact World.alloc_heap_new _ _
      have Vn:Below Hu.heap.size Hu aed:=by rw [Hw];exact ae _ _
      have acA:=Q6.trans (Vn.mono Q6.size)
      rw [←Hw]
      clear Hw
      have yM:=(Vn.block _ (lt_of_some yL)).trans yL
      refine hK _ _ ⟨acA,?_⟩
      clear hK K
      try simp only [zA,zB,zC,Act.put,zD,zE,zF]
      obtain ⟨_,_,_,_⟩:=aj yM
      refine af rfl rfl (fun K hK=>?_)
      go_simp
      refine hK _ _ ⟨(acA.setCell (p:=⟨_,0,none⟩) hR0.size _).setCell (p:=⟨_,1,none⟩) hR0.size _,?_⟩
      clear hK K
      try simp only [zA,zB,zC,Act.put,zD,zE,zF]
      unfold bU
      simp only [List.drop_succ_cons,List.drop_zero]
      have iU:(Hu.heap.size:Nat)≠nC.heap.size:=by
       omega
      have kA:=aW (.string r2) (aT (.string r1) yM)
      have kD:=aW (.string r4) (aT (.string r1) ((bu (.string r1) (.string r2) iU).trans Vm))
      have kA2:=(bu (.string r1) (.string r4) (Ne.symm iU)).trans kA
      have kB:=((((acA).setCell (p:=⟨nC.heap.size,0,none⟩) hR0.size (.string r1)).setCell (p:=⟨nC.heap.size,1,none⟩) hR0.size (.string r2)).setCell (p:=⟨Hu.heap.size,0,none⟩) Q6.size (.string r1)).setCell (p:=⟨Hu.heap.size,1,none⟩) Q6.size (.string r4)
      obtain ⟨_,_,_,_⟩:=aj yM
      obtain ⟨_,_,_,_⟩:=aj Vm
      have eH:=hid (show yI wq (.pointer (some ⟨nC.heap.size,0,none⟩)) (.pointer (some ⟨Hu.heap.size,0,none⟩)) (.string r1) (.string r2) (.string r1) (.string r4) _ from ⟨_,_,rfl,rfl,kA2,kD,kB,hR0.size,Q6.size⟩)
      have uX:(nC.heap.size:Nat)≠Hu.heap.size:=Ne.symm iU
      clear kA kD kA2 kB
      gi_wp2_with fail
      gi_meet
      exact eH.out
     ·refine af rfl rfl (fun K hK=>?_)
      go_simp
      have afh:=lt_of_some oI
      obtain ⟨aee,Hy⟩ : ∃ q,q=Hr.alloc (Obj.cells #[.string ⟨#[]⟩,.string ⟨#[]⟩] 113):=⟨_,rfl⟩
      have Vo:aee.heap[Hr.heap.size]?=some (.cells #[.string ⟨#[]⟩,.string ⟨#[]⟩] 113 (0,0)):=by rw [Hy];exact World.alloc_heap_new _ _
      have Vp:Below Hr.heap.size Hr aee:=by rw [Hy];exact ae _ _
      have ZN:=Ht.trans (Vp.mono Ht.size)
      rw [←Hy]
      clear Hy
      have FH:=(Vp.block _ (lt_of_some oI)).trans oI
      refine hK _ _ ⟨ZN,?_⟩
      clear hK K
      try simp only [zA,zB,zC,Act.put,zD,zE,zF]
      refine af rfl rfl (fun K hK=>?_)
      go_simp
      refine (mF.out _ (hw.below (nT.out.trans (ZN.mono nT.out.size)))).mono ?_
      rintro e ag4 ⟨rfl,Nl⟩
      have acB:=ZN.trans (Nl.mono ZN.size)
      have yN:=(Nl.block _ (lt_of_some FH)).trans FH
      have FI:=(Nl.block _ (lt_of_some Vo)).trans Vo
      refine hK _ _ ⟨acB,?_⟩
      clear hK K
      try simp only [zA,zB,zC,Act.put,zD,zE,zF]
      obtain ⟨_,_,_,_⟩:=aj yN
      refine af rfl rfl (fun K hK=>?_)
      go_simp
      refine hK _ _ ⟨(acB.setCell (p:=⟨_,0,none⟩) hR0.size _).setCell (p:=⟨_,1,none⟩) hR0.size _,?_⟩
      clear hK K
      try simp only [zA,zB,zC,Act.put,zD,zE,zF]
      unfold bU
      simp only [List.drop_succ_cons,List.drop_zero]
      have iU:(Hr.heap.size:Nat)≠nC.heap.size:=by
       omega
      have kA:=aW (.string r2) (aT (.string r1) yN)
      have kD:=aW (.string r4) (aT (.string r1) ((bu (.string r1) (.string r2) iU).trans FI))
      have kA2:=(bu (.string r1) (.string r4) (Ne.symm iU)).trans kA
      have kB:=((((acB).setCell (p:=⟨nC.heap.size,0,none⟩) hR0.size (.string r1)).setCell (p:=⟨nC.heap.size,1,none⟩) hR0.size (.string r2)).setCell (p:=⟨Hr.heap.size,0,none⟩) Ht.size (.string r1)).setCell (p:=⟨Hr.heap.size,1,none⟩) Ht.size (.string r4)
      obtain ⟨_,_,_,_⟩:=aj yN
      obtain ⟨_,_,_,_⟩:=aj FI
      have eH:=hid (show yI wq (.pointer (some ⟨nC.heap.size,0,none⟩)) (.pointer (some ⟨Hr.heap.size,0,none⟩)) (.string r1) (.string r2) (.string r1) (.string r4) _ from ⟨_,_,rfl,rfl,kA2,kD,kB,hR0.size,Ht.size⟩)
      have uX:(nC.heap.size:Nat)≠Hr.heap.size:=Ne.symm iU
      clear kA kD kA2 kB
      gi_wp2_with fail
      gi_meet
      exact eH.out
    ·refine af rfl rfl (fun K hK=>?_)
     go_simp
     have afi:=lt_of_some Dh
     obtain ⟨aef,Hz⟩ : ∃ q,q=Dg.alloc (Obj.cells #[.string ⟨#[]⟩,.string ⟨#[]⟩] 113):=⟨_,rfl⟩
     have Vq:aef.heap[Dg.heap.size]?=some (.cells #[.string ⟨#[]⟩,.string ⟨#[]⟩] 113 (0,0)):=by rw [Hz];exact World.alloc_heap_new _ _
     have Vr:Below Dg.heap.size Dg aef:=by rw [Hz];exact ae _ _
     have ZO:=Hq.trans (Vr.mono Hq.size)
     rw [←Hz]
     clear Hz
     have FJ:=(Vr.block _ (lt_of_some Dh)).trans Dh
     refine hK _ _ ⟨ZO,?_⟩
     clear hK K
     try simp only [zA,zB,zC,Act.put,zD,zE,zF]
     refine af rfl rfl (fun K hK=>?_)
     go_simp
     refine (Y4.out _ (hw.below (nT.out.trans (ZO.mono nT.out.size)))).mono ?_
     rintro e ag5 ⟨rfl,Nn⟩
     have ZP:=ZO.trans (Nn.mono ZO.size)
     have FK:=(Nn.block _ (lt_of_some FJ)).trans FJ
     have FL:=(Nn.block _ (lt_of_some Vq)).trans Vq
     refine hK _ _ ⟨ZP,?_⟩
     clear hK K
     try simp only [zA,zB,zC,Act.put,zD,zE,zF]
     refine af rfl rfl (fun K hK=>?_)
     go_simp
     refine (mF.out _ (hw.below (nT.out.trans (ZP.mono nT.out.size)))).mono ?_
     rintro e ag6 ⟨rfl,Np⟩
     have acC:=ZP.trans (Np.mono ZP.size)
     have yO:=(Np.block _ (lt_of_some FK)).trans FK
     have FM:=(Np.block _ (lt_of_some FL)).trans FL
     refine hK _ _ ⟨acC,?_⟩
     clear hK K
     try simp only [zA,zB,zC,Act.put,zD,zE,zF]
     obtain ⟨_,_,_,_⟩:=aj yO
     refine af rfl rfl (fun K hK=>?_)
     go_simp
     refine hK _ _ ⟨(acC.setCell (p:=⟨_,0,none⟩) hR0.size _).setCell (p:=⟨_,1,none⟩) hR0.size _,?_⟩
     clear hK K
     try simp only [zA,zB,zC,Act.put,zD,zE,zF]
     unfold bU
     simp only [List.drop_succ_cons,List.drop_zero]
     have iU:(Dg.heap.size:Nat)≠nC.heap.size:=by
      omega
     have kA:=aW (.string r2) (aT (.string r1) yO)
     have kD:=aW (.string r4) (aT (.string r1) ((bu (.string r1) (.string r2) iU).trans FM))
     have kA2:=(bu (.string r1) (.string r4) (Ne.symm iU)).trans kA
     have kB:=((((acC).setCell (p:=⟨nC.heap.size,0,none⟩) hR0.size (.string r1)).setCell (p:=⟨nC.heap.size,1,none⟩) hR0.size (.string r2)).setCell (p:=⟨Dg.heap.size,0,none⟩) Hq.size (.string r1)).setCell (p:=⟨Dg.heap.size,1,none⟩) Hq.size (.string r4)
     obtain ⟨_,_,_,_⟩:=aj yO
     obtain ⟨_,_,_,_⟩:=aj FM
     have eH:=hid (show yI wq (.pointer (some ⟨nC.heap.size,0,none⟩)) (.pointer (some ⟨Dg.heap.size,0,none⟩)) (.string r1) (.string r2) (.string r1) (.string r4) _ from ⟨_,_,rfl,rfl,kA2,kD,kB,hR0.size,Hq.size⟩)
     have uX:(nC.heap.size:Nat)≠Dg.heap.size:=Ne.symm iU
     clear kA kD kA2 kB
     gi_wp2_with fail
     gi_meet
     exact eH.out
   ·refine af rfl rfl (fun K hK=>?_)
    go_simp
    obtain ⟨Di,H5⟩ : ∃ q,q=nC.alloc (Obj.cells #[.string ⟨#[]⟩,.string ⟨#[]⟩] 113):=⟨_,rfl⟩
    have Dj:Di.heap[nC.heap.size]?=some (.cells #[.string ⟨#[]⟩,.string ⟨#[]⟩] 113 (0,0)):=by rw [H5];exact World.alloc_heap_new _ _
    have acD:Below nC.heap.size nC Di:=by rw [H5];exact ae _ _
    have Dl:=hR0.trans (acD.mono hR0.size)
    rw [←H5]
    clear H5
    refine hK _ _ ⟨Dl,?_⟩
    clear hK K
    try simp only [zA,zB,zC,Act.put,zD,zE,zF]
    refine dC ?_ ?_
    ·refine af rfl rfl (fun K hK=>?_)
     go_simp
     refine (Y4.out _ (hw.below (nT.out.trans (Dl.mono nT.out.size)))).mono ?_
     rintro e H7 ⟨rfl,Vs⟩
     have Dn:=Dl.trans (Vs.mono Dl.size)
     have oJ:=(Vs.block _ (lt_of_some Dj)).trans Dj
     refine hK _ _ ⟨Dn,?_⟩
     clear hK K
     try simp only [zA,zB,zC,Act.put,zD,zE,zF]
     refine dC ?_ ?_
     ·refine af rfl rfl (fun K hK=>?_)
      go_simp
      refine (mF.out _ (hw.below (nT.out.trans (Dn.mono nT.out.size)))).mono ?_
      rintro e H8 ⟨rfl,Vt⟩
      have KI:=Dn.trans (Vt.mono Dn.size)
      have yP:=(Vt.block _ (lt_of_some oJ)).trans oJ
      refine hK _ _ ⟨KI,?_⟩
      clear hK K
      try simp only [zA,zB,zC,Act.put,zD,zE,zF]
      refine af rfl rfl (fun K hK=>?_)
      go_simp
      have afj:=lt_of_some yP
      obtain ⟨aeg,H9⟩ : ∃ q,q=H8.alloc (Obj.cells #[.string ⟨#[]⟩,.string ⟨#[]⟩] 113):=⟨_,rfl⟩
      have Nq:aeg.heap[H8.heap.size]?=some (.cells #[.string ⟨#[]⟩,.string ⟨#[]⟩] 113 (0,0)):=by rw [H9];exact World.alloc_heap_new _ _
      have Vu:Below H8.heap.size H8 aeg:=by rw [H9];exact ae _ _
      have acE:=KI.trans (Vu.mono KI.size)
      rw [←H9]
      clear H9
      have FN:=(Vu.block _ (lt_of_some yP)).trans yP
      refine hK _ _ ⟨acE,?_⟩
      clear hK K
      try simp only [zA,zB,zC,Act.put,zD,zE,zF]
      obtain ⟨_,_,_,_⟩:=aj Nq
      refine af rfl rfl (fun K hK=>?_)
      go_simp
      refine hK _ _ ⟨(acE.setCell (p:=⟨_,0,none⟩) KI.size _).setCell (p:=⟨_,1,none⟩) KI.size _,?_⟩
      clear hK K
      try simp only [zA,zB,zC,Act.put,zD,zE,zF]
      unfold bU
      simp only [List.drop_succ_cons,List.drop_zero]
      have iU:(nC.heap.size:Nat)≠H8.heap.size:=by
       omega
      have kA:=aW (.string r2) (aT (.string r1) Nq)
      have kD:=aW (.string r4) (aT (.string r1) ((bu (.string r1) (.string r2) iU).trans FN))
      have kA2:=(bu (.string r1) (.string r4) (Ne.symm iU)).trans kA
      have kB:=((((acE).setCell (p:=⟨H8.heap.size,0,none⟩) KI.size (.string r1)).setCell (p:=⟨H8.heap.size,1,none⟩) KI.size (.string r2)).setCell (p:=⟨nC.heap.size,0,none⟩) hR0.size (.string r1)).setCell (p:=⟨nC.heap.size,1,none⟩) hR0.size (.string r4)
      obtain ⟨_,_,_,_⟩:=aj Nq
      obtain ⟨_,_,_,_⟩:=aj FN
      have eH:=hid (show yI wq (.pointer (some ⟨H8.heap.size,0,none⟩)) (.pointer (some ⟨nC.heap.size,0,none⟩)) (.string r1) (.string r2) (.string r1) (.string r4) _ from ⟨_,_,rfl,rfl,kA2,kD,kB,KI.size,hR0.size⟩)
      have uX:(H8.heap.size:Nat)≠nC.heap.size:=Ne.symm iU
      clear kA kD kA2 kB
      gi_wp2_with fail
      gi_meet
      exact eH.out
     ·refine af rfl rfl (fun K hK=>?_)
      go_simp
      have afk:=lt_of_some oJ
      obtain ⟨aeh,Ia⟩ : ∃ q,q=H7.alloc (Obj.cells #[.string ⟨#[]⟩,.string ⟨#[]⟩] 113):=⟨_,rfl⟩
      have Vv:aeh.heap[H7.heap.size]?=some (.cells #[.string ⟨#[]⟩,.string ⟨#[]⟩] 113 (0,0)):=by rw [Ia];exact World.alloc_heap_new _ _
      have Vw:Below H7.heap.size H7 aeh:=by rw [Ia];exact ae _ _
      have ZQ:=Dn.trans (Vw.mono Dn.size)
      rw [←Ia]
      clear Ia
      have FO:=(Vw.block _ (lt_of_some oJ)).trans oJ
      refine hK _ _ ⟨ZQ,?_⟩
      clear hK K
      try simp only [zA,zB,zC,Act.put,zD,zE,zF]
      refine af rfl rfl (fun K hK=>?_)
      go_simp
      refine (mF.out _ (hw.below (nT.out.trans (ZQ.mono nT.out.size)))).mono ?_
      rintro e ag7 ⟨rfl,Nr⟩
      have acF:=ZQ.trans (Nr.mono ZQ.size)
      have FP:=(Nr.block _ (lt_of_some FO)).trans FO
      have yQ:=(Nr.block _ (lt_of_some Vv)).trans Vv
      refine hK _ _ ⟨acF,?_⟩
      clear hK K
      try simp only [zA,zB,zC,Act.put,zD,zE,zF]
      obtain ⟨_,_,_,_⟩:=aj yQ
      refine af rfl rfl (fun K hK=>?_)
      go_simp
      refine hK _ _ ⟨(acF.setCell (p:=⟨_,0,none⟩) Dn.size _).setCell (p:=⟨_,1,none⟩) Dn.size _,?_⟩
      clear hK K
      try simp only [zA,zB,zC,Act.put,zD,zE,zF]
      unfold bU
      simp only [List.drop_succ_cons,List.drop_zero]
      have iU:(nC.heap.size:Nat)≠H7.heap.size:=by
       omega
      have kA:=aW (.string r2) (aT (.string r1) yQ)
      have kD:=aW (.string r4) (aT (.string r1) ((bu (.string r1) (.string r2) iU).trans FP))
      have kA2:=(bu (.string r1) (.string r4) (Ne.symm iU)).trans kA
      have kB:=((((acF).setCell (p:=⟨H7.heap.size,0,none⟩) Dn.size (.string r1)).setCell (p:=⟨H7.heap.size,1,none⟩) Dn.size (.string r2)).setCell (p:=⟨nC.heap.size,0,none⟩) hR0.size (.string r1)).setCell (p:=⟨nC.heap.size,1,none⟩) hR0.size (.string r4)
      obtain ⟨_,_,_,_⟩:=aj yQ
      obtain ⟨_,_,_,_⟩:=aj FP
      have eH:=hid (show yI wq (.pointer (some ⟨H7.heap.size,0,none⟩)) (.pointer (some ⟨nC.heap.size,0,none⟩)) (.string r1) (.string r2) (.string r1) (.string r4) _ from ⟨_,_,rfl,rfl,kA2,kD,kB,Dn.size,hR0.size⟩)
      have uX:(H7.heap.size:Nat)≠nC.heap.size:=Ne.symm iU
      clear kA kD kA2 kB
      gi_wp2_with fail
      gi_meet
      exact eH.out
    ·refine af rfl rfl (fun K hK=>?_)
     go_simp
     have afl:=lt_of_some Dj
     obtain ⟨aei,Ib⟩ : ∃ q,q=Di.alloc (Obj.cells #[.string ⟨#[]⟩,.string ⟨#[]⟩] 113):=⟨_,rfl⟩
     have Vx:aei.heap[Di.heap.size]?=some (.cells #[.string ⟨#[]⟩,.string ⟨#[]⟩] 113 (0,0)):=by rw [Ib];exact World.alloc_heap_new _ _
     have Vy:Below Di.heap.size Di aei:=by rw [Ib];exact ae _ _
     have ZR:=Dl.trans (Vy.mono Dl.size)
     rw [←Ib]
     clear Ib
     have FQ:=(Vy.block _ (lt_of_some Dj)).trans Dj
     refine hK _ _ ⟨ZR,?_⟩
     clear hK K
     try simp only [zA,zB,zC,Act.put,zD,zE,zF]
     refine af rfl rfl (fun K hK=>?_)
     go_simp
     refine (Y4.out _ (hw.below (nT.out.trans (ZR.mono nT.out.size)))).mono ?_
     rintro e ag8 ⟨rfl,Ns⟩
     have ZT:=ZR.trans (Ns.mono ZR.size)
     have FR:=(Ns.block _ (lt_of_some FQ)).trans FQ
     have FT:=(Ns.block _ (lt_of_some Vx)).trans Vx
     refine hK _ _ ⟨ZT,?_⟩
     clear hK K
     try simp only [zA,zB,zC,Act.put,zD,zE,zF]
     refine af rfl rfl (fun K hK=>?_)
     go_simp
     refine (mF.out _ (hw.below (nT.out.trans (ZT.mono nT.out.size)))).mono ?_
     rintro e ag9 ⟨rfl,Nt⟩
     have acG:=ZT.trans (Nt.mono ZT.size)
     have FU:=(Nt.block _ (lt_of_some FR)).trans FR
     have yR:=(Nt.block _ (lt_of_some FT)).trans FT
     refine hK _ _ ⟨acG,?_⟩
     clear hK K
     try simp only [zA,zB,zC,Act.put,zD,zE,zF]
     obtain ⟨_,_,_,_⟩:=aj yR
     refine af rfl rfl (fun K hK=>?_)
     go_simp
     refine hK _ _ ⟨(acG.setCell (p:=⟨_,0,none⟩) Dl.size _).setCell (p:=⟨_,1,none⟩) Dl.size _,?_⟩
     clear hK K
     try simp only [zA,zB,zC,Act.put,zD,zE,zF]
     unfold bU
     simp only [List.drop_succ_cons,List.drop_zero]
     have iU:(nC.heap.size:Nat)≠Di.heap.size:=by
      omega
     have kA:=aW (.string r2) (aT (.string r1) yR)
     have kD:=aW (.string r4) (aT (.string r1) ((bu (.string r1) (.string r2) iU).trans FU))
     have kA2:=(bu (.string r1) (.string r4) (Ne.symm iU)).trans kA
     have kB:=((((acG).setCell (p:=⟨Di.heap.size,0,none⟩) Dl.size (.string r1)).setCell (p:=⟨Di.heap.size,1,none⟩) Dl.size (.string r2)).setCell (p:=⟨nC.heap.size,0,none⟩) hR0.size (.string r1)).setCell (p:=⟨nC.heap.size,1,none⟩) hR0.size (.string r4)
     obtain ⟨_,_,_,_⟩:=aj yR
     obtain ⟨_,_,_,_⟩:=aj FU
     have eH:=hid (show yI wq (.pointer (some ⟨Di.heap.size,0,none⟩)) (.pointer (some ⟨nC.heap.size,0,none⟩)) (.string r1) (.string r2) (.string r1) (.string r4) _ from ⟨_,_,rfl,rfl,kA2,kD,kB,Dl.size,hR0.size⟩)
     have uX:(Di.heap.size:Nat)≠nC.heap.size:=Ne.symm iU
     clear kA kD kA2 kB
     gi_wp2_with fail
     gi_meet
     exact eH.out
  case rest =>
  obtain ⟨C1,C2,rfl,rfl,hC,hF,O6,hgC,hgF⟩:=hcut
  obtain ⟨wm,hwm⟩ : ∃ q,q=wc:=⟨_,rfl⟩
  subst hwm
  have aej:=hid (nT.out.trans (O6.mono nT.out.size))
  have Zd:=hid (di HJ.out HJQ.out O6)
  have Eh:=hid hC
  have Yv:=hid hF
  have HEM:=hid (ad7.out.below O6)
  have HK2:=hid HEM.out.hk
  have HGK:=hid HEM.out.ge.2.2.2.2.2.1
  have hz:=(O6.block _ (aa HZQ.out)).trans HZQ.out
  have aek:=hid hz
  have ha:=(O6.block _ (aa HA2.out)).trans HA2.out
  have HA9:=hid ((O6.block _ (aa HD2.out)).trans HD2.out)
  have af3:=hid (show N0≤bq by have:=HGQ.out;have:=OC.out.size;have:=HN0.out;omega)
  have HGA:=hid (show N0≤A9 by have:=afZ.out.2;have:=HN0.out;omega)
  have HGC:=hid (show N0≤C1∧N0≤C2 by have:=nT.out.size;have:=HN0.out;omega)
  obtain ⟨q0,q1,q2,q3,q4,q5,q6,q7⟩:=rH hz
  obtain ⟨y0,y1,_,_⟩:=aj hC
  obtain ⟨x0,x1,_,_⟩:=aj hF
  obtain ⟨m0,_,_⟩:=av ha
  have k0:=bK HEM.out.hk
  have lq:=aa hz
  have lc:=aa hC
  have ld:=aa hF
  have lk:=aa HEM.out.hk
  have lA:=aa ha
  clear hC hF O6 hgC hgF hz ha heq n0 n1 n2
  gi_upto_region 9 with fail
  have mG:=hid (fun W' (hS':Below wm.heap.size wm W')=>And.intro ((hS'.cell (p:=⟨Bk,0,none⟩) lk).trans k0) (And.intro ((hS'.cell (p:=⟨A8,0,none⟩) lA).trans m0) (And.intro ((hS'.cell (p:=⟨bq,0,none⟩) lq).trans q0) (And.intro ((hS'.cell (p:=⟨bq,1,none⟩) lq).trans q1) (And.intro ((hS'.cell (p:=⟨bq,2,none⟩) lq).trans q2) (And.intro ((hS'.cell (p:=⟨bq,3,none⟩) lq).trans q3) (And.intro ((hS'.cell (p:=⟨bq,4,none⟩) lq).trans q4) (And.intro ((hS'.cell (p:=⟨bq,5,none⟩) lq).trans q5) (And.intro ((hS'.cell (p:=⟨bq,6,none⟩) lq).trans q6) (And.intro ((hS'.cell (p:=⟨bq,7,none⟩) lq).trans q7) (And.intro ((hS'.cell (p:=⟨C1,0,none⟩) lc).trans y0) (And.intro ((hS'.cell (p:=⟨C1,1,none⟩) lc).trans y1) (And.intro ((hS'.cell (p:=⟨C2,0,none⟩) ld).trans x0) ((hS'.cell (p:=⟨C2,1,none⟩) ld).trans x1))))))))))))))
  refine bN bW (fun W'=>Below wm.heap.size wm W') (.take 0 (.take 1 (.take 2 (.take 3 (.take 4 (.take 5 (.take 6 (.take 7 (.take 8 (.take 9 (.take 10 (.take 11 (.one 12 (.take 13 (.take 14 .fin))))))))))))))) 15 (by kernel_rfl) (by kernel_rfl) (by kernel_rfl) ⟨rfl,rfl,rfl,Nat.le_refl _,fun _ _=>rfl⟩ ?_
  have hS0:Below wm.heap.size wm wm.drew:=⟨rfl,rfl,rfl,Nat.le_refl _,fun _ _=>rfl⟩
  generalize wm.drew=sv0 at *
  iterate 12
   refine aD rfl ?_ rfl ?_ ?_
   rotate_left
   ·intro W' hS'
    obtain ⟨s0,s1,s2,s3,s4,s5,s6,s7,s8,s9,s10,s11,s12,s13⟩:=mG.out _ hS'
    go_simp
    try with_reducible rfl
   try simp only [zA,zB,zC,Act.put,zD,zE,zF]
  refine af rfl rfl (fun K hK=>?_)
  go_simp
  obtain ⟨sv1,O7⟩ : ∃ q,q=sv0.alloc (Obj.cells #[.string tA,.string p1,.string r1,.string r2,.string r1,.string r4,.string tA,.string p4] 113):=⟨_,rfl⟩
  have Ct:sv1.heap[sv0.heap.size]?=some (.cells #[.string tA,.string p1,.string r1,.string r2,.string r1,.string r4,.string tA,.string p4] 113 (0,0)):=by rw [O7];exact World.alloc_heap_new _ _
  have Uj:Below sv0.heap.size sv0 sv1:=by rw [O7];exact ae _ _
  have hS1:=hS0.trans (Uj.mono hS0.size)
  rw [←O7]
  clear O7
  refine hK _ _ ⟨hS1,?_⟩
  clear hK K
  try simp only [zA,zB,zC,Act.put,zD,zE,zF]
  iterate 2
   refine aD rfl ?_ rfl ?_ ?_
   rotate_left
   ·intro W' hS'
    obtain ⟨s0,s1,s2,s3,s4,s5,s6,s7,s8,s9,s10,s11,s12,s13⟩:=mG.out _ hS'
    go_simp
    try with_reducible rfl
   try simp only [zA,zB,zC,Act.put,zD,zE,zF]
  unfold bU
  simp only [List.drop_succ_cons,List.drop_zero]
  have Lv:=aej.out.trans (hS1.mono aej.out.size)
  have QY:=hid (show ∃ x,(aA P k s)[0]?=some x∧ql x (.agg #[.int .i64 (k:Int),.string u1,.slice (some ⟨sv0.heap.size,0,none⟩) 4 4,.bool false]) sv1 from ⟨_,acr.out,mh rfl HU1.out rfl afW.out Ct (by decide)⟩)
  have hJv:J 0 sv1:=di HJ.out Zd.out hS1
  obtain ⟨fn,tmps,assign,body,hy,hR⟩:=HY.out 0 (by rw [QZ.out];decide) _ sv1 hJv QY.out
  have HB1:=hid Lv
  have HSN:=hid hS1
  clear hJv Lv k0 m0 q0 q1 q2 q3 q4 q5 q6 q7 y0 y1 x0 x1
  gi_wp2
  refine hR.mono ?_
  rintro e W9 (⟨rfl,Cu,RH⟩ | ⟨rfl,pM⟩)
  ·have HJ1:=hid Cu
   have RI:=hid (RH (by rw [QZ.out];decide))
   clear Cu RH
   have hq9:=RI.out bq _ af3.out ((HSN.out.block _ (aa aek.out)).trans aek.out) rfl
   have hc9:=RI.out C1 _ HGC.out.1 ((HSN.out.block _ (aa Eh.out)).trans Eh.out) rfl
   have hd9:=RI.out C2 _ HGC.out.2 ((HSN.out.block _ (aa Yv.out)).trans Yv.out) rfl
   have RH:=RI.out Bk _ HGK.out ((HSN.out.block _ (aa HK2.out)).trans HK2.out) rfl
   have ha9:=RI.out A9 _ HGA.out ((HSN.out.block _ (aa HA9.out)).trans HA9.out) rfl
   obtain ⟨q0,q1,q2,q3,q4,q5,q6,q7⟩:=rH hq9
   obtain ⟨y0,y1,_,_⟩:=aj hc9
   obtain ⟨x0,x1,_,_⟩:=aj hd9
   obtain ⟨m0,_,_⟩:=av ha9
   have k0:=bK RH
   have lq:=aa hq9
   have lc:=aa hc9
   have ld:=aa hd9
   have lk:=aa RH
   have lA:=aa ha9
   have ael:=hid (Below.refl W9.heap.size W9)
   clear hq9 hc9 hd9 RH ha9
   gi_upto_region 10 with fail
   have mG:=hid (fun W' (hS':Below W9.heap.size W9 W')=>And.intro ((hS'.cell (p:=⟨Bk,0,none⟩) lk).trans k0) (And.intro ((hS'.cell (p:=⟨A9,0,none⟩) lA).trans m0) (And.intro ((hS'.cell (p:=⟨bq,0,none⟩) lq).trans q0) (And.intro ((hS'.cell (p:=⟨bq,1,none⟩) lq).trans q1) (And.intro ((hS'.cell (p:=⟨bq,2,none⟩) lq).trans q2) (And.intro ((hS'.cell (p:=⟨bq,3,none⟩) lq).trans q3) (And.intro ((hS'.cell (p:=⟨bq,4,none⟩) lq).trans q4) (And.intro ((hS'.cell (p:=⟨bq,5,none⟩) lq).trans q5) (And.intro ((hS'.cell (p:=⟨bq,6,none⟩) lq).trans q6) (And.intro ((hS'.cell (p:=⟨bq,7,none⟩) lq).trans q7) (And.intro ((hS'.cell (p:=⟨C1,0,none⟩) lc).trans y0) (And.intro ((hS'.cell (p:=⟨C1,1,none⟩) lc).trans y1) (And.intro ((hS'.cell (p:=⟨C2,0,none⟩) ld).trans x0) ((hS'.cell (p:=⟨C2,1,none⟩) ld).trans x1))))))))))))))
   refine bN bW (fun W'=>Below W9.heap.size W9 W') (.take 0 (.take 1 (.take 2 (.take 3 (.take 4 (.take 5 (.take 6 (.take 7 (.take 8 (.take 9 (.take 10 (.take 11 (.one 12 (.take 13 (.take 14 .fin))))))))))))))) 15 (by kernel_rfl) (by kernel_rfl) (by kernel_rfl) ⟨rfl,rfl,rfl,Nat.le_refl _,fun _ _=>rfl⟩ ?_
   have hT0:Below W9.heap.size W9 W9.drew:=⟨rfl,rfl,rfl,Nat.le_refl _,fun _ _=>rfl⟩
   generalize W9.drew=tv0 at *
   iterate 12
    refine aD rfl ?_ rfl ?_ ?_
    rotate_left
    ·intro W' hS'
     obtain ⟨s0,s1,s2,s3,s4,s5,s6,s7,s8,s9,s10,s11,s12,s13⟩:=mG.out _ hS'
     go_simp
     try with_reducible rfl
    try simp only [zA,zB,zC,Act.put,zD,zE,zF]
   refine af rfl rfl (fun K hK=>?_)
   go_simp
   obtain ⟨tv1,O8⟩ : ∃ q,q=tv0.alloc (Obj.cells #[.string r1,.string r2,.string tC,.string p2,.string tC,.string p3,.string r1,.string r4] 113):=⟨_,rfl⟩
   have Ct:tv1.heap[tv0.heap.size]?=some (.cells #[.string r1,.string r2,.string tC,.string p2,.string tC,.string p3,.string r1,.string r4] 113 (0,0)):=by rw [O8];exact World.alloc_heap_new _ _
   have aem:Below tv0.heap.size tv0 tv1:=by rw [O8];exact ae _ _
   have hT1:=hT0.trans (aem.mono hT0.size)
   rw [←O8]
   clear O8
   refine hK _ _ ⟨hT1,?_⟩
   clear hK K
   try simp only [zA,zB,zC,Act.put,zD,zE,zF]
   iterate 2
    refine aD rfl ?_ rfl ?_ ?_
    rotate_left
    ·intro W' hS'
     obtain ⟨s0,s1,s2,s3,s4,s5,s6,s7,s8,s9,s10,s11,s12,s13⟩:=mG.out _ hS'
     go_simp
     try with_reducible rfl
    try simp only [zA,zB,zC,Act.put,zD,zE,zF]
   unfold bU
   simp only [List.drop_succ_cons,List.drop_zero]
   have Lv:=ael.out.trans (hT1.mono ael.out.size)
   have QY:=hid (show ∃ x,(aA P k s)[1]?=some x∧ql x (.agg #[.int .i64 (k:Int),.string u2,.slice (some ⟨tv0.heap.size,0,none⟩) 4 4,.bool true]) tv1 from ⟨_,af0.out,mh rfl HU2.out rfl J3.out Ct (by decide)⟩)
   have hJv:J 1 tv1:=di HJ.out HJ1.out hT1
   obtain ⟨fn,tmps,assign,body,hy,hR⟩:=HY.out 1 (by rw [QZ.out];decide) _ tv1 hJv QY.out
   clear hJv Lv k0 m0 q0 q1 q2 q3 q4 q5 q6 q7 y0 y1 x0 x1
   gi_wp2
   refine hR.mono ?_
   rintro e W8 (⟨rfl,hJ8,_⟩ | ⟨rfl,aen⟩)
   ·have HJ8:=hid hJ8
    clear hJ8
    gi_wp2
    go_end0
    exact ⟨⟨_,rfl⟩,.inl (by rw [QZ.out];exact HJ8.out)⟩
   ·have HJ8:=hid aen
    clear aen
    gi_wp2
    go_end0
    exact ⟨⟨_,rfl⟩,.inr ⟨1,by rw [QZ.out];decide,HJ8.out⟩⟩
  ·have Ap:=hid pM
   clear pM
   gi_wp2
   go_end0
   exact ⟨⟨_,rfl⟩,.inr ⟨0,by rw [QZ.out];decide,Ap.out⟩⟩
end Go.Proofs.YtglncfkoohgdaaaGreatDoor
