import Derived.Test.YtglncfkoohgdaaaGreatDoorE7R
import Derived.Test.YtglncfkoohgdaaaGreatDoorG11R
set_option maxRecDepth 100000
set_option maxHeartbeats 8000000
namespace Go.Proofs.YtglncfkoohgdaaaGreatDoor
open Go.RowKit Go.Shelf
open Go.Lib (decDigits itoa nDigits)
open Go.Lib (hid)
attribute [local go_sem] Oper.semAt_some
def acL (w:World) (s5 s6:Value) (a b c d e f:Value) (W:World):Prop:=∃ A D,s5=.pointer (some ⟨A,0,none⟩)∧s6=.pointer (some ⟨D,0,none⟩)∧W.heap[A]?=some (.cells #[a,b,c] 89 (0,0))∧W.heap[D]?=some (.cells #[d,e,f] 89 (0,0))∧Below w.heap.size w W∧w.heap.size≤A∧w.heap.size≤D
def yS (w:World) (s5 s6:Value) (a b c d:Value) (W:World):Prop:=∃ A D,s5=.pointer (some ⟨A,0,none⟩)∧s6=.pointer (some ⟨D,0,none⟩)∧W.heap[A]?=some (.cells #[a,b] 113 (0,0))∧W.heap[D]?=some (.cells #[c,d] 113 (0,0))∧Below w.heap.size w W∧w.heap.size≤A∧w.heap.size≤D
theorem rV {W:World} {B:Nat} {t:TypeId} {a b c d e f g h:Value} (hh:W.heap[B]?=some (.cells #[a,b,c,d,e,f,g,h] t (0,0))) :
  W.cell? ⟨B,0,none⟩=some a∧W.cell? ⟨B,1,none⟩=some b∧W.cell? ⟨B,2,none⟩=some c∧W.cell? ⟨B,3,none⟩=some d∧W.cell? ⟨B,4,none⟩=some e∧W.cell? ⟨B,5,none⟩=some f∧W.cell? ⟨B,6,none⟩=some g∧W.cell? ⟨B,7,none⟩=some h:=by
 refine ⟨by simp [World.cell?,hh],by simp [World.cell?,hh],by simp [World.cell?,hh],by simp [World.cell?,hh],by simp [World.cell?,hh],by simp [World.cell?,hh],by simp [World.cell?,hh],by simp [World.cell?,hh]⟩
theorem rW {P:bQ} {k:Nat} {s:Stp} (h:s.k=1):((ah (ai P k) s.i).u=(ah (ai P (k+1)) s.j).u→aC P k s=[(⟨k,(ah (ai P k) s.i).u,OH P k (ah (ai P k) s.i) (ah (ai P (k+1)) s.j)⟩,false)]) ∧
  (¬ (ah (ai P k) s.i).u=(ah (ai P (k+1)) s.j).u→aC P k s =
   [(⟨k,(ah (ai P k) s.i).u,[aG P k (ah (ai P k) s.i).b,l8 (aG P k (ah (ai P k) s.i).b) (aG P (k+1) (ah (ai P (k+1)) s.j).b),l8 (aG P k (ah (ai P k) s.i).a) (aG P (k+1) (ah (ai P (k+1)) s.j).a),aG P k (ah (ai P k) s.i).a]⟩,false),
   (⟨k,(ah (ai P (k+1)) s.j).u,[l8 (aG P k (ah (ai P k) s.i).b) (aG P (k+1) (ah (ai P (k+1)) s.j).b),aG P (k+1) (ah (ai P (k+1)) s.j).b,aG P (k+1) (ah (ai P (k+1)) s.j).a,l8 (aG P k (ah (ai P k) s.i).a) (aG P (k+1) (ah (ai P (k+1)) s.j).a)]⟩,true)]):=by
 unfold aC
 rw [if_pos h]
 exact ⟨fun e=>if_pos e,fun e=>if_neg e⟩
theorem bz {W:World} {A D:Nat} (u v:Value) (h:D≠A):((W.setCell ⟨A,0,none⟩ u).setCell ⟨A,1,none⟩ v).heap[D]?=W.heap[D]?:=by
 rw [Below.heap_setCell _ _ _ _ h,Below.heap_setCell _ _ _ _ h]
theorem Nj {N0:Nat} {vg va vt:Value} {P:bQ} {k:Nat} {s:Stp} {Bs Bl Br B1 B2 Bk Bp:Nat} {vl vr:Value} (hk:k+1<P.lg.length) (hO:dm P) (hs:s.k=1) (hi:s.i<(ai P k).length) (hj:s.j<(ai P (k+1)).length) (l:Nat) (J Jx:Nat→World→Prop) (W:World) (hw:Good W) (hE:lF N0 vg va vt P k s Bs Bl Br B1 B2 Bk Bp vl vr W)
  (hJ:kP 97 W.heap.size J)
  (hY:∀ i (_:i<(aC P k s).length) v W1,J i W1→(∃ x,(aC P k s)[i]?=some x∧qx x v W1)→YieldAt Fence.wide 8 Tryz.prog l #[v] W1 fun e W'=>(e=.returned (.bool true)∧J (i+1) W'∧(i+1<(aC P k s).length→iM N0 W1 W'))∨(e=.returned (.bool false)∧Jx i W')) (h0:J 0 W) :
  CallsIn Fence.wide 9 Tryz.prog 104 #[.func (.yield l) #[] #[],.pointer (some ⟨Bs,0,none⟩),.pointer (some ⟨Bl,0,none⟩),.pointer (some ⟨Br,0,none⟩),.pointer (some ⟨B1,0,none⟩),.pointer (some ⟨B2,0,none⟩),.pointer (some ⟨Bk,0,none⟩)] W fun e W'=>(∃ v,e=.returned v)∧(J (aC P k s).length W'∨∃ i,i<(aC P k s).length∧Jx i W'):=by
 have QY:=hid (rW (P:=P) (k:=k) hs)
 have hix:=hO.iv k s.i (by omega) hi
 have hiy:=hO.iv (k+1) s.j hk hj
 have zxa:=hix.1.c4
 have zxb:=hix.2.c4
 have zya:=hiy.1.c4
 have zyb:=hiy.2.c4
 have zat:=(hO.xs k (by omega)).c4
 have acM:=(hO.xs (k+1) hk).c4
 have ztp:=(hO.tp k (by omega)).c4
 have acN:=(hO.tp (k+1) hk).c4
 have ZC:=hid (fun w' (hg:Good w')=>FL (aG P k (ah (ai P k) s.i).b) (aG P (k+1) (ah (ai P (k+1)) s.j).b) ⟨zat.mono (by decide),(ztp.sub zxb).mono (by decide)⟩ ⟨acM.mono (by decide),(acN.sub zyb).mono (by decide)⟩ w' hg)
 have mE:=hid (fun w' (hg:Good w')=>FL (aG P k (ah (ai P k) s.i).a) (aG P (k+1) (ah (ai P (k+1)) s.j).a) ⟨zat.mono (by decide),(ztp.sub zxa).mono (by decide)⟩ ⟨acM.mono (by decide),(acN.sub zya).mono (by decide)⟩ w' hg)
 have hue:((us (ah (ai P k) s.i).u).toList == (us (ah (ai P (k+1)) s.j).u).toList)=decide ((ah (ai P k) s.i).u=(ah (ai P (k+1)) s.j).u):=by
  rw [Bool.eq_iff_iff,beq_iff_eq,decide_eq_true_eq,Lib.toList_data,Lib.toList_data]
 have HUE:=hid hue
 have HCQ:=hid (show (#[.string (tx (cZ P k)),.string (tx (bG P k-(ah (ai P k) s.i).b)),.string (tx (cZ P (k+1))),.string (tx (bG P (k+1)-(ah (ai P (k+1)) s.j).b)),.string (tx (cZ P (k+1))),.string (tx (bG P (k+1)-(ah (ai P (k+1)) s.j).a)),.string (tx (cZ P k)),.string (tx (bG P k-(ah (ai P k) s.i).a))]:Array Value).toList=cellsS ((OH P k (ah (ai P k) s.i) (ah (ai P (k+1)) s.j):List QP).map aR) from rfl)
 have agj:=hid (show (#[.string (tx (cZ P k)),.string (tx (bG P k-(ah (ai P k) s.i).b)),.string (tx ((cZ P k+cZ P (k+1))*(1/2))),.string (tx (((bG P k-(ah (ai P k) s.i).b)+(bG P (k+1)-(ah (ai P (k+1)) s.j).b))*(1/2))),.string (tx ((cZ P k+cZ P (k+1))*(1/2))),.string (tx (((bG P k-(ah (ai P k) s.i).a)+(bG P (k+1)-(ah (ai P (k+1)) s.j).a))*(1/2))),.string (tx (cZ P k)),.string (tx (bG P k-(ah (ai P k) s.i).a))]:Array Value).toList=cellsS (([aG P k (ah (ai P k) s.i).b,l8 (aG P k (ah (ai P k) s.i).b) (aG P (k+1) (ah (ai P (k+1)) s.j).b),l8 (aG P k (ah (ai P k) s.i).a) (aG P (k+1) (ah (ai P (k+1)) s.j).a),aG P k (ah (ai P k) s.i).a]:List QP).map aR) from rfl)
 have Ki:=hid (show (#[.string (tx ((cZ P k+cZ P (k+1))*(1/2))),.string (tx (((bG P k-(ah (ai P k) s.i).b)+(bG P (k+1)-(ah (ai P (k+1)) s.j).b))*(1/2))),.string (tx (cZ P (k+1))),.string (tx (bG P (k+1)-(ah (ai P (k+1)) s.j).b)),.string (tx (cZ P (k+1))),.string (tx (bG P (k+1)-(ah (ai P (k+1)) s.j).a)),.string (tx ((cZ P k+cZ P (k+1))*(1/2))),.string (tx (((bG P k-(ah (ai P k) s.i).a)+(bG P (k+1)-(ah (ai P (k+1)) s.j).a))*(1/2)))]:Array Value).toList=cellsS (([l8 (aG P k (ah (ai P k) s.i).b) (aG P (k+1) (ah (ai P (k+1)) s.j).b),aG P (k+1) (ah (ai P (k+1)) s.j).b,aG P (k+1) (ah (ai P (k+1)) s.j).a,l8 (aG P k (ah (ai P k) s.i).a) (aG P (k+1) (ah (ai P (k+1)) s.j).a)]:List QP).map aR) from rfl)
 have HJ:=hid hJ
 have HY:=hid hY
 have HJW:=hid h0
 have Mi:=hid (Nat.le_refl W.heap.size)
 obtain ⟨pl,cl,rfl,hcl,gZ⟩:=hE.vL.slice
 obtain ⟨pr,cr,rfl,hcr,aem⟩:=hE.vR.slice
 obtain ⟨b,off,rfl,lb,c0,c1,c2⟩:=hE.vL.at hi
 obtain ⟨b2,lW,rfl,Qn,d0,d1,d2⟩:=hE.vR.at hj
 have HE:=hid hE
 have HT:=hid (fun wJ (vF:Below W.heap.size W wJ) (Dh:Hid (lF N0 vg va vt P k s Bs Bl Br B1 B2 Bk Bp (.slice (some ⟨b,off,none⟩) (ai P k).length cl) (.slice (some ⟨b2,lW,none⟩) (ai P (k+1)).length cr) wJ))=>And.intro (fun W' (hb:Below wJ.heap.size wJ W')=>De (w:=W') vg va vt P k (ah (ai P k) s.i).b Bp Bk (by omega) hO ((hE.pm.below vF).below hb) ((hb.block _ (aa Dh.out.hp)).trans Dh.out.hp) ((hb.block _ (aa Dh.out.hk)).trans Dh.out.hk) zxb.sm (hw.below (vF.trans (hb.mono vF.size)))) (And.intro (fun W' (hb:Below wJ.heap.size wJ W')=>Df (w:=W') vg va vt P k (ah (ai P (k+1)) s.j).b Bp Bk hk hO ((hE.pm.below vF).below hb) ((hb.block _ (aa Dh.out.hp)).trans Dh.out.hp) ((hb.block _ (aa Dh.out.hk)).trans Dh.out.hk) zyb.sm (hw.below (vF.trans (hb.mono vF.size)))) (And.intro (fun W' (hb:Below wJ.heap.size wJ W')=>Df (w:=W') vg va vt P k (ah (ai P (k+1)) s.j).a Bp Bk hk hO ((hE.pm.below vF).below hb) ((hb.block _ (aa Dh.out.hp)).trans Dh.out.hp) ((hb.block _ (aa Dh.out.hk)).trans Dh.out.hk) zya.sm (hw.below (vF.trans (hb.mono vF.size)))) (fun W' (hb:Below wJ.heap.size wJ W')=>De (w:=W') vg va vt P k (ah (ai P k) s.i).a Bp Bk (by omega) hO ((hE.pm.below vF).below hb) ((hb.block _ (aa Dh.out.hp)).trans Dh.out.hp) ((hb.block _ (aa Dh.out.hk)).trans Dh.out.hk) zxa.sm (hw.below (vF.trans (hb.mono vF.size)))))))
 unfold RV xm l8 aG at ZC mE
 dsimp only at ZC mE
 unfold RV xm aG at HT
 dsimp only at HT
 obtain ⟨g0,g1,g2⟩:=az hE.hs
 have FM:=(one_cell hE.hl).1
 have FN:=(one_cell hE.hr).1
 have ls:=aa hE.hs
 have ll:=aa hE.hl
 have lr:=aa hE.hr
 have aen:=enters_of Tryz.func102 (by kernel_rfl) rfl
 have aeo:=enters_of Tryz.func103 (by kernel_rfl) rfl
 have R4:=(hO.log k (by omega)).2
 have ahq:=(hO.log (k+1) hk).2
 generalize hnl:(ai P k).length=nl at *
 generalize hnr:(ai P (k+1)).length=nr at *
 generalize hu1:us (ah (ai P k) s.i).u=u1 at *
 generalize hu2:us (ah (ai P (k+1)) s.j).u=u2 at *
 have HU1:=hid hu1
 have HU2:=hid hu2
 generalize tx ((cZ P k+cZ P (k+1))*(1/2))=r1 at *
 generalize tx ((bG P k-(ah (ai P k) s.i).b+(bG P (k+1)-(ah (ai P (k+1)) s.j).b))*(1/2))=r2 at *
 generalize tx ((bG P k-(ah (ai P k) s.i).a+(bG P (k+1)-(ah (ai P (k+1)) s.j).a))*(1/2))=r4 at *
 generalize tx (bG P k-(ah (ai P k) s.i).b)=p1 at *
 generalize tx (bG P (k+1)-(ah (ai P (k+1)) s.j).b)=p2 at *
 generalize tx (bG P (k+1)-(ah (ai P (k+1)) s.j).a)=p3 at *
 generalize tx (bG P k-(ah (ai P k) s.i).a)=p4 at *
 generalize tx (cZ P k)=tA at *
 generalize tx (cZ P (k+1))=tC at *
 generalize tx (ah (ai P k) s.i).a=YY at *
 generalize tx (ah (ai P k) s.i).b=tb1 at *
 generalize tx (ah (ai P (k+1)) s.j).a=ta2 at *
 generalize tx (ah (ai P (k+1)) s.j).b=tb2 at *
 have HEQ:=hid (show decide ((ah (ai P k) s.i).u=(ah (ai P (k+1)) s.j).u)=(u1.toList == u2.toList) from hue.symm)
 rw [hs] at g0
 generalize hgi:s.i=si at *
 generalize hgj:s.j=sj at *
 have i1:(0:Int)≤(si:Int):=by omega
 have i2:(si:Int)<(nl:Int):=by omega
 have i3:(0:Int)≤(sj:Int):=by omega
 have i4:(sj:Int)<(nr:Int):=by omega
 have HN0:=hid (show N0≤W.heap.size by have:=HE.out.ge.1;omega)
 clear hix hiy zxa zxb zya zyb zat acM ztp acN hue hE hJ hY h0 hu1 hu2 hgi hgj hnl hnr hO hi hj hs hk
 refine callsIn_of_wp Tryz.func104 rfl trivial ?_ rfl
 simp only [Tryz.ntmps104,List.size_toArray,List.length_cons,List.length_nil,Nat.reduceAdd,Nat.reduceSub,Array.replicate_succ,Array.replicate_zero,List.push_toArray,List.append_toArray,List.nil_append,List.cons_append]
 gi_upto_region 4 with fail
 try dsimp only
 gi_cut [8,9] from 46 (fun s8 s9 wx=>acL W s8 s9 (.string u1) (.string YY) (.string tb1) (.string u2) (.string ta2) (.string tb2) wx)
 case first =>
  have kL:=hid (fun W' (hS':Below W.heap.size W W')=>And.intro ((hS'.cell (p:=⟨Bs,1,none⟩) ls).trans g1) (And.intro ((hS'.cell (p:=⟨Bs,2,none⟩) ls).trans g2) (And.intro ((hS'.cell (p:=⟨Bl,0,none⟩) ll).trans FM) (And.intro ((hS'.cell (p:=⟨Br,0,none⟩) lr).trans FN) (And.intro ((hS'.cell (p:=⟨b,off+si*3,none⟩) lb).trans c0) (And.intro ((hS'.cell (p:=⟨b,off+si*3+1,none⟩) lb).trans c1) (And.intro ((hS'.cell (p:=⟨b,off+si*3+2,none⟩) lb).trans c2) (And.intro ((hS'.cell (p:=⟨b2,lW+sj*3,none⟩) Qn).trans d0) (And.intro ((hS'.cell (p:=⟨b2,lW+sj*3+1,none⟩) Qn).trans d1) ((hS'.cell (p:=⟨b2,lW+sj*3+2,none⟩) Qn).trans d2))))))))))
  refine bN bT (fun W'=>Below W.heap.size W W') (.take 0 (.take 1 (.take 2 (.take 3 (.take 4 (.take 5 (.take 6 (.take 7 (.take 8 (.take 9 (.two 10 (.one 11 (.one 12 .fin)) 11 (.one 10 (.one 12 .fin))))))))))))) 13 (by kernel_rfl) (by kernel_rfl) (by kernel_rfl) ⟨rfl,rfl,rfl,Nat.le_refl _,fun _ _=>rfl⟩ ?_
  have hP:Below W.heap.size W W.drew:=⟨rfl,rfl,rfl,Nat.le_refl _,fun _ _=>rfl⟩
  generalize W.drew=pv at *
  repeat' first
  |
   refine aF rfl ?_ rfl ?_ ?_
   rotate_left
   ·intro W' hS'
    obtain ⟨s0,s1,s2,s3,s4,s5,s6,s7,s8,s9⟩:=kL.out _ hS'
    go_simp
    try with_reducible rfl
   try simp only [zA,zB,zC,Act.put,zD,zE,zF]
  |
   refine dE ?_ ?_
  |
   first
   |
    refine af (i:=10) rfl rfl (fun K hK=>?_)
    go_simp
    try have l11:=lt_of_some z11
    obtain ⟨pv,A10,hw1,hw2,z10,hb,hP,g10,e10⟩:=nT (vs:=#[.string ⟨#[]⟩,.string ⟨#[]⟩,.string ⟨#[]⟩]) (t:=89) hP
    rw [hw1,hw2]
    clear hw1 hw2
   |
    refine af (i:=11) rfl rfl (fun K hK=>?_)
    go_simp
    try have l10:=lt_of_some z10
    obtain ⟨pv,A11,hw1,hw2,z11,hb,hP,g11,e11⟩:=nT (vs:=#[.string ⟨#[]⟩,.string ⟨#[]⟩,.string ⟨#[]⟩]) (t:=89) hP
    rw [hw1,hw2]
    clear hw1 hw2
   try have z10:=(hb.block _ (lt_of_some z10)).trans z10
   try have z11:=(hb.block _ (lt_of_some z11)).trans z11
   refine hK _ _ ⟨hP,?_⟩
   clear hK K
   try simp only [zA,zB,zC,Act.put,zD,zE,zF]
  |
   refine af (i:=12) rfl rfl (fun K hK=>?_)
   obtain ⟨_,_,_⟩:=bP z10
   obtain ⟨_,_,_⟩:=az z10
   go_simp
   refine hK _ _ ⟨bW _ _ _ g10 hP,?_⟩
   clear hK K
   try simp only [zA,zB,zC,Act.put,zD,zE,zF]
  |
   unfold bR
   simp only [List.drop_succ_cons,List.drop_zero]
   have iV:A11≠A10:=by
    have:=lt_of_some z10
    have:=lt_of_some z11
    omega
   have kA:=fG (.string u1) (.string YY) (.string tb1) z10
   have kD:=fG (.string u2) (.string ta2) (.string tb2) ((fH (.string u1) (.string YY) (.string tb1) iV).trans z11)
   have kA2:=(fH (.string u2) (.string ta2) (.string tb2) (Ne.symm iV)).trans kA
   have kB:=bW (.string u2) (.string ta2) (.string tb2) g11 (bW (.string u1) (.string YY) (.string tb1) g10 hP)
   obtain ⟨_,_,_⟩:=bP z10
   obtain ⟨_,_,_⟩:=bP z11
   obtain ⟨_,_,_⟩:=az z10
   obtain ⟨_,_,_⟩:=az z11
   have eF:=hid (show acL W (.pointer (some ⟨A10,0,none⟩)) (.pointer (some ⟨A11,0,none⟩)) (.string u1) (.string YY) (.string tb1) (.string u2) (.string ta2) (.string tb2) _ from ⟨_,_,rfl,rfl,kA2,kD,kB,g10,g11⟩)
   have vD:A10≠A11:=Ne.symm iV
   clear kA kD kA2 kB
   gi_wp2_with fail
   gi_meet
   exact eF.out
 case rest =>
 obtain ⟨A8,A9,rfl,rfl,hA,hD,vF,hgA,hgD⟩:=hcut
 obtain ⟨wJ,hwj⟩ : ∃ q,q=wc:=⟨_,rfl⟩
 subst hwj
 have Dh:=hid (HE.out.below vF)
 obtain ⟨ht1,ht2,ht3,Us⟩:=HT.out wJ vF Dh
 have HT1:=hid ht1
 have HT2:=hid ht2
 have HT3:=hid ht3
 have HT4:=hid Us
 have HA:=hid hA
 have HD:=hid hD
 have E8:=hid vF
 have agm:=hid (And.intro hgA hgD)
 obtain ⟨m0,m1,m2⟩:=az hA
 obtain ⟨n0,n1,n2⟩:=az hD
 have lA:=aa hA
 have lD:=aa hD
 have f1:=(one_cell Dh.out.h1).1
 have f2:=(one_cell Dh.out.h2).1
 have l1:=aa Dh.out.h1
 have l2:=aa Dh.out.h2
 clear ht1 ht2 ht3 Us hA hD vF hgA hgD HT g0 g1 g2 FM FN c0 c1 c2 d0 d1 d2 ls ll lr lb Qn
 gi_upto_region 5 with fail
 have kL:=hid (fun W' (hS':Below wJ.heap.size wJ W')=>And.intro ((hS'.cell (p:=⟨B1,0,none⟩) l1).trans f1) (And.intro ((hS'.cell (p:=⟨B2,0,none⟩) l2).trans f2) (And.intro ((hS'.cell (p:=⟨A8,0,none⟩) lA).trans m0) (And.intro ((hS'.cell (p:=⟨A8,1,none⟩) lA).trans m1) (And.intro ((hS'.cell (p:=⟨A8,2,none⟩) lA).trans m2) (And.intro ((hS'.cell (p:=⟨A9,0,none⟩) lD).trans n0) (And.intro ((hS'.cell (p:=⟨A9,1,none⟩) lD).trans n1) ((hS'.cell (p:=⟨A9,2,none⟩) lD).trans n2))))))))
 refine bN bT (fun W'=>Below wJ.heap.size wJ W') (.take 0 (.take 1 (.take 2 (.take 4 (.take 5 (.take 6 (.take 8 (.take 9 (.take 10 (.take 12 (.take 13 (.take 14 (.one 3 (.one 7 (.one 11 (.one 15 (.one 16 .fin))))))))))))))))) 17 (by kernel_rfl) (by kernel_rfl) (by kernel_rfl) ⟨rfl,rfl,rfl,Nat.le_refl _,fun _ _=>rfl⟩ ?_
 have MQ:Below wJ.heap.size wJ wJ.drew:=⟨rfl,rfl,rfl,Nat.le_refl _,fun _ _=>rfl⟩
 generalize wJ.drew=qv0 at *
 iterate 12
  refine aF rfl ?_ rfl ?_ ?_
  rotate_left
  ·intro W' hS'
   obtain ⟨s0,s1,s2,s3,s4,s5,s6,s7⟩:=kL.out _ hS'
   go_simp
   try with_reducible rfl
  try simp only [zA,zB,zC,Act.put,zD,zE,zF]
 refine af rfl rfl (fun K hK=>?_)
 go_simp
 refine (HT1.out _ (MQ)).mono ?_
 rintro e qv1 ⟨rfl,J9⟩
 have I8:=MQ.trans (J9.mono MQ.size)
 refine hK _ _ ⟨I8,?_⟩
 clear hK K
 try simp only [zA,zB,zC,Act.put,zD,zE,zF]
 refine af rfl rfl (fun K hK=>?_)
 go_simp
 refine (HT2.out _ (I8)).mono ?_
 rintro e qv2 ⟨rfl,Ka⟩
 have I9:=I8.trans (Ka.mono I8.size)
 refine hK _ _ ⟨I9,?_⟩
 clear hK K
 try simp only [zA,zB,zC,Act.put,zD,zE,zF]
 refine af rfl rfl (fun K hK=>?_)
 go_simp
 refine (HT3.out _ (I9)).mono ?_
 rintro e qv3 ⟨rfl,Kb⟩
 have OB:=I9.trans (Kb.mono I9.size)
 refine hK _ _ ⟨OB,?_⟩
 clear hK K
 try simp only [zA,zB,zC,Act.put,zD,zE,zF]
 refine af rfl rfl (fun K hK=>?_)
 go_simp
 refine (HT4.out _ (OB)).mono ?_
 rintro e ZE ⟨rfl,Kc⟩
 have RP:=OB.trans (Kc.mono OB.size)
 refine hK _ _ ⟨RP,?_⟩
 clear hK K
 try simp only [zA,zB,zC,Act.put,zD,zE,zF]
 refine af rfl rfl (fun K hK=>?_)
 go_simp
 obtain ⟨ZF,xN⟩ : ∃ q,q=ZE.alloc (Obj.cells #[.string tA,.string p1,.string tC,.string p2,.string tC,.string p3,.string tA,.string p4] 113):=⟨_,rfl⟩
 have aep:ZF.heap[ZE.heap.size]?=some (.cells #[.string tA,.string p1,.string tC,.string p2,.string tC,.string p3,.string tA,.string p4] 113 (0,0)):=by rw [xN];exact World.alloc_heap_new _ _
 have Ke:Below ZE.heap.size ZE ZF:=by rw [xN];exact ae _ _
 have Aw:=RP.trans (Ke.mono RP.size)
 rw [←xN]
 clear xN
 refine hK _ _ ⟨Aw,?_⟩
 clear hK K
 try simp only [zA,zB,zC,Act.put,zD,zE,zF]
 unfold bR
 simp only [List.drop_succ_cons,List.drop_zero]
 obtain ⟨bq,hbq⟩ : ∃ q,q=ZE.heap.size:=⟨_,rfl⟩
 have HZQ:=hid (show ZF.heap[bq]?=some (.cells #[.string tA,.string p1,.string tC,.string p2,.string tC,.string p3,.string tA,.string p4] 113 (0,0)) by rw [hbq];exact aep)
 have HGQ:=hid (show wJ.heap.size≤bq by rw [hbq];exact RP.size)
 rw [←hbq]
 have R7:=hid Aw
 clear hbq f1 f2 m0 m1 m2 n0 n1 n2
 obtain ⟨wq,hwq⟩ : ∃ q,q=ZF:=⟨_,rfl⟩
 rw [←hwq] at HZQ R7 ⊢
 clear hwq
 have nX:=hid (E8.out.trans (R7.out.mono E8.out.size))
 have aeq:=hid (Dh.out.below R7.out)
 have hA:=(R7.out.block _ (aa HA.out)).trans HA.out
 have hD:=(R7.out.block _ (aa HD.out)).trans HD.out
 have HA2:=hid hA
 have HD2:=hid hD
 have HJQ:=hid (dh HJ.out HJW.out nX.out)
 obtain ⟨m0,m1,m2⟩:=az hA
 obtain ⟨n0,n1,n2⟩:=az hD
 have k0:=bL aeq.out.hk
 clear hA hD lA lD l1 l2
 by_cases hun:(ah (ai P k) si).u=(ah (ai P (k+1)) sj).u
 ·have heq:=HEQ.out.symm
  rw [decide_eq_true hun] at heq
  have hp:=QY.out.1 hun
  have acO:=hid (show (aC P k s)[0]?=some _ by rw [hp];rfl)
  have acP:=hid (show (aC P k s).length=1 by rw [hp];rfl)
  have QZ:=hid (show ∃ x,(aC P k s)[0]?=some x∧qx x (.agg #[.int .i64 (k:Int),.string u1,.slice (some ⟨bq,0,none⟩) 4 4,.bool false]) wq from ⟨_,acO.out,mh rfl HU1.out rfl HCQ.out HZQ.out (by decide)⟩)
  clear hun hp
  gi_upto_region 7 with fail
  obtain ⟨fn,tmps,assign,body,hy,hR⟩:=HY.out 0 (by rw [acP.out];decide) _ wq HJQ.out QZ.out
  gi_wp2
  refine hR.mono ?_
  rintro e W9 (⟨rfl,CE,_⟩ | ⟨rfl,pR⟩)
  ·have Ay:=hid CE
   clear CE
   gi_wp2
   refine bodyPost_ret (results_none rfl _ _ _) rfl ?_
   exact ⟨⟨_,rfl⟩,.inl (by rw [acP.out];exact Ay.out)⟩
  ·have Ay:=hid pR
   clear pR
   gi_wp2
   refine bodyPost_ret (results_none rfl _ _ _) rfl ?_
   exact ⟨⟨_,rfl⟩,.inr ⟨0,by rw [acP.out];decide,Ay.out⟩⟩
 ·have heq:=HEQ.out.symm
  rw [decide_eq_false hun] at heq
  have hp:=QY.out.2 hun
  have acO:=hid (show (aC P k s)[0]?=some _ by rw [hp];rfl)
  have agn:=hid (show (aC P k s)[1]?=some _ by rw [hp];rfl)
  have Q3:=hid (show (aC P k s).length=2 by rw [hp];rfl)
  obtain ⟨q0,q1,q2,q3,q4,q5,q6,q7⟩:=rV HZQ.out
  have lq:=aa HZQ.out
  clear hun hp
  gi_upto_region 8 with fail
  try dsimp only
  gi_cut [11,12] from 86 (fun s11 s12 wx=>yS wq s11 s12 (.string r1) (.string r2) (.string r1) (.string r4) wx)
  case first =>
   have kL:=hid (fun W' (hS':Below wq.heap.size wq W')=>And.intro ((hS'.cell (p:=⟨bq,0,none⟩) lq).trans q0) (And.intro ((hS'.cell (p:=⟨bq,1,none⟩) lq).trans q1) (And.intro ((hS'.cell (p:=⟨bq,2,none⟩) lq).trans q2) (And.intro ((hS'.cell (p:=⟨bq,3,none⟩) lq).trans q3) (And.intro ((hS'.cell (p:=⟨bq,4,none⟩) lq).trans q4) (And.intro ((hS'.cell (p:=⟨bq,5,none⟩) lq).trans q5) (And.intro ((hS'.cell (p:=⟨bq,6,none⟩) lq).trans q6) ((hS'.cell (p:=⟨bq,7,none⟩) lq).trans q7))))))))
   refine bN bT (fun W'=>Below wq.heap.size wq W') (.take 0 (.take 1 (.take 2 (.take 3 (.take 4 (.take 5 (.take 7 (.take 8 (.take 9 (.take 10 (.take 11 (.take 12 (.three 6 (.three 13 (.two 14 (.one 15 (.one 16 .fin)) 15 (.one 14 (.one 16 .fin))) 14 (.two 13 (.one 15 (.one 16 .fin)) 15 (.one 13 (.one 16 .fin))) 15 (.two 13 (.one 14 (.one 16 .fin)) 14 (.one 13 (.one 16 .fin)))) 14 (.two 6 (.two 13 (.one 15 (.one 16 .fin)) 15 (.one 13 (.one 16 .fin))) 15 (.one 6 (.one 13 (.one 16 .fin)))) 15 (.two 6 (.two 13 (.one 14 (.one 16 .fin)) 14 (.one 13 (.one 16 .fin))) 14 (.one 6 (.one 13 (.one 16 .fin))))))))))))))))) 17 (by kernel_rfl) (by kernel_rfl) (by kernel_rfl) ⟨rfl,rfl,rfl,Nat.le_refl _,fun _ _=>rfl⟩ ?_
   have hR:Below wq.heap.size wq wq.drew:=⟨rfl,rfl,rfl,Nat.le_refl _,fun _ _=>rfl⟩
   generalize wq.drew=rv at *
   repeat' first
   |
    refine aF rfl ?_ rfl ?_ ?_
    rotate_left
    ·intro W' hS'
     obtain ⟨s0,s1,s2,s3,s4,s5,s6,s7⟩:=kL.out _ hS'
     go_simp
     try with_reducible rfl
    try simp only [zA,zB,zC,Act.put,zD,zE,zF]
   |
    refine dE ?_ ?_
   |
    refine Bh ?_ ?_ ?_
   |
    first
    |
     refine af (i:=6) rfl rfl (fun K hK=>?_)
     go_simp
     refine (ZC.out _ (hw.below (nX.out.trans (hR.mono nX.out.size)))).mono ?_
     rintro e rv ⟨rfl,hb⟩
     have hR:=hR.trans (hb.mono hR.size)
    |
     refine af (i:=13) rfl rfl (fun K hK=>?_)
     go_simp
     refine (mE.out _ (hw.below (nX.out.trans (hR.mono nX.out.size)))).mono ?_
     rintro e rv ⟨rfl,hb⟩
     have hR:=hR.trans (hb.mono hR.size)
    |
     refine af (i:=14) rfl rfl (fun K hK=>?_)
     go_simp
     try have l15:=lt_of_some z15
     obtain ⟨rv,A14,hw1,hw2,z14,hb,hR,g14,e14⟩:=nT (vs:=#[.string ⟨#[]⟩,.string ⟨#[]⟩]) (t:=113) hR
     rw [hw1,hw2]
     clear hw1 hw2
    |
     refine af (i:=15) rfl rfl (fun K hK=>?_)
     go_simp
     try have l14:=lt_of_some z14
     obtain ⟨rv,A15,hw1,hw2,z15,hb,hR,g15,e15⟩:=nT (vs:=#[.string ⟨#[]⟩,.string ⟨#[]⟩]) (t:=113) hR
     rw [hw1,hw2]
     clear hw1 hw2
    try have z14:=(hb.block _ (lt_of_some z14)).trans z14
    try have z15:=(hb.block _ (lt_of_some z15)).trans z15
    refine hK _ _ ⟨hR,?_⟩
    clear hK K
    try simp only [zA,zB,zC,Act.put,zD,zE,zF]
   |
    refine af (i:=16) rfl rfl (fun K hK=>?_)
    obtain ⟨_,_,_,_⟩:=aj z14
    go_simp
    refine hK _ _ ⟨(hR.setCell (p:=⟨_,0,none⟩) g14 _).setCell (p:=⟨_,1,none⟩) g14 _,?_⟩
    clear hK K
    try simp only [zA,zB,zC,Act.put,zD,zE,zF]
   |
    unfold bR
    simp only [List.drop_succ_cons,List.drop_zero]
    have iV:A15≠A14:=by
     have:=lt_of_some z14
     have:=lt_of_some z15
     omega
    have kA:=aV (.string r2) (aU (.string r1) z14)
    have kD:=aV (.string r4) (aU (.string r1) ((bz (.string r1) (.string r2) iV).trans z15))
    have kA2:=(bz (.string r1) (.string r4) (Ne.symm iV)).trans kA
    have kB:=(((hR.setCell (p:=⟨A14,0,none⟩) g14 (.string r1)).setCell (p:=⟨A14,1,none⟩) g14 (.string r2)).setCell (p:=⟨A15,0,none⟩) g15 (.string r1)).setCell (p:=⟨A15,1,none⟩) g15 (.string r4)
    obtain ⟨_,_,_,_⟩:=aj z14
    obtain ⟨_,_,_,_⟩:=aj z15
    have eF:=hid (show yS wq (.pointer (some ⟨A14,0,none⟩)) (.pointer (some ⟨A15,0,none⟩)) (.string r1) (.string r2) (.string r1) (.string r4) _ from ⟨_,_,rfl,rfl,kA2,kD,kB,g14,g15⟩)
    have vD:A14≠A15:=Ne.symm iV
    clear kA kD kA2 kB
    gi_wp2_with fail
    gi_meet
    exact eF.out
  case rest =>
  obtain ⟨C1,C2,rfl,rfl,hC,hF,O7,hgC,hgF⟩:=hcut
  obtain ⟨wm,hwm⟩ : ∃ q,q=wc:=⟨_,rfl⟩
  subst hwm
  have aeC:=hid (nX.out.trans (O7.mono nX.out.size))
  have ZM:=hid (dh HJ.out HJQ.out O7)
  have Ep:=hid hC
  have YZ:=hid hF
  have HEM:=hid (aeq.out.below O7)
  have HK2:=hid HEM.out.hk
  have HGK:=hid HEM.out.ge.2.2.2.2.2.1
  have hz:=(O7.block _ (aa HZQ.out)).trans HZQ.out
  have aeD:=hid hz
  have ha:=(O7.block _ (aa HA2.out)).trans HA2.out
  have HA9:=hid ((O7.block _ (aa HD2.out)).trans HD2.out)
  have agr:=hid (show N0≤bq by have:=HGQ.out;have:=E8.out.size;have:=HN0.out;omega)
  have HGA:=hid (show N0≤A9 by have:=agm.out.2;have:=HN0.out;omega)
  have HGC:=hid (show N0≤C1∧N0≤C2 by have:=nX.out.size;have:=HN0.out;omega)
  obtain ⟨q0,q1,q2,q3,q4,q5,q6,q7⟩:=rV hz
  obtain ⟨y0,y1,_,_⟩:=aj hC
  obtain ⟨x0,x1,_,_⟩:=aj hF
  obtain ⟨m0,_,_⟩:=az ha
  have k0:=bL HEM.out.hk
  have lq:=aa hz
  have lc:=aa hC
  have ld:=aa hF
  have lk:=aa HEM.out.hk
  have lA:=aa ha
  clear hC hF O7 hgC hgF hz ha heq n0 n1 n2
  gi_upto_region 9 with fail
  have kL:=hid (fun W' (hS':Below wm.heap.size wm W')=>And.intro ((hS'.cell (p:=⟨Bk,0,none⟩) lk).trans k0) (And.intro ((hS'.cell (p:=⟨A8,0,none⟩) lA).trans m0) (And.intro ((hS'.cell (p:=⟨bq,0,none⟩) lq).trans q0) (And.intro ((hS'.cell (p:=⟨bq,1,none⟩) lq).trans q1) (And.intro ((hS'.cell (p:=⟨bq,2,none⟩) lq).trans q2) (And.intro ((hS'.cell (p:=⟨bq,3,none⟩) lq).trans q3) (And.intro ((hS'.cell (p:=⟨bq,4,none⟩) lq).trans q4) (And.intro ((hS'.cell (p:=⟨bq,5,none⟩) lq).trans q5) (And.intro ((hS'.cell (p:=⟨bq,6,none⟩) lq).trans q6) (And.intro ((hS'.cell (p:=⟨bq,7,none⟩) lq).trans q7) (And.intro ((hS'.cell (p:=⟨C1,0,none⟩) lc).trans y0) (And.intro ((hS'.cell (p:=⟨C1,1,none⟩) lc).trans y1) (And.intro ((hS'.cell (p:=⟨C2,0,none⟩) ld).trans x0) ((hS'.cell (p:=⟨C2,1,none⟩) ld).trans x1))))))))))))))
  refine bN bT (fun W'=>Below wm.heap.size wm W') (.take 0 (.take 1 (.take 2 (.take 3 (.take 4 (.take 5 (.take 6 (.take 7 (.take 8 (.take 9 (.take 10 (.take 11 (.one 12 (.take 13 (.take 14 .fin))))))))))))))) 15 (by kernel_rfl) (by kernel_rfl) (by kernel_rfl) ⟨rfl,rfl,rfl,Nat.le_refl _,fun _ _=>rfl⟩ ?_
  have hS0:Below wm.heap.size wm wm.drew:=⟨rfl,rfl,rfl,Nat.le_refl _,fun _ _=>rfl⟩
  generalize wm.drew=sv0 at *
  iterate 12
   refine aF rfl ?_ rfl ?_ ?_
   rotate_left
   ·intro W' hS'
    obtain ⟨s0,s1,s2,s3,s4,s5,s6,s7,s8,s9,s10,s11,s12,s13⟩:=kL.out _ hS'
    go_simp
    try with_reducible rfl
   try simp only [zA,zB,zC,Act.put,zD,zE,zF]
  refine af rfl rfl (fun K hK=>?_)
  go_simp
  obtain ⟨sv1,O8⟩ : ∃ q,q=sv0.alloc (Obj.cells #[.string tA,.string p1,.string r1,.string r2,.string r1,.string r4,.string tA,.string p4] 113):=⟨_,rfl⟩
  have Cz:sv1.heap[sv0.heap.size]?=some (.cells #[.string tA,.string p1,.string r1,.string r2,.string r1,.string r4,.string tA,.string p4] 113 (0,0)):=by rw [O8];exact World.alloc_heap_new _ _
  have Ur:Below sv0.heap.size sv0 sv1:=by rw [O8];exact ae _ _
  have hS1:=hS0.trans (Ur.mono hS0.size)
  rw [←O8]
  clear O8
  refine hK _ _ ⟨hS1,?_⟩
  clear hK K
  try simp only [zA,zB,zC,Act.put,zD,zE,zF]
  iterate 2
   refine aF rfl ?_ rfl ?_ ?_
   rotate_left
   ·intro W' hS'
    obtain ⟨s0,s1,s2,s3,s4,s5,s6,s7,s8,s9,s10,s11,s12,s13⟩:=kL.out _ hS'
    go_simp
    try with_reducible rfl
   try simp only [zA,zB,zC,Act.put,zD,zE,zF]
  unfold bR
  simp only [List.drop_succ_cons,List.drop_zero]
  have LG:=aeC.out.trans (hS1.mono aeC.out.size)
  have QZ:=hid (show ∃ x,(aC P k s)[0]?=some x∧qx x (.agg #[.int .i64 (k:Int),.string u1,.slice (some ⟨sv0.heap.size,0,none⟩) 4 4,.bool false]) sv1 from ⟨_,acO.out,mh rfl HU1.out rfl agj.out Cz (by decide)⟩)
  have hJv:J 0 sv1:=dh HJ.out ZM.out hS1
  obtain ⟨fn,tmps,assign,body,hy,hR⟩:=HY.out 0 (by rw [Q3.out];decide) _ sv1 hJv QZ.out
  have HB1:=hid LG
  have HSN:=hid hS1
  clear hJv LG k0 m0 q0 q1 q2 q3 q4 q5 q6 q7 y0 y1 x0 x1
  gi_wp2
  refine hR.mono ?_
  rintro e W9 (⟨rfl,CE,RS⟩ | ⟨rfl,pR⟩)
  ·have HJ1:=hid CE
   have RU:=hid (RS (by rw [Q3.out];decide))
   clear CE RS
   have hq9:=RU.out bq _ agr.out ((HSN.out.block _ (aa aeD.out)).trans aeD.out) rfl
   have hc9:=RU.out C1 _ HGC.out.1 ((HSN.out.block _ (aa Ep.out)).trans Ep.out) rfl
   have hd9:=RU.out C2 _ HGC.out.2 ((HSN.out.block _ (aa YZ.out)).trans YZ.out) rfl
   have RS:=RU.out Bk _ HGK.out ((HSN.out.block _ (aa HK2.out)).trans HK2.out) rfl
   have ha9:=RU.out A9 _ HGA.out ((HSN.out.block _ (aa HA9.out)).trans HA9.out) rfl
   obtain ⟨q0,q1,q2,q3,q4,q5,q6,q7⟩:=rV hq9
   obtain ⟨y0,y1,_,_⟩:=aj hc9
   obtain ⟨x0,x1,_,_⟩:=aj hd9
   obtain ⟨m0,_,_⟩:=az ha9
   have k0:=bL RS
   have lq:=aa hq9
   have lc:=aa hc9
   have ld:=aa hd9
   have lk:=aa RS
   have lA:=aa ha9
   have aeE:=hid (Below.refl W9.heap.size W9)
   clear hq9 hc9 hd9 RS ha9
   gi_upto_region 10 with fail
   have kL:=hid (fun W' (hS':Below W9.heap.size W9 W')=>And.intro ((hS'.cell (p:=⟨Bk,0,none⟩) lk).trans k0) (And.intro ((hS'.cell (p:=⟨A9,0,none⟩) lA).trans m0) (And.intro ((hS'.cell (p:=⟨bq,0,none⟩) lq).trans q0) (And.intro ((hS'.cell (p:=⟨bq,1,none⟩) lq).trans q1) (And.intro ((hS'.cell (p:=⟨bq,2,none⟩) lq).trans q2) (And.intro ((hS'.cell (p:=⟨bq,3,none⟩) lq).trans q3) (And.intro ((hS'.cell (p:=⟨bq,4,none⟩) lq).trans q4) (And.intro ((hS'.cell (p:=⟨bq,5,none⟩) lq).trans q5) (And.intro ((hS'.cell (p:=⟨bq,6,none⟩) lq).trans q6) (And.intro ((hS'.cell (p:=⟨bq,7,none⟩) lq).trans q7) (And.intro ((hS'.cell (p:=⟨C1,0,none⟩) lc).trans y0) (And.intro ((hS'.cell (p:=⟨C1,1,none⟩) lc).trans y1) (And.intro ((hS'.cell (p:=⟨C2,0,none⟩) ld).trans x0) ((hS'.cell (p:=⟨C2,1,none⟩) ld).trans x1))))))))))))))
   refine bN bT (fun W'=>Below W9.heap.size W9 W') (.take 0 (.take 1 (.take 2 (.take 3 (.take 4 (.take 5 (.take 6 (.take 7 (.take 8 (.take 9 (.take 10 (.take 11 (.one 12 (.take 13 (.take 14 .fin))))))))))))))) 15 (by kernel_rfl) (by kernel_rfl) (by kernel_rfl) ⟨rfl,rfl,rfl,Nat.le_refl _,fun _ _=>rfl⟩ ?_
   have hT0:Below W9.heap.size W9 W9.drew:=⟨rfl,rfl,rfl,Nat.le_refl _,fun _ _=>rfl⟩
   generalize W9.drew=tv0 at *
   iterate 12
    refine aF rfl ?_ rfl ?_ ?_
    rotate_left
    ·intro W' hS'
     obtain ⟨s0,s1,s2,s3,s4,s5,s6,s7,s8,s9,s10,s11,s12,s13⟩:=kL.out _ hS'
     go_simp
     try with_reducible rfl
    try simp only [zA,zB,zC,Act.put,zD,zE,zF]
   refine af rfl rfl (fun K hK=>?_)
   go_simp
   obtain ⟨tv1,O9⟩ : ∃ q,q=tv0.alloc (Obj.cells #[.string r1,.string r2,.string tC,.string p2,.string tC,.string p3,.string r1,.string r4] 113):=⟨_,rfl⟩
   have Cz:tv1.heap[tv0.heap.size]?=some (.cells #[.string r1,.string r2,.string tC,.string p2,.string tC,.string p3,.string r1,.string r4] 113 (0,0)):=by rw [O9];exact World.alloc_heap_new _ _
   have aeF:Below tv0.heap.size tv0 tv1:=by rw [O9];exact ae _ _
   have hT1:=hT0.trans (aeF.mono hT0.size)
   rw [←O9]
   clear O9
   refine hK _ _ ⟨hT1,?_⟩
   clear hK K
   try simp only [zA,zB,zC,Act.put,zD,zE,zF]
   iterate 2
    refine aF rfl ?_ rfl ?_ ?_
    rotate_left
    ·intro W' hS'
     obtain ⟨s0,s1,s2,s3,s4,s5,s6,s7,s8,s9,s10,s11,s12,s13⟩:=kL.out _ hS'
     go_simp
     try with_reducible rfl
    try simp only [zA,zB,zC,Act.put,zD,zE,zF]
   unfold bR
   simp only [List.drop_succ_cons,List.drop_zero]
   have LG:=aeE.out.trans (hT1.mono aeE.out.size)
   have QZ:=hid (show ∃ x,(aC P k s)[1]?=some x∧qx x (.agg #[.int .i64 (k:Int),.string u2,.slice (some ⟨tv0.heap.size,0,none⟩) 4 4,.bool true]) tv1 from ⟨_,agn.out,mh rfl HU2.out rfl Ki.out Cz (by decide)⟩)
   have hJv:J 1 tv1:=dh HJ.out HJ1.out hT1
   obtain ⟨fn,tmps,assign,body,hy,hR⟩:=HY.out 1 (by rw [Q3.out];decide) _ tv1 hJv QZ.out
   clear hJv LG k0 m0 q0 q1 q2 q3 q4 q5 q6 q7 y0 y1 x0 x1
   gi_wp2
   refine hR.mono ?_
   rintro e W8 (⟨rfl,hJ8,_⟩ | ⟨rfl,aeG⟩)
   ·have HJ8:=hid hJ8
    clear hJ8
    gi_wp2
    go_end0
    exact ⟨⟨_,rfl⟩,.inl (by rw [Q3.out];exact HJ8.out)⟩
   ·have HJ8:=hid aeG
    clear aeG
    gi_wp2
    go_end0
    exact ⟨⟨_,rfl⟩,.inr ⟨1,by rw [Q3.out];decide,HJ8.out⟩⟩
  ·have Ay:=hid pR
   clear pR
   gi_wp2
   go_end0
   exact ⟨⟨_,rfl⟩,.inr ⟨0,by rw [Q3.out];decide,Ay.out⟩⟩
end Go.Proofs.YtglncfkoohgdaaaGreatDoor
