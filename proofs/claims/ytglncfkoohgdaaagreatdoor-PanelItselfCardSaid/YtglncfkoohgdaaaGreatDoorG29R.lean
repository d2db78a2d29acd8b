import Derived.Test.YtglncfkoohgdaaaGreatDoorE7R
import Derived.Test.YtglncfkoohgdaaaGreatDoorG20R
set_option maxRecDepth 100000
set_option maxHeartbeats 8000000
namespace Go.Proofs.YtglncfkoohgdaaaGreatDoor
open Go.RowKit Go.Shelf
open Go.Lib (decDigits itoa nDigits)
open Go.Lib (hid)
attribute [local go_sem] Oper.semAt_some
def uO (w:World) (s v:Value) (W:World):Prop:=∃ A,s=.pointer (some ⟨A,0,none⟩)∧W.heap[A]?=some (.cells #[v] 33 (0,0))∧Below w.heap.size w W∧w.heap.size≤A
def Pw (w:World) (s a b c:Value) (W:World):Prop:=∃ A,s=.pointer (some ⟨A,0,none⟩)∧W.heap[A]?=some (.cells #[a,b,c] 89 (0,0))∧Below w.heap.size w W∧w.heap.size≤A
def NQ (st:Option (Rat × Rat)) (ta tb:ByteArray) (b:Bool):Prop:=match st with
 | none=>b=false
 | some p=>b=true∧ta=tx p.1∧tb=tx p.2
theorem Rv:(⟨#[49,47,50]⟩ : ByteArray).toList=[49,47,50]:=by first | rfl | decide +kernel | simp
theorem aaR (v:Value) (L:List QP) {x:Rat} (hx:bM x) (he:EdS L x) (hn:L.length≤4) (hz:∀ p∈L,Q4 256 p.1∧Q4 256 p.2) (w:World) (hw:Good w) (hv:qp w v L) :
  ∃ ta tb b,Calls Tryz.prog 74 #[v,.string (tx x)] w (RV (.tuple #[.string ta,.string tb,.bool b]) w)∧NQ (oM L x) ta tb b:=by
 have h:=aaw v L x (by omega) (fun p hp=>⟨kg (hz p hp).1,kg (hz p hp).2⟩) hx he w hw hv
 cases hs:oM L x with
 | none =>
  rw [hs] at h
  exact ⟨_,_,_,h,rfl⟩
 | some p =>
  rw [hs] at h
  exact ⟨_,_,_,h,rfl,rfl,rfl⟩
theorem aaS {P:bQ} {x:Rat} {k:Nat} {y:nW × Bool} {ta tb:ByteArray} {b b2 b3 b4:Bool} (h:NQ (oM y.1.pg x) ta tb b) (h2:b2=y.2) (h3:b3=(ta.toList == tb.toList)) (h4:b4=decide (xU P x k=1/2)) (hs:b=false∨b3=true∨(b2=true∧b4=true)):Y2 P x k y=[]:=by
 unfold Y2
 cases hq:oM y.1.pg x with
 | none=>rfl
 | some p =>
  rw [hq] at h
  obtain ⟨rfl,rfl,rfl⟩:=h
  rw [CR] at h3
  dsimp only
  rw [if_pos]
  rcases hs with hs | hs | ⟨hs,hs'⟩
  ·cases hs
  ·rw [h3] at hs
   exact .inl (of_decide_eq_true hs)
  ·rw [h4] at hs'
   exact .inr ⟨by rw [←h2];exact hs,of_decide_eq_true hs'⟩
theorem aaT {P:bQ} {x:Rat} {k:Nat} {y:nW × Bool} {ta tb:ByteArray} {b2:Bool} {b4:Bool} (h:NQ (oM y.1.pg x) ta tb true) (h2:b2=y.2) (h3:false=(ta.toList == tb.toList)) (h4:b4=decide (xU P x k=1/2)) (hs:(b2 && b4)=false) :
  ∃ p,oM y.1.pg x=some p∧ta=tx p.1∧tb=tx p.2∧Y2 P x k y=[⟨y.1.u,zh P x k-p.2,zh P x k-p.1⟩]:=by
 unfold Y2
 cases hq:oM y.1.pg x with
 | none =>
  rw [hq] at h
  cases h
 | some p =>
  rw [hq] at h
  obtain ⟨_,rfl,rfl⟩:=h
  rw [CR] at h3
  refine ⟨p,rfl,rfl,rfl,?_⟩
  dsimp only
  rw [if_neg]
  rintro (e | ⟨e1,e2⟩)
  ·rw [decide_eq_true e] at h3
   cases h3
  ·rw [h2,h4,e1,decide_eq_true e2] at hs
   cases hs
theorem Wq {P:bQ} (hO:dm P) {x:Rat} {k:Nat} (hk:k+1<P.lg.length) (hx:bM x) (hc:CrS x (cZ P k,bG P k) (cZ P (k+1),bG P (k+1))) (h1:cZ P k<x) (h2:x<cZ P (k+1)) :
  (∀ w',Good w'→Calls Tryz.prog 72 #[.string (tx x),.string (tx (cZ P k))] w' (RV (.string (tx (x-cZ P k))) w')) ∧
  (∀ w',Good w'→Calls Tryz.prog 72 #[.string (tx (cZ P (k+1))),.string (tx (cZ P k))] w' (RV (.string (tx (cZ P (k+1)-cZ P k))) w')) ∧
  (∀ w',Good w'→Calls Tryz.prog 71 #[.string (tx (x-cZ P k)),.string (tx (cZ P (k+1)-cZ P k))] w' (RV (.tuple #[.string (tx (xU P x k)),.int .i64 0]) w')) ∧
  (∀ w',Good w'→Calls Tryz.prog 72 #[.string (tx (bG P (k+1))),.string (tx (bG P k))] w' (RV (.string (tx (bG P (k+1)-bG P k))) w')) ∧
  (∀ w',Good w'→Calls Tryz.prog 73 #[.string (tx (xU P x k)),.string (tx (bG P (k+1)-bG P k))] w' (RV (.string (tx (xU P x k*(bG P (k+1)-bG P k)))) w')) ∧
  (∀ w',Good w'→Calls Tryz.prog 55 #[.string (tx (bG P k)),.string (tx (xU P x k*(bG P (k+1)-bG P k)))] w' (RV (.string (tx (zh P x k))) w')):=by
 have sx:Sz 402 x:=hx
 have sa:∀ j,j<P.lg.length→Sz 402 (cZ P j):=fun j hj=>((hO.xs j hj).ok (by decide)).sz
 have st:∀ j,j<P.lg.length→Sz 402 (bG P j):=fun j hj=>((hO.tp j hj).ok (by decide)).sz
 have hd:cZ P (k+1)-cZ P k≠0:=by grind
 obtain ⟨z1,z2,z3,z4,z5,_⟩:=hc
 have m:∀ {q:Rat} {n:Nat},Sz 402 q→402≤n→Sz n q:=fun h hn=>h.mono hn
 exact ⟨fun w' hg=>jX _ _ (m sx (by decide)) (m (sa k (by omega)) (by decide)) w' hg,fun w' hg=>jX _ _ (m (sa _ hk) (by decide)) (m (sa k (by omega)) (by decide)) w' hg,fun w' hg=>abo _ _ hd (m z1 (by decide)) (m z2 (by decide)) w' hg,fun w' hg=>jX _ _ (m (st _ hk) (by decide)) (m (st k (by omega)) (by decide)) w' hg,fun w' hg=>uA _ _ (m z3 (by decide)) (m z4 (by decide)) w' hg,fun w' hg=>uz _ _ (m (st k (by omega)) (by decide)) (m z5 (by decide)) w' hg⟩
theorem Ws {w:World} (vg va vt:Value) (P:bQ) (x:Rat) (hxf:AtS P x) (h0:¬ x<cZ P 0) (hq:¬ cZ P (P.lg.length-1)<x) (hO:dm P) (hP:l9 w vg va vt P) (hw:Good w) :
  Calls Tryz.prog 24 #[iX vg va vt P.cs,.string (tx x)] w fun e w'=>∃ v,e=.returned (.tuple #[v,.int .i64 0])∧gm w' v (atX P x)∧Below w.heap.size w w':=by
 have hx:oz x:=hxf.sx
 refine (callsIn_wide (n:=10)).1 ?_
 have G5:=hid (fun W' (hb:Below w.heap.size w W')=>xH vg va vt P hO (hP.below hb) (hw.below hb))
 have U9:=hid (fun (k:Nat) (s:Stp) (hk:k+1<P.lg.length) W' (hb:Below w.heap.size w W')=>KL vg va vt P k s hk hO (hP.below hb))
 have HXE:=hid (fun i=>CR x (cZ P i))
 have HCI:=hid (fun i (hi:i<P.lg.length) w' (hg:Good w')=>rq (cZ P i) x ((kK ((hO.xs i hi).ok (by decide))).mono (by decide)) (hx.sz.mono (by decide)) w' hg)
 have Zo:=hid (fun w' (hg:Good w')=>gY x hx w' hg)
 have HC0:=hid (fun w' (hg:Good w')=>rq x (cZ P 0) (hx.sz.mono (by decide)) ((kK ((hO.xs 0 (by have:=hO.n2;omega)).ok (by decide))).mono (by decide)) w' hg)
 have Ep:=hid (fun w' (hg:Good w')=>rq x (cZ P (P.lg.length-1)) (hx.sz.mono (by decide)) ((kK ((hO.xs (P.lg.length-1) (by have:=hO.n2;omega)).ok (by decide))).mono (by decide)) w' hg)
 have Sa:=hid hw
 have HX1:=hid (show decide (dx x (cZ P 0)<0)=decide (x<cZ P 0) by rw [decide_eq_decide];exact jV)
 have HX2:=hid (show decide (0<dx x (cZ P (P.lg.length-1)))=decide (cZ P (P.lg.length-1)<x) by rw [decide_eq_decide];exact qM)
 unfold RV at Zo HC0 Ep
 generalize dx x (cZ P 0)=c0 at *
 generalize dx x (cZ P (P.lg.length-1))=c1 at *
 generalize hxx:tx x=xx at *
 have HXQ:=hid hxx
 clear hxx
 have HO:=hid hO
 have QY:=hid hP
 obtain ⟨pg,cg,rfl,hcg,jK⟩:=hP.g.slice
 obtain ⟨ba,oa,ca,rfl,ET,ma,la,hac⟩:=jL hP.a (by rw [hO.nx];have:=hO.n2;omega)
 obtain ⟨bt,ot,ct,rfl,hct,mf,lt,htc⟩:=jL hP.t (by rw [hO.nt];have:=hO.n2;omega)
 have hnx:=hO.nx.symm
 have hny:=hO.nt.symm
 have hn2:=hO.n2
 have xE:=hO.n20
 unfold maxLen at jK ma mf
 unfold iX at *
 clear hO hP
 generalize tx P.cs.ch=t1 at *
 generalize tx P.cs.mi=t2 at *
 generalize tx P.cs.ga=t3 at *
 generalize tx P.cs.re=t4 at *
 generalize hna:P.xs.length=na at *
 generalize hnt:P.tp.length=nt at *
 generalize hn:P.lg.length=n at *
 subst hnx
 subst hny
 have HN:=hid (And.intro hn (And.intro hna hnt))
 obtain ⟨m,hm⟩ : ∃ m,m=n-1:=⟨_,rfl⟩
 rw [←hm] at G5 Ep HX2 hq
 have Hf:=hid hm
 have UK:m≤20:=by omega
 obtain ⟨wA,aS⟩ : ∃ wA,wA=(((w.alloc (Obj.cells #[.slice pg n cg,.slice (some ⟨ba,oa,none⟩) n ca,.slice (some ⟨bt,ot,none⟩) n ct,.string t1,.string t2,.string t3,.string t4] 37)).alloc (Obj.cells #[.string xx] 33)).alloc (Obj.cells #[.slice none 0 0] 66)).alloc (Obj.cells #[.int .i64 0] 40):=⟨_,rfl⟩
 obtain ⟨aP,x0,x1,x2,x3⟩:=aeN aS
 have eF:=hid aP
 have HX:=hid (And.intro x0 (And.intro x1 (And.intro x2 x3)))
 have LF:=hid aS
 obtain ⟨p0,p1,p2,p3,p4,p5,p6⟩:=au x0
 clear hn hna hnt hm aS aP x0 x1 x2 x3
 refine callsIn_of_wp_marks Tryz.func24 rfl trivial ?_ rfl
 simp only [Tryz.ntmps24,List.size_toArray,List.length_cons,List.length_nil,Nat.reduceAdd,Nat.reduceSub,Array.replicate_succ,Array.replicate_zero,List.push_toArray,List.append_toArray,List.nil_append,List.cons_append]
 gi_upto_region 1 with fail
 rw [←LF.out]
 gi_wp2_with fail
 refine ⟨trivial,?_⟩
 refine (callsIn_wide.2 (G5.out wA eF.out)).mono ?_
 rintro e wd ⟨vl,rfl,hlk,hb1⟩
 have HLD:=hid hlk
 obtain ⟨pl,cl,rfl,hcl,gZ⟩:=hlk.slice
 unfold maxLen at gZ
 have je:=hid (eF.out.trans (hb1.mono eF.out.size))
 have ko:=hid (And.intro ((hb1.block _ (aa HX.out.1)).trans HX.out.1) (And.intro ((hb1.block _ (aa HX.out.2.1)).trans HX.out.2.1) (And.intro ((hb1.block _ (aa HX.out.2.2.1)).trans HX.out.2.2.1) ((hb1.block _ (aa HX.out.2.2.2)).trans HX.out.2.2.2))))
 clear hlk hb1 p0 p1 p2 p3 p4 p5 p6 HX LF G5 eF
 obtain ⟨x1,_⟩:=one_cell ko.out.2.1
 gi_wp2_with fail
 refine ⟨trivial,?_⟩
 refine (callsIn_wide.2 (Zo.out wd (Sa.out.below je.out))).mono ?_
 rintro e w2 ⟨rfl,hb2⟩
 have ko:=hid (And.intro ((hb2.block _ (aa ko.out.1)).trans ko.out.1) (And.intro ((hb2.block _ (aa ko.out.2.1)).trans ko.out.2.1) (And.intro ((hb2.block _ (aa ko.out.2.2.1)).trans ko.out.2.2.1) ((hb2.block _ (aa ko.out.2.2.2)).trans ko.out.2.2.2))))
 have HLD:=hid (HLD.out.below hb2)
 have je:=hid (je.out.trans (hb2.mono je.out.size))
 have aaU:∀ i,i<n→w2.cell? ⟨ba,oa+i,none⟩=some (.string (tx (cZ P i))):=fun i hi=>(je.out.cell (p:=⟨ba,oa+i,none⟩) la).trans (hac i hi)
 have HAC:=hid aaU
 have lA:=Nat.lt_of_lt_of_le la je.out.size
 clear hb2 x1
 obtain ⟨x1,_⟩:=one_cell ko.out.2.1
 obtain ⟨p0,p1,p2,p3,p4,p5,p6⟩:=au ko.out.1
 have lX:=aa ko.out.2.1
 have lP:=aa ko.out.1
 have Ze:n=m+1:=by have:=Hf.out;omega
 have a0:=aaU 0 (by omega)
 have am:=aaU m (by omega)
 rw [Nat.add_zero] at a0
 generalize tx (cZ P 0)=xa0 at *
 generalize tx (cZ P m)=xam at *
 have i0:0<n:=by omega
 have i4:m<n:=by omega
 have i1:(0:Int)<(n:Int):=by omega
 have i2:(0:Int)≤(m:Int):=by omega
 have i3:(m:Int)<(n:Int):=by omega
 have w9:IntKind.i64.wrap ((n:Int)-1)=(m:Int):=by rw [IntWalk.i64_in _ (by omega)];omega
 clear aaU Ze
 have e1:decide (c0<0)=false:=by rw [HX1.out];exact decide_eq_false h0
 have e2:decide (0<c1)=false:=by rw [HX2.out];exact decide_eq_false hq
 gi_wp2_with fail
 have kL:=hid (fun W' (hS':Below w2.heap.size w2 W')=>And.intro ((hS'.cell (p:=⟨w.heap.size+1,0,none⟩) lX).trans x1) (And.intro ((hS'.cell (p:=⟨w.heap.size,1,none⟩) lP).trans p1) (And.intro ((hS'.cell (p:=⟨ba,oa,none⟩) lA).trans a0) ((hS'.cell (p:=⟨ba,oa+m,none⟩) lA).trans am))))
 refine bN bT (fun W'=>Below w2.heap.size w2 W') (.take 0 (.take 1 (.take 2 (.take 3 (.take 4 (.one 5 (.take 6 (.take 7 (.take 8 (.take 9 (.take 10 (.take 11 (.take 12 (.take 13 (.take 14 (.one 15 (.take 16 .fin))))))))))))))))) 17 (by kernel_rfl) (by kernel_rfl) (by kernel_rfl) ⟨rfl,rfl,rfl,Nat.le_refl _,fun _ _=>rfl⟩ ?_
 have bZ:Below w2.heap.size w2 w2.drew:=⟨rfl,rfl,rfl,Nat.le_refl _,fun _ _=>rfl⟩
 generalize w2.drew=dW at *
 iterate 5
  refine aF rfl ?_ rfl ?_ ?_
  rotate_left
  ·intro W' hS'
   obtain ⟨s0,s1,s2,s3⟩:=kL.out _ hS'
   go_simp
   try with_reducible rfl
  try simp only [zA,zB,zC,Act.put,zD,zE,zF]
 refine af rfl rfl (fun K hK=>?_)
 go_simp
 refine (HC0.out _ (Sa.out.below (je.out.trans (bZ.mono je.out.size)))).mono ?_
 rintro e gK ⟨rfl,cK⟩
 have hP1:=bZ.trans (cK.mono bZ.size)
 refine hK _ _ ⟨hP1,?_⟩
 clear hK K
 try simp only [zA,zB,zC,Act.put,zD,zE,zF]
 iterate 9
  refine aF rfl ?_ rfl ?_ ?_
  rotate_left
  ·intro W' hS'
   obtain ⟨s0,s1,s2,s3⟩:=kL.out _ hS'
   go_simp
   try with_reducible rfl
  try simp only [zA,zB,zC,Act.put,zD,zE,zF]
 refine af rfl rfl (fun K hK=>?_)
 go_simp
 refine (Ep.out _ (Sa.out.below (je.out.trans (hP1.mono je.out.size)))).mono ?_
 rintro e sW ⟨rfl,dK⟩
 have hP2:=hP1.trans (dK.mono hP1.size)
 refine hK _ _ ⟨hP2,?_⟩
 clear hK K
 try simp only [zA,zB,zC,Act.put,zD,zE,zF]
 refine aF rfl ?_ rfl ?_ ?_
 rotate_left
 ·intro W' hS'
  obtain ⟨s0,s1,s2,s3⟩:=kL.out _ hS'
  go_simp
  try with_reducible rfl
 try simp only [zA,zB,zC,Act.put,zD,zE,zF]
 unfold bR
 simp only [List.drop_succ_cons,List.drop_zero]
 obtain ⟨wS,qV⟩ : ∃ q,q=sW:=⟨_,rfl⟩
 have hbS:=hP2
 rw [←qV] at hbS ⊢
 clear qV
 obtain ⟨p0,p1,p2,p3,p4,p5,p6⟩:=au ((hbS.block _ (aa ko.out.1)).trans ko.out.1)
 gi_wp2_with fail
 refine dB (fun g a W=>∃ (i:Nat),Frm a [.k (.agg #[.slice pg n cg,.slice (some ⟨ba,oa,none⟩) n ca,.slice (some ⟨bt,ot,none⟩) n ct,.string t1,.string t2,.string t3,.string t4]),.k (.string xx),.k (.pointer (some ⟨w.heap.size,0,none⟩)),.k (.pointer (some ⟨w.heap.size+1,0,none⟩)),.k (.pointer (some ⟨w.heap.size+1+1,0,none⟩)),.k (.pointer (some ⟨w.heap.size+1+1+1,0,none⟩)),.k (.slice pl m cl),.k (.int .i64 0),.k (.int .i64 0),.k (.int .i64 (n:Int)),.k (.int .i64 (ui P x i:Int)),.n 48,.k (.slice (some ⟨ba,oa,none⟩) n ca),.k (.int .i64 (n:Int)),.k (.int .i64 (i:Int)),.n 127] []∧Below wS.heap.size wS W∧i+g=n∧∀ j,j<i→x≠cZ P j) n ?_ ?_
 ·exact ⟨0,.of rfl rfl,Below.refl _ _,Nat.zero_add _,fun j hj=>absurd hj (Nat.not_lt_zero _)⟩
 intro g cc QQ hcc QA a W hI
 obtain ⟨i,hI⟩:=hI
 obtain ⟨ha,hbW,hig,hne⟩:=hI
 obtain ⟨uu,ha⟩:=ha
 subst ha hcc QA
 simp only [frS,frU,Nat.reduceAdd]
 have hxW:=(hbW.block _ (aa ((hbS.block _ (aa ko.out.1)).trans ko.out.1))).trans ((hbS.block _ (aa ko.out.1)).trans ko.out.1)
 have qA:=hid (hbS.trans (hbW.mono hbS.size))
 obtain ⟨p0,p1,p2,p3,p4,p5,p6⟩:=au hxW
 have hyW:=(qA.out.block _ (aa ko.out.2.1)).trans ko.out.2.1
 obtain ⟨x1,_⟩:=one_cell hyW
 have tQ:=hid hne
 clear hne hxW hyW
 by_cases hi:i<n
 ·have kn:decide ((i:Int)<(n:Int))=true:=decide_eq_true (by omega)
  have Jc:decide (i<n)=true:=decide_eq_true hi
  have j1:(0:Int)≤(i:Int):=by omega
  have j2:(i:Int)<(n:Int):=by omega
  have w5:IntKind.i64.wrap ((i:Int)+1)=(i:Int)+1:=IntWalk.i64_in _ (by omega)
  have ci:=(qA.out.cell (p:=⟨ba,oa+i,none⟩) lA).trans (HAC.out i hi)
  by_cases hxe:x=cZ P i
  ·as_aux_lemma =>
    have e3:(xx.toList == (tx (cZ P i)).toList)=true:=by rw [HXE.out i];exact decide_eq_true hxe
    generalize hyy:tx (cZ P i)=yy at *
    clear hyy
    have HAX:=hid (aaB (P:=P) (x:=x) (i:=i) (by rw [HN.out.1];exact hi) hxe tQ.out)
    obtain ⟨bg,og,ug,rfl,hbl,cg0,DY⟩:=(QY.out.g.below (je.out.trans (qA.out.mono je.out.size))).at (show i<P.lg.length by rw [HN.out.1];exact hi)
    obtain ⟨pv,cv,rfl,hcv,MW⟩:=DY.slice
    unfold maxLen at MW
    have Cw:=hid (Rh (show (P.lg.getD i []).length≤1000000 by have:(P.lg.getD i []).length≤8:=(HO.out.log i (by rw [HN.out.1];exact hi)).2;omega) DY)
    generalize (P.lg.getD i []).length=nl at *
    clear DY
    gi_wp2_with fail
    refine ⟨trivial,?_⟩
    refine (callsIn_wide.2 Cw.out).mono ?_
    rintro e w3 ⟨v',rfl,hv',hb3⟩
    have adn:=hid (qA.out.trans (hb3.mono qA.out.size))
    obtain ⟨b,off,c,rfl⟩ : ∃ b off c,v'=.slice b off c:=by obtain ⟨p,c,h,_⟩:=hv';exact ⟨_,_,_,h⟩
    have HV:=hid hv'
    clear hb3 hv' x1 p0 p1 p2 p3 p4 p5 p6 cg0
    have hx2:=(adn.out.block _ (aa ko.out.2.2.1)).trans ko.out.2.2.1
    have hx3:=(adn.out.block _ (aa ko.out.2.2.2)).trans ko.out.2.2.2
    obtain ⟨r2,f2⟩:=one_cell hx2
    obtain ⟨r3,f3⟩:=one_cell hx3
    have HE:=hid (at_end (v:=.slice b off c) (e:=0) hx2 hx3)
    have HIV:=hid (gm.two (v1:=.slice b off c) (v2:=.int .i64 0) HV.out hx2 hx3 (fun s h=>by cases h) (fun s h=>by cases h))
    have ZK:=hid (((je.out.trans (adn.out.mono je.out.size)).setCell (p:=⟨w.heap.size+1+1,0,none⟩) (Nat.le_succ_of_le (Nat.le_succ _)) (.slice b off c)).setCell (p:=⟨w.heap.size+1+1+1,0,none⟩) (Nat.le_succ_of_le (Nat.le_succ_of_le (Nat.le_succ _))) (.int .i64 0))
    clear hx2 hx3
    gi_wp2
    have hE:=HE.out
    have hlo:=ZK.out
    have hIV:=HIV.out
    generalize (w3.setCell ⟨w.heap.size+1+1,0,none⟩ (.slice b off c)).setCell ⟨w.heap.size+1+1+1,0,none⟩ (.int .i64 0)=WZ at *
    refine ic (b:=w2.heap.size) [] WZ (Marks.nil _ _) (fun W' hs=>?_)
    obtain ⟨q1,_⟩:=one_cell (hs.2 _ _ hE.1 rfl)
    obtain ⟨q2,_⟩:=one_cell (hs.2 _ _ hE.2 rfl)
    refine ⟨.tuple #[.slice b off c,.int .i64 0],by simp [results,Tryz.results24,go_sem,q1,q2],_,rfl,?_,hlo.trans (hs.1.mono je.out.size)⟩
    rw [HAX.out]
    exact hIV.kept fun b cs t fz hb _=>hs.2 _ _ hb rfl
  ·as_aux_lemma =>
    have e3:(xx.toList == (tx (cZ P i)).toList)=false:=by rw [HXE.out i];exact decide_eq_false hxe
    have HC:=hid (HCI.out i hi)
    have HLT:=hid (show decide (dx (cZ P i) x<0)=decide (cZ P i<x) by rw [decide_eq_decide];exact jV)
    have QV:=hid (Gd P x i)
    unfold RV at HC
    generalize dx (cZ P i) x=c at *
    generalize tx (cZ P i)=yy at *
    have HN2:=hid (show ∀ j,j<i+1→x≠cZ P j from fun j hj=>by
     rcases Nat.lt_or_ge j i with h | h
     ·exact tQ.out j h
     ·obtain rfl:j=i:=by omega
      exact hxe)
    by_cases hlt:cZ P i<x
    ·have e4:decide (c<0)=true:=by rw [HLT.out];exact decide_eq_true hlt
     gi_wp2_with fail
     refine ⟨trivial,?_⟩
     refine (callsIn_wide.2 (HC.out W (Sa.out.below (je.out.trans (qA.out.mono je.out.size))))).mono ?_
     rintro e w3 ⟨rfl,hb3⟩
     gi_wp2
     exact ⟨g-1,by omega,i+1,.of (by rw [QV.out,if_pos hlt];rfl) rfl,hbW.trans (hb3.mono hbW.size),by omega,HN2.out⟩
    ·have e4:decide (c<0)=false:=by rw [HLT.out];exact decide_eq_false hlt
     gi_wp2_with fail
     refine ⟨trivial,?_⟩
     refine (callsIn_wide.2 (HC.out W (Sa.out.below (je.out.trans (qA.out.mono je.out.size))))).mono ?_
     rintro e w3 ⟨rfl,hb3⟩
     gi_wp2
     exact ⟨g-1,by omega,i+1,.of (by rw [QV.out,if_neg hlt];rfl) rfl,hbW.trans (hb3.mono hbW.size),by omega,HN2.out⟩
 ·obtain rfl:n=i:=by omega
  obtain ⟨hk1,hk2,hk3⟩:=aaz HO.out h0 (by rw [HN.out.1,←Hf.out];exact hq) (by rw [HN.out.1];exact tQ.out)
  have HAX:=hid (ac9 (P:=P) (x:=x) (by rw [HN.out.1];exact tQ.out))
  rw [HN.out.1] at hk1 hk2 hk3 HAX
  generalize ui P x n=k at *
  obtain ⟨k1,hkk⟩ : ∃ k1,k1=k+1:=⟨_,rfl⟩
  have h9:IntKind.i64.wrap ((k:Int)+1)=(k1:Int):=by rw [IntWalk.i64_in _ (by omega)];omega
  have g1:(0:Int)≤(k:Int):=by omega
  have g2:(k:Int)<(n:Int):=by omega
  have g3:(0:Int)≤(k1:Int):=by omega
  have g4:(k1:Int)<(n:Int):=by omega
  rw [←hkk] at hk1 hk3
  have HKK:=hid hkk
  have hk4:k+1<P.lg.length:=by rw [HN.out.1,←hkk];exact hk1
  have hk5:x<cZ P (k+1):=by rw [←hkk];exact hk3
  have HAT:=hid (fun s y (hsm:s∈aZ P k) (hym:y∈aC P k s)=>And.intro (hxf.ed k s y hk4 hk2 hk5 hsm hym) (fun p hp=>hxf.sub k s y p hk4 hk2 hk5 hsm hym hp))
  have HSC:=hid (Wq HO.out hk4 hxf.sx (hxf.top k hk4 hk2 hk5) hk2 hk5)
  clear hk4 hk5
  rw [←hkk,HXQ.out] at HSC
  obtain ⟨hs1,hs2,hdv,hs3,YN,had⟩:=HSC.out
  have HS1:=hid hs1
  have HS2:=hid hs2
  have Y1:=hid hdv
  have HS3:=hid hs3
  have HML:=hid YN
  have HAD:=hid had
  unfold RV at HS1 HS2 Y1 HS3 HML HAD
  clear hs1 hs2 hdv hs3 YN had HSC hkk
  have V8:=hid (Sa.out.below (je.out.trans (qA.out.mono je.out.size)))
  have ak:=(qA.out.cell (p:=⟨ba,oa+k,none⟩) lA).trans (HAC.out k (by omega))
  have ak1:=(qA.out.cell (p:=⟨ba,oa+k1,none⟩) lA).trans (HAC.out k1 hk1)
  have lX:=aa ((qA.out.block _ (aa ko.out.2.1)).trans ko.out.2.1)
  have lP:=aa ((qA.out.block _ (aa ko.out.1)).trans ko.out.1)
  have lAW:=Nat.lt_of_lt_of_le lA qA.out.size
  have HSH:=hid (CR (xU P x k) (1/2))
  rw [Zp] at HSH
  generalize hts:tx (xU P x k)=ts at *
  generalize OJ:tx (zh P x k)=tt at *
  generalize tx (cZ P k)=ta0 at *
  generalize tx (cZ P k1)=YY at *
  generalize tx (x-cZ P k)=td0 at *
  generalize tx (cZ P k1-cZ P k)=td1 at *
  have HTS:=hid hts
  have Qy:=hid OJ
  clear hts OJ
  gi_upto_region 19 with fail
  try dsimp only
  gi_cut [13] from 81 (fun s13 wx=>uO W s13 (.string ts) wx)
  case first =>
   as_aux_lemma =>
    have kL:=hid (fun W' (hS':Below W.heap.size W W')=>And.intro ((hS'.cell (p:=⟨w.heap.size+1,0,none⟩) lX).trans x1) (And.intro ((hS'.cell (p:=⟨w.heap.size,1,none⟩) lP).trans p1) (And.intro ((hS'.cell (p:=⟨ba,oa+k,none⟩) lAW).trans ak) ((hS'.cell (p:=⟨ba,oa+k1,none⟩) lAW).trans ak1))))
    refine bN bT (fun W'=>Below W.heap.size W W') (.take 0 (.take 1 (.take 2 (.take 3 (.take 4 (.take 5 (.take 7 (.take 8 (.take 9 (.take 10 (.take 11 (.take 12 (.take 13 (.take 14 (.take 15 (.take 16 (.take 17 (.two 6 (.two 18 (.two 19 (.take 20 (.take 21 (.take 22 (.one 23 (.one 24 .fin))))) 23 (.one 19 (.take 20 (.take 21 (.take 22 (.one 24 .fin)))))) 23 (.one 18 (.one 19 (.take 20 (.take 21 (.take 22 (.one 24 .fin))))))) 23 (.one 6 (.one 18 (.one 19 (.take 20 (.take 21 (.take 22 (.one 24 .fin))))))))))))))))))))))))) 25 (by kernel_rfl) (by kernel_rfl) (by kernel_rfl) ⟨rfl,rfl,rfl,Nat.le_refl _,fun _ _=>rfl⟩ ?_
    have hP:Below W.heap.size W W.drew:=⟨rfl,rfl,rfl,Nat.le_refl _,fun _ _=>rfl⟩
    generalize W.drew=pv at *
    repeat' first
    |
     refine aF rfl ?_ rfl ?_ ?_
     rotate_left
     ·intro W' hS'
      obtain ⟨s0,s1,s2,s3⟩:=kL.out _ hS'
      go_simp
      try with_reducible rfl
     try simp only [zA,zB,zC,Act.put,zD,zE,zF]
    |
     refine dE ?_ ?_
    |
     first
     |
      refine af (i:=6) rfl rfl (fun K hK=>?_)
      go_simp
      refine (HS1.out _ (V8.out.below hP)).mono ?_
      rintro e pv ⟨rfl,hb⟩
      have hP:=hP.trans (hb.mono hP.size)
     |
      refine af (i:=18) rfl rfl (fun K hK=>?_)
      go_simp
      refine (HS2.out _ (V8.out.below hP)).mono ?_
      rintro e pv ⟨rfl,hb⟩
      have hP:=hP.trans (hb.mono hP.size)
     |
      refine af (i:=19) rfl rfl (fun K hK=>?_)
      go_simp
      refine (Y1.out _ (V8.out.below hP)).mono ?_
      rintro e pv ⟨rfl,hb⟩
      have hP:=hP.trans (hb.mono hP.size)
     |
      refine af (i:=23) rfl rfl (fun K hK=>?_)
      go_simp
      obtain ⟨pv,A23,hw1,hw2,z23,hb,hP,g23,e23⟩:=nT (vs:=#[.string ⟨#[]⟩]) (t:=33) hP
      rw [hw1,hw2]
      clear hw1 hw2
     try have z23:=(hb.block _ (lt_of_some z23)).trans z23
     refine hK _ _ ⟨hP,?_⟩
     clear hK K
     try simp only [zA,zB,zC,Act.put,zD,zE,zF]
    |
     refine af (i:=24) rfl rfl (fun K hK=>?_)
     obtain ⟨_,_⟩:=one_cell z23
     go_simp
     refine hK _ _ ⟨hP.setCell (p:=⟨_,0,none⟩) g23 _,?_⟩
     clear hK K
     try simp only [zA,zB,zC,Act.put,zD,zE,zF]
    |
     unfold bR
     simp only [List.drop_succ_cons,List.drop_zero]
     have kA:=one_set (.string ts) z23
     have kB:=hP.setCell (p:=⟨_,0,none⟩) g23 (.string ts)
     obtain ⟨_,_⟩:=one_cell z23
     have eF:=hid (show uO W (.pointer (some ⟨A23,0,none⟩)) (.string ts) _ from ⟨_,rfl,kA,kB,g23⟩)
     clear kA kB
     gi_wp2_with fail
     gi_meet
     exact eF.out
  case rest =>
  obtain ⟨Bs,rfl,hbs,vF,hgs⟩:=hcut
  obtain ⟨wJ,hwj⟩ : ∃ q,q=wc:=⟨_,rfl⟩
  subst hwj
  have HWJ:=hid (qA.out.trans (vF.mono qA.out.size))
  have qE:=hid hbs
  have HGJ:=hid (Sa.out.below (je.out.trans (HWJ.out.mono je.out.size)))
  have hpJ:=(HWJ.out.block _ (aa ko.out.1)).trans ko.out.1
  have adr:=hid (je.out.trans (HWJ.out.mono je.out.size))
  have tk:wJ.cell? ⟨bt,ot+k,none⟩=some (.string (tx (bG P k))):=(adr.out.cell (p:=⟨bt,ot+k,none⟩) lt).trans (htc k (by omega))
  have tk1:wJ.cell? ⟨bt,ot+k1,none⟩=some (.string (tx (bG P k1))):=(adr.out.cell (p:=⟨bt,ot+k1,none⟩) lt).trans (htc k1 hk1)
  clear p0 p1 p2 p3 p4 p5 p6 x1 ak ak1 lX lP lAW
  obtain ⟨p0,p1,p2,p3,p4,p5,p6⟩:=au hpJ
  have lP:=aa hpJ
  have lS:=aa hbs
  have lT:=Nat.lt_of_lt_of_le lt adr.out.size
  obtain ⟨b0,_⟩:=one_cell hbs
  generalize tx (bG P k)=tp0 at *
  generalize tx (bG P k1)=tp1 at *
  generalize tx (bG P k1-bG P k)=tpd at *
  generalize tx (xU P x k*(bG P k1-bG P k))=tpm at *
  clear hpJ hbs vF hgs
  gi_upto_region 20 with fail
  try dsimp only
  gi_cut [15] from 104 (fun s15 wx=>uO wJ s15 (.string tt) wx)
  case first =>
   as_aux_lemma =>
    have kL:=hid (fun W' (hS':Below wJ.heap.size wJ W')=>And.intro ((hS'.cell (p:=⟨w.heap.size,2,none⟩) lP).trans p2) (And.intro ((hS'.cell (p:=⟨Bs,0,none⟩) lS).trans b0) (And.intro ((hS'.cell (p:=⟨bt,ot+k,none⟩) lT).trans tk) ((hS'.cell (p:=⟨bt,ot+k1,none⟩) lT).trans tk1))))
    refine bN bT (fun W'=>Below wJ.heap.size wJ W') (.take 0 (.take 1 (.take 2 (.take 3 (.take 4 (.take 5 (.take 6 (.take 7 (.take 8 (.take 9 (.take 10 (.take 11 (.take 12 (.take 13 (.take 14 (.take 15 (.take 16 (.two 17 (.two 18 (.two 19 (.one 20 .fin) 20 (.one 19 .fin)) 20 (.one 18 (.one 19 .fin))) 20 (.one 17 (.one 18 (.one 19 .fin))))))))))))))))))))) 21 (by kernel_rfl) (by kernel_rfl) (by kernel_rfl) ⟨rfl,rfl,rfl,Nat.le_refl _,fun _ _=>rfl⟩ ?_
    have hQ:Below wJ.heap.size wJ wJ.drew:=⟨rfl,rfl,rfl,Nat.le_refl _,fun _ _=>rfl⟩
    generalize wJ.drew=qv at *
    repeat' first
    |
     refine aF rfl ?_ rfl ?_ ?_
     rotate_left
     ·intro W' hS'
      obtain ⟨s0,s1,s2,s3⟩:=kL.out _ hS'
      go_simp
      try with_reducible rfl
     try simp only [zA,zB,zC,Act.put,zD,zE,zF]
    |
     refine dE ?_ ?_
    |
     first
     |
      refine af (i:=17) rfl rfl (fun K hK=>?_)
      go_simp
      refine (HS3.out _ (HGJ.out.below hQ)).mono ?_
      rintro e qv ⟨rfl,hb⟩
      have hQ:=hQ.trans (hb.mono hQ.size)
     |
      refine af (i:=18) rfl rfl (fun K hK=>?_)
      go_simp
      refine (HML.out _ (HGJ.out.below hQ)).mono ?_
      rintro e qv ⟨rfl,hb⟩
      have hQ:=hQ.trans (hb.mono hQ.size)
     |
      refine af (i:=19) rfl rfl (fun K hK=>?_)
      go_simp
      refine (HAD.out _ (HGJ.out.below hQ)).mono ?_
      rintro e qv ⟨rfl,hb⟩
      have hQ:=hQ.trans (hb.mono hQ.size)
     |
      refine af (i:=20) rfl rfl (fun K hK=>?_)
      go_simp
      obtain ⟨qv,A20,hw1,hw2,z20,hb,hQ,g20,e20⟩:=nT (vs:=#[.string ⟨#[]⟩]) (t:=33) hQ
      rw [hw1,hw2]
      clear hw1 hw2
     try have z20:=(hb.block _ (lt_of_some z20)).trans z20
     refine hK _ _ ⟨hQ,?_⟩
     clear hK K
     try simp only [zA,zB,zC,Act.put,zD,zE,zF]
    |
     unfold bR
     simp only [List.drop_succ_cons,List.drop_zero]
     have kA:=one_set (.string tt) z20
     have kB:=hQ.setCell (p:=⟨_,0,none⟩) g20 (.string tt)
     obtain ⟨_,_⟩:=one_cell z20
     have eF:=hid (show uO wJ (.pointer (some ⟨A20,0,none⟩)) (.string tt) _ from ⟨_,rfl,kA,kB,g20⟩)
     clear kA kB
     gi_wp2_with fail
     gi_meet
     exact eF.out
  case rest =>
  obtain ⟨Bt,rfl,hbt,VL,hgt⟩:=hcut
  obtain ⟨wE,hwe⟩ : ∃ q,q=wc:=⟨_,rfl⟩
  subst hwe
  have Sb:=hid (HWJ.out.trans (VL.mono HWJ.out.size))
  have qE:=hid ((VL.block _ (aa qE.out)).trans qE.out)
  have HBT:=hid hbt
  have xI:=hid (je.out.trans (Sb.out.mono je.out.size))
  obtain ⟨wI,Km⟩ : ∃ wI,wI=wE.alloc (Obj.cells #[.slice none 0 0] 66):=⟨_,rfl⟩
  have Qx:Below wE.heap.size wE wI:=by rw [Km];exact ae _ _
  have hoI:wI.heap[wE.heap.size]?=some (.cells #[.slice none 0 0] 66 (0,0)):=by rw [Km];exact World.alloc_heap_new _ _
  have HWI:=hid Km
  obtain ⟨bo,gU⟩ : ∃ b,b=wE.heap.size:=⟨_,rfl⟩
  rw [←gU] at hoI
  have uE:=hid gU
  have Kr:=hid (show Ri wE bo (.slice none 0 0) [] wI from ⟨Qx,hoI,World.ownsRow_nil _ _ _ _,Nat.le_of_eq gU.symm⟩)
  have YU:k<m:=by have:=Hf.out;have:=HKK.out;omega
  have kj2:(k:Int)<(m:Int):=by omega
  obtain ⟨b,off,u,rfl,hbl,c0,c1,hst⟩:=(HLD.out.below Sb.out).at YU
  obtain ⟨ps,cs,rfl,hcs,hcs2⟩:=hst.slice
  unfold maxLen at hcs2
  have HST:=hid hst
  have HK:=hid (show k+1<P.lg.length by rw [HN.out.1,←HKK.out];exact hk1)
  have ac6:=xR HO.out HK.out
  generalize zb:(aZ P k).length=iL at *
  have Ff:=hid zb
  generalize tx (tY P k)=ttt at *
  have c0:=(Qx.cell (p:=⟨b,off+k*2,none⟩) hbl).trans c0
  clear c1 Km Qx hoI gU hst zb hbt VL hgt b0 tk tk1 lP lS lT p0 p1 p2 p3 p4 p5 p6 hbl
  gi_upto_region 22 with fail
  rw [←HWI.out,←uE.out]
  gi_upto_region 23 with fail
  clear c0 HWI
  refine dB (fun g2 a W=>∃ (i:Nat) (vo:Value) (D:List Iv) (ds:List Nat),Frm a [.n 2,.k (.pointer (some ⟨w.heap.size,0,none⟩)),.k (.pointer (some ⟨w.heap.size+1,0,none⟩)),.k (.pointer (some ⟨w.heap.size+1+1,0,none⟩)),.k (.pointer (some ⟨w.heap.size+1+1+1,0,none⟩)),.n 4,.k (.int .i64 (k:Int)),.n 2,.k (.pointer (some ⟨Bs,0,none⟩)),.n 1,.k (.pointer (some ⟨Bt,0,none⟩)),.k (.pointer (some ⟨bo,0,none⟩)),.n 111,.k (.slice ps iL cs),.k (.int .i64 (iL:Int)),.k (.int .i64 (i:Int)),.n 58] ds∧Ri wE bo vo D W∧Marks wE.heap.size W ds∧D=((aZ P k).take i).flatMap (VT P x k)∧D.length≤2*i∧i+g2=iL) iL ?_ ?_
  ·exact ⟨0,_,[],[],.of rfl rfl,Kr.out,Marks.nil _ _,rfl,Nat.zero_le _,Nat.zero_add _⟩
  clear Kr
  intro g2 cc QQ hcc QA a W hI
  obtain ⟨i,hI⟩:=hI
  obtain ⟨vo,hI⟩:=hI
  obtain ⟨D,hI⟩:=hI
  obtain ⟨ds,hI⟩:=hI
  obtain ⟨ha,hinv,hms,hD,hDl,ahN⟩:=hI
  obtain ⟨uu,ha⟩:=ha
  subst ha hcc QA
  simp only [frS,frU,Nat.reduceAdd]
  have HI:=hid hinv
  have MP:=hid hms
  have HD:=hid hD
  clear hinv hms hD
  by_cases hi2:i<iL
  ·as_aux_lemma =>
    have in1:decide ((i:Int)<(iL:Int))=true:=decide_eq_true (by omega)
    have in2:decide (i<iL)=true:=decide_eq_true hi2
    have in3:(0:Int)≤(i:Int):=by omega
    have in4:(i:Int)<(iL:Int):=by omega
    have Gc:i<(aZ P k).length:=by rw [Ff.out];exact hi2
    obtain ⟨hs1,hs2,hs3,hs4⟩:=oL Gc
    obtain ⟨b3,VK,rfl,KU,e0,e1,e2⟩:=(HST.out.below HI.out.low).at Gc
    obtain ⟨s,hs⟩ : ∃ s,s=gy (aZ P k) i:=⟨_,rfl⟩
    rw [←hs] at hs1 hs2 hs3 hs4 e0 e1 e2
    have HS:=hid hs
    have mF:=hid (And.intro hs1 (And.intro hs2 (And.intro hs3 hs4)))
    have HIL:=hid Gc
    clear hs1 hs2 hs3 hs4 hs Gc
    gi_upto_region 25 with fail
    obtain ⟨wC,EZ⟩ : ∃ wC,wC=W.alloc (Obj.cells #[.int .i64 (s.k:Int),.int .i64 (s.i:Int),.int .i64 (s.j:Int)] 57):=⟨_,rfl⟩
    obtain ⟨hbC,lC,g0,g1,g2'⟩:=aY EZ
    rw [←EZ]
    have LH:=hid (HI.out.below hbC)
    have HMC:=hid (MP.out.below hbC)
    have HNG:=hid (show ∀ g,vo.ownBlock=some g→g<wC.heap.size from fun g hg=>Nat.lt_of_lt_of_le (HI.out.own.lt g hg).2 hbC.size)
    have aff:=hid (Sb.out.trans (LH.out.low.mono Sb.out.size))
    have HXC:=hid ((aff.out.block _ (aa ko.out.1)).trans ko.out.1)
    obtain ⟨p0,p1,p2,p3,p4,p5,p6⟩:=au HXC.out
    clear EZ hbC e0 e1 e2
    gi_wp2_with fail
    refine ⟨trivial,?_⟩
    refine (callsIn_wide.2 (U9.out k s (by rw [←HN.out.1];exact HK.out) wC (je.out.trans (aff.out.mono je.out.size)))).mono ?_
    rintro e wS ⟨Bs2,Bl,Br,B1,B2,Bk,Bp,vl2,vr2,rfl,hE,hbS⟩
    have HE:=hid hE
    have HIS:=hid (LH.out.below hbS)
    have QE:=hid (show ∀ d∈ds,d<wS.heap.size from fun d hd=>Nat.lt_of_lt_of_le (HMC.out.lt d hd) hbS.size)
    have HP0:=hid (show Iy wE bo D ds P x k s wC.heap.size wS.heap.size 0 wS from ⟨⟨vo,D,HIS.out,by simp,Nat.le_refl _,fun _=>HNG.out⟩,HMC.out.below hbS,Nat.le_refl _⟩)
    have zW:=hid (HIS.out.low)
    have DX:=hid (show bo<wC.heap.size from aa LH.out.ob)
    have CB:=hid hbS.size
    clear hE hbS p0 p1 p2 p3 p4 p5 p6 g0 g1 g2' lC
    gi_wp2
    refine mo (n:=10) 138 19 P k s rfl (by decide) (gf:=104) (lb:=#[.pointer (some ⟨Bs2,0,none⟩),.pointer (some ⟨Bl,0,none⟩),.pointer (some ⟨Br,0,none⟩),.pointer (some ⟨B1,0,none⟩),.pointer (some ⟨B2,0,none⟩),.pointer (some ⟨Bk,0,none⟩)]) rfl trivial (enters_of Tryz.func104 (by kernel_rfl) rfl)
     (KS HK.out HO.out mF.out.1 mF.out.2.1 mF.out.2.2.1 mF.out.2.2.2 wS (Sa.out.below (xI.out.trans (zW.out.mono xI.out.size))) HE.out)
     uM (fun W l o o' _ h ho _=>Ae W l o o' h ho) (Below.refl _ _) rfl
     (Iy wE bo D ds P x k s wC.heap.size wS.heap.size) (fun _ _ _=>False) (Iy.own zW.out.size QE.out) (fun _ _ _ _ _ hs _ _=>hs) HP0.out ?assign ?body ?done ?stop
    case assign =>
     as_aux_lemma =>
      rintro l i2 hi3 v W0 K hi0 ⟨y,hy,sl,rfl,hsl⟩ hK
      obtain ⟨R8,R9,rfl,aar,KV⟩:=hsl.slice
      have HI0:=hid hi0
      have HKC:=hid hK
      have HSL:=hid hsl
      have UC:=hid hy
      generalize hlen:y.1.pg.length=nsl at *
      generalize hu:us y.1.u=u at *
      have HU:=hid hu
      clear hi0 hK hsl hy hu hlen
      gi_wp2
      refine HKC.out _ _ (aM (ae _ _)) (nR (ae _ _)) (HI0.out.below (ae _ _)) ⟨W0.heap.size,y,_,HI0.out.sz,UC.out,by rw [HU.out];exact World.alloc_heap_new _ _,jC.below HSL.out (ae _ _),by rw [HU.out];rfl⟩
    case body =>
     as_aux_lemma =>
      rintro l i2 hi3 a' W0 hl hi0 ⟨B11,y,sl,ags,hy,Nw,hsl,rfl⟩
      simp only [List.setIfInBounds_toArray,List.set_cons_zero,List.set_cons_succ]
      obtain ⟨vo2,D2,h1,h2,h3,h4⟩:=hi0.ex
      obtain ⟨_,uf,uh,rfl,Q9,KW,_⟩:=Reads.bu h1.own
      unfold maxLen at KW
      obtain ⟨R8,R9,rfl,aar,KV⟩:=hsl.slice
      have hmem:y∈aC P k s:=List.mem_of_getElem? hy
      have hq4:=Dy HO.out HK.out mF.out.1 mF.out.2.1 mF.out.2.2.1 mF.out.2.2.2 y hmem
      have HW0:=hid (Sb.out.trans (h1.low.mono Sb.out.size))
      have HG0:=hid (Sa.out.below (je.out.trans (HW0.out.mono je.out.size)))
      obtain ⟨ajk,ajl⟩:=HAT.out s y (by rw [HS.out,jZ HIL.out];exact List.getElem_mem _) hmem
      have adt:=hid (aaR (.slice R8 y.1.pg.length R9) y.1.pg hxf.sx ajk hq4.1 hq4.2 W0 HG0.out hsl)
      have agO:=hid ajl
      clear ajk ajl
      rw [HXQ.out] at adt
      have hx0:=(HW0.out.block _ (aa ko.out.2.1)).trans ko.out.2.1
      have hs0:=(h1.low.block _ (aa qE.out)).trans qE.out
      have ht0:=(h1.low.block _ (aa HBT.out)).trans HBT.out
      have HX0:=hid (And.intro hx0 (And.intro hs0 (And.intro ht0 (And.intro Nw h1.ob))))
      obtain ⟨z0,z1,z2,z3⟩:=iT Nw
      obtain ⟨x0,_⟩:=one_cell hx0
      have HH:=hid (And.intro h1 (And.intro h2 (And.intro h3 h4)))
      have HI0:=hid hi0
      have UC:=hid hy
      have hD2:D2.length≤100:=by have:=jM P k s;omega
      generalize hlen:y.1.pg.length=nsl at *
      generalize hu:us y.1.u=u at *
      have HU:=hid hu
      clear hi0 hy Nw hsl h1 h2 h3 h4 hmem hq4 hu hlen hx0 hs0 ht0
      gi_wp2_with fail
      refine ⟨trivial,?_⟩
      obtain ⟨ta,tb,bsm,Rc,hsm⟩:=adt.out
      refine (CallsIn.inRound l (callsIn_wide.2 Rc)).mono ?_
      rintro e w5 ⟨rfl,hb5⟩
      have ze:=hid hb5
      have hd5:=(hb5.block _ (aa HX0.out.2.2.2.1)).trans HX0.out.2.2.2.1
      have hs5:=(hb5.block _ (aa HX0.out.2.1)).trans HX0.out.2.1
      have ht5:=(hb5.block _ (aa HX0.out.2.2.1)).trans HX0.out.2.2.1
      have HX5:=hid (And.intro hd5 (And.intro hs5 ht5))
      obtain ⟨y0,y1,y2,y3⟩:=iT hd5
      obtain ⟨v0,_⟩:=one_cell hs5
      obtain ⟨v1,_⟩:=one_cell ht5
      clear hb5 hd5 hs5 ht5 z0 z1 z2 z3 x0 Rc adt
      obtain ⟨b2,hb2⟩ : ∃ b,b=y.2:=⟨_,rfl⟩
      rw [←hb2] at y3
      obtain ⟨b4,hb4⟩ : ∃ b,b=decide (xU P x k=1/2):=⟨_,rfl⟩
      have e7:(ts.toList == [49,47,50])=b4:=by rw [hb4,←Rv];exact HSH.out
      obtain ⟨b3,hb3⟩ : ∃ b,b=(ta.toList == tb.toList):=⟨_,rfl⟩
      have e8:(ta.toList == tb.toList)=b3:=hb3.symm
      have Gr:=hid (And.intro hb2 (And.intro hb3 hb4))
      clear hb2 hb3 hb4
      by_cases Gs:bsm=false∨b3=true∨(b2=true∧b4=true)
      ·have hnil:Y2 P x k y=[]:=aaS hsm Gr.out.1 Gr.out.2.1 Gr.out.2.2 Gs
       have Yd:=hid hnil
       clear hnil
       rcases Gs with rfl | Gs
       ·gi_wp2
        exact Iy.skip HI0.out UC.out Yd.out ze.out
       cases bsm with
       | false =>
        gi_wp2
        exact Iy.skip HI0.out UC.out Yd.out ze.out
       | true =>
        rcases Gs with rfl | ⟨rfl,rfl⟩
        ·gi_wp2
         exact Iy.skip HI0.out UC.out Yd.out ze.out
        ·cases b3 with
         | true =>
          gi_wp2
          exact Iy.skip HI0.out UC.out Yd.out ze.out
         | false =>
          gi_wp2
          exact Iy.skip HI0.out UC.out Yd.out ze.out
      ·obtain ⟨hs1,hs2,hs3⟩ : bsm=true∧b3=false∧(b2 && b4)=false:=by
        cases bsm <;> cases b3 <;> cases b2 <;> cases b4 <;> simp at Gs ⊢
       subst hs1 hs2
       obtain ⟨p,hp,RH,htb,DY⟩:=aaT hsm Gr.out.1 Gr.out.2.1 Gr.out.2.2 hs3
       obtain ⟨hfA,hfB,hft,hf1,hf2⟩:=agO.out p hp
       have J7:=hid (fun w' (hg:Good w')=>jX (zh P x k) p.2 hft hf2 w' hg)
       have UL:=hid (fun w' (hg:Good w')=>jX (zh P x k) p.1 hft hf1 w' hg)
       have YR:=hid (fun w' (hg:Good w')=>gY (zh P x k-p.2) hfB w' hg)
       have HCB:=hid (fun w' (hg:Good w')=>gY (zh P x k-p.1) hfA w' hg)
       rw [Qy.out,←htb] at J7
       rw [Qy.out,←RH] at UL
       unfold RV at J7 UL YR HCB
       have HIV:=hid DY
       generalize hra:tx (zh P x k-p.2)=ra at *
       generalize hrb:tx (zh P x k-p.1)=rb at *
       have HRR:=hid (And.intro hra hrb)
       have Wi:=hid (HG0.out.below ze.out)
       have ly:=aa HX5.out.1
       have lt5:=aa HX5.out.2.2
       clear hra hrb Gs DY hfA hfB hf1 hf2 hft hp RH htb hsm
       gi_upto_region 28 with fail
       try dsimp only
       gi_cut [162] from 148 (fun s wx=>s=.bool false∧wx=w5)
       case first =>
        as_aux_lemma =>
         cases b2 <;> cases b4 <;> simp at hs3 <;> (gi_wp2_with fail;gi_meet;exact ⟨rfl,rfl⟩)
       case rest =>
        as_aux_lemma =>
         obtain ⟨rfl,rfl⟩:=hcut
         obtain ⟨wK,hwk⟩ : ∃ q,q=wc:=⟨_,rfl⟩
         subst hwk
         gi_upto_region 29 with fail
         try dsimp only
         gi_cut [23] from 163 (fun s23 wx=>Pw wK s23 (.string u) (.string ra) (.string rb) wx)
         case first =>
          as_aux_lemma =>
           have kL:=hid (fun W' (hS':Below wK.heap.size wK W')=>And.intro ((hS'.cell (p:=⟨B11,1,none⟩) ly).trans y1) ((hS'.cell (p:=⟨Bt,0,none⟩) lt5).trans v1))
           refine bN jU (fun W'=>Below wK.heap.size wK W') (.take 0 (.take 1 (.take 2 (.take 3 (.take 4 (.take 6 (.take 7 (.two 5 (.two 8 (.take 9 (.one 10 .fin)) 10 (.one 8 (.take 9 .fin))) 10 (.one 5 (.one 8 (.take 9 .fin))))))))))) 11 (by kernel_rfl) (by kernel_rfl) (by kernel_rfl) ⟨rfl,rfl,rfl,Nat.le_refl _,fun _ _=>rfl⟩ ?_
           have hR:Below wK.heap.size wK wK.drew:=⟨rfl,rfl,rfl,Nat.le_refl _,fun _ _=>rfl⟩
           generalize wK.drew=rv at *
           repeat' first
           |
            refine aF rfl ?_ rfl ?_ ?_
            rotate_left
            ·intro W' hS'
             obtain ⟨s0,s1⟩:=kL.out _ hS'
             go_simp
             try with_reducible rfl
            try simp only [zA,zB,zC,Act.put,zD,zE,zF]
           |
            refine dE ?_ ?_
           |
            first
            |
             refine af (i:=5) rfl rfl (fun K hK=>?_)
             go_simp
             refine (J7.out _ (Wi.out.below hR)).mono ?_
             rintro e rv ⟨rfl,hb⟩
             have hR:=hR.trans (hb.mono hR.size)
            |
             refine af (i:=8) rfl rfl (fun K hK=>?_)
             go_simp
             refine (UL.out _ (Wi.out.below hR)).mono ?_
             rintro e rv ⟨rfl,hb⟩
             have hR:=hR.trans (hb.mono hR.size)
            |
             refine af (i:=10) rfl rfl (fun K hK=>?_)
             go_simp
             obtain ⟨rv,A10,hw1,hw2,z10,hb,hR,g10,e10⟩:=nT (vs:=#[.string ⟨#[]⟩,.string ⟨#[]⟩,.string ⟨#[]⟩]) (t:=89) hR
             rw [hw1,hw2]
             clear hw1 hw2
            try have z10:=(hb.block _ (lt_of_some z10)).trans z10
            refine hK _ _ ⟨hR,?_⟩
            clear hK K
            try simp only [zA,zB,zC,Act.put,zD,zE,zF]
           |
            unfold bR
            simp only [List.drop_succ_cons,List.drop_zero]
            have kA:=fG (.string u) (.string ra) (.string rb) z10
            have kB:=bW (.string u) (.string ra) (.string rb) g10 hR
            obtain ⟨_,_,_⟩:=bP z10
            obtain ⟨_,_,_⟩:=az z10
            have eF:=hid (show Pw wK (.pointer (some ⟨A10,0,none⟩)) (.string u) (.string ra) (.string rb) _ from ⟨_,rfl,kA,kB,g10⟩)
            clear kA kB
            gi_wp2_with fail
            gi_meet
            exact eF.out
         case rest =>
          as_aux_lemma =>
           obtain ⟨Bx,rfl,hbx,vF,hgx⟩:=hcut
           obtain ⟨wL,hwl⟩ : ∃ q,q=wc:=⟨_,rfl⟩
           subst hwl
           have HBL:=hid (ze.out.trans (vF.mono ze.out.size))
           have Ei:=hid hbx
           have HGL:=hid (HG0.out.below HBL.out)
           clear y0 y1 y2 y3 v0 v1 ly lt5
           obtain ⟨b0,b1,b2'⟩:=az hbx
           clear hbx vF hgx
           gi_wp2_with fail
           refine ⟨trivial,?_⟩
           refine (CallsIn.inRound l (callsIn_wide.2 (YR.out wL HGL.out))).mono ?_
           rintro e w6 ⟨rfl,hb6⟩
           have Nz:=hid hb6
           have hx6:=(hb6.block _ (aa Ei.out)).trans Ei.out
           have HX6:=hid hx6
           clear b0 b1 b2'
           obtain ⟨b0,b1,b2'⟩:=az hx6
           clear hb6 hx6
           gi_wp2_with fail
           refine ⟨trivial,?_⟩
           refine (CallsIn.inRound l (callsIn_wide.2 (HCB.out w6 (HGL.out.below Nz.out)))).mono ?_
           rintro e w7 ⟨rfl,Db⟩
           have afg:=hid (HBL.out.trans ((Nz.out.trans (Db.mono Nz.out.size)).mono HBL.out.size))
           have hx7:=(Db.block _ (aa HX6.out)).trans HX6.out
           have HI7:=hid (HH.out.1.below afg.out)
           clear b0 b1 b2' Db
           obtain ⟨b0,b1,b2'⟩:=az hx7
           obtain ⟨oo,fo⟩:=one_cell HI7.out.ob
           have hown:=HI7.out.own
           have hlow:=HI7.out.low.size
           obtain ⟨i0,hii,hz0,hz1,hz2⟩:=info_parts nC.info
           clear hx7
           generalize VM:D2.length=nd at *
           have VN:=hid VM
           clear VM
           have HPF:=hid (fun (vz:Value) (l5:World) (hg:(w7.alloc (.cells #[.string u,.string ra,.string rb] 89)).grownBy l5 (Value.slice uf nd uh).ownBlock) (hown:l5.ownsRow wE.heap.size 89 3 vz (nd+1) (Af D2 ++ [.string u,.string ra,.string rb]))=>Iy.push HH.out.1 HH.out.2.1 (Nat.le_trans (Nat.le_of_eq VN.out) HH.out.2.2.1) HH.out.2.2.2 HI0.out.ms HI0.out.sz UC.out HIV.out (jM P k s) DX.out afg.out hg (by rw [←HU.out,←HRR.out.1,←HRR.out.2,←VN.out] at hown;exact hown))
           gi_wp2_with (gi_at_builtin;refine wpListIn_append_own _ rfl _ _ 66 rfl wE.heap.size 89 i0 (.agg #[.string ⟨#[]⟩,.string ⟨#[]⟩,.string ⟨#[]⟩]) 3 48 nC.ht hii hz0 hz1 hz2 nC.hzs nC.hsz _ nd _ rfl (hown.alloc _) ⟨w7.heap.size,0,none⟩ 1 1 [.string u,.string ra,.string rb] rfl rfl (jw _ _ _ _ _) (by simp [Value.oneCell']) (by unfold maxLen;omega) (by omega) (by simpa using Nat.le_succ_of_le hlow) ?_;intro vz l5 l7 hgrow _;obtain ⟨g9,rO,rfl⟩:=ownsRow_succ l7;have Mj:=hid (HPF.out _ _ hgrow l7);obtain ⟨c1,f1⟩:=one_cell Mj.out.2;clear l7 hgrow hown hlow b0 b1 b2' oo fo)
           exact Mj.out.1
    case done =>
     as_aux_lemma =>
      intro Dk W0 hD0 hi0 hK
      obtain ⟨vo2,D2,h1,h2,h3,h4⟩:=hi0.ex
      have HR:=hid (show D2=((aZ P k).take (i+1)).flatMap (VT P x k) by
       rw [h2,HD.out,List.take_length]
       have Gc:=HIL.out
       rw [List.take_succ_eq_append_getElem Gc,List.flatMap_append,List.flatMap_singleton,←jZ Gc,←HS.out]
       rfl)
      have HH:=hid h1
      have HM:=hid (Marks.cons hi0.ms (show wE.heap.size≤Dk by have:=zW.out.size;omega) hK (fun h=>by have:=QE.out Dk h;omega))
      have hlen:D2.length≤2*(i+1):=by have:=jM P k s;omega
      have w5:IntKind.i64.wrap ((i:Int)+1)=(i:Int)+1:=IntWalk.i64_in _ (by omega)
      clear h1 h2 h3 h4 hi0 hK
      gi_wp2
      exact ⟨g2-1,by omega,i+1,_,D2,Dk :: ds,.of rfl rfl,HH.out,HM.out,HR.out,hlen,by omega⟩
    case stop =>
     rintro Dk c k2 W0 hD0 hk2 hf hK
     exact hf.elim
  ·obtain rfl:iL=i:=by omega
   have in1:decide ((iL:Int)<(iL:Int))=false:=decide_eq_false (by omega)
   obtain ⟨hlo,uf,uh,rfl,Q9,KW,_⟩:=Reads.bu HI.out.own
   obtain ⟨oo,fo⟩:=one_cell HI.out.ob
   have HW2:=hid (Sb.out.trans (HI.out.low.mono Sb.out.size))
   have HV:=hid (p8 HI.out.own)
   have hDX:atX P x=D:=by rw [HAX.out,HD.out,←Ff.out,List.take_length];rfl
   have HDX:=hid hDX
   generalize hnd:D.length=nd at *
   clear hDX Q9 hlo hnd
   have hx2:=(HW2.out.block _ (aa ko.out.2.2.1)).trans ko.out.2.2.1
   have hx3:=(HW2.out.block _ (aa ko.out.2.2.2)).trans ko.out.2.2.2
   have HMK:=hid (jf (j:=0) (v:=.int .i64 0) (jf (j:=0) (v:=.slice uf nd uh) MP.out hx2) ((Below.heap_setCell W ⟨w.heap.size+1+1,0,none⟩ (.slice uf nd uh) _ (show w.heap.size+1+1+1≠_ from Nat.succ_ne_self _)).trans hx3))
   have hx2:=(HW2.out.block _ (aa ko.out.2.2.1)).trans ko.out.2.2.1
   have hx3:=(HW2.out.block _ (aa ko.out.2.2.2)).trans ko.out.2.2.2
   obtain ⟨r2,f2⟩:=one_cell hx2
   obtain ⟨r3,f3⟩:=one_cell hx3
   have HE:=hid (at_end (v:=.slice uf nd uh) (e:=0) hx2 hx3)
   have HIV:=hid (gm.two (v1:=.slice uf nd uh) (v2:=.int .i64 0) HV.out hx2 hx3 (fun s h=>by cases h) (fun s h=>by cases h))
   have ZK:=hid (((je.out.trans (HW2.out.mono je.out.size)).setCell (p:=⟨w.heap.size+1+1,0,none⟩) (Nat.le_succ_of_le (Nat.le_succ _)) (.slice uf nd uh)).setCell (p:=⟨w.heap.size+1+1+1,0,none⟩) (Nat.le_succ_of_le (Nat.le_succ_of_le (Nat.le_succ _))) (.int .i64 0))
   clear hx2 hx3
   gi_wp2
   have hE:=HE.out
   have hlo:=ZK.out
   have hIV:=HIV.out
   have hmk:=HMK.out
   generalize (W.setCell ⟨w.heap.size+1+1,0,none⟩ (.slice uf nd uh)).setCell ⟨w.heap.size+1+1+1,0,none⟩ (.int .i64 0)=WZ at *
   refine ic (b:=wE.heap.size) ds WZ hmk (fun W' hs=>?_)
   obtain ⟨q1,_⟩:=one_cell (hs.2 _ _ hE.1 rfl)
   obtain ⟨q2,_⟩:=one_cell (hs.2 _ _ hE.2 rfl)
   refine ⟨.tuple #[.slice uf nd uh,.int .i64 0],by simp [results,Tryz.results24,go_sem,q1,q2],_,rfl,?_,hlo.trans (hs.1.mono xI.out.size)⟩
   rw [HDX.out]
   exact hIV.kept fun b cs t fz hb _=>hs.2 _ _ hb rfl
end Go.Proofs.YtglncfkoohgdaaaGreatDoor
