import Derived.Test.YtglncfkoohgdaaaGreatDoorG20R
set_option maxRecDepth 100000
set_option maxHeartbeats 8000000
namespace Go.Proofs.YtglncfkoohgdaaaGreatDoor
open Go.RowKit Go.Shelf
open Go.Lib (decDigits itoa nDigits)
open Go.Lib (hid)
attribute [local go_sem] Oper.semAt_some
def uD (w:World) (s v:Value) (W:World):Prop:=∃ A,s=.pointer (some ⟨A,0,none⟩)∧W.heap[A]?=some (.cells #[v] 33 (0,0))∧Below w.heap.size w W∧w.heap.size≤A
def Pt (w:World) (s a b c:Value) (W:World):Prop:=∃ A,s=.pointer (some ⟨A,0,none⟩)∧W.heap[A]?=some (.cells #[a,b,c] 89 (0,0))∧Below w.heap.size w W∧w.heap.size≤A
def NQ (st:Option (Rat × Rat)) (ta tb:ByteArray) (b:Bool):Prop:=match st with
 | none=>b=false
 | some p=>b=true∧ta=tx p.1∧tb=tx p.2
theorem Rt:(⟨#[49,47,50]⟩ : ByteArray).toList=[49,47,50]:=by first | rfl | decide +kernel | simp
theorem aau (v:Value) (L:List QP) {x:Rat} (hx:Fc 64 4 x) (hn:L.length≤4) (hz:∀ p∈L,Q4 256 p.1∧Q4 256 p.2) (w:World) (hw:Good w) (hv:qh w v L) :
  ∃ ta tb b,Calls Tryz.prog 74 #[v,.string (tx x)] w (RV (.tuple #[.string ta,.string tb,.bool b]) w)∧NQ (oL L x) ta tb b:=by
 have h:=aaf v L x (by omega) (fun p hp=>⟨jZ (hz p hp).1,jZ (hz p hp).2⟩) hx w hw hv
 cases hs:oL L x with
 | none =>
  rw [hs] at h
  exact ⟨_,_,_,h,rfl⟩
 | some p =>
  rw [hs] at h
  exact ⟨_,_,_,h,rfl,rfl,rfl⟩
theorem aav {P:dB} {x:Rat} {k:Nat} {y:lH × Bool} {ta tb:ByteArray} {b b2 b3 b4:Bool} (h:NQ (oL y.1.pg x) ta tb b) (h2:b2=y.2) (h3:b3=(ta.toList == tb.toList)) (h4:b4=decide (xE P x k=1/2)) (hs:b=false∨b3=true∨(b2=true∧b4=true)):Yy P x k y=[]:=by
 unfold Yy
 cases hq:oL y.1.pg x with
 | none=>rfl
 | some p =>
  rw [hq] at h
  obtain ⟨rfl,rfl,rfl⟩:=h
  rw [CG] at h3
  dsimp only
  rw [if_pos]
  rcases hs with hs | hs | ⟨hs,hs'⟩
  ·cases hs
  ·rw [h3] at hs
   exact .inl (of_decide_eq_true hs)
  ·rw [h4] at hs'
   exact .inr ⟨by rw [←h2];exact hs,of_decide_eq_true hs'⟩
theorem aaw {P:dB} {x:Rat} {k:Nat} {y:lH × Bool} {ta tb:ByteArray} {b2:Bool} {b4:Bool} (h:NQ (oL y.1.pg x) ta tb true) (h2:b2=y.2) (h3:false=(ta.toList == tb.toList)) (h4:b4=decide (xE P x k=1/2)) (hs:(b2 && b4)=false) :
  ∃ p,oL y.1.pg x=some p∧ta=tx p.1∧tb=tx p.2∧Yy P x k y=[⟨y.1.u,yX P x k-p.2,yX P x k-p.1⟩]:=by
 unfold Yy
 cases hq:oL y.1.pg x with
 | none =>
  rw [hq] at h
  cases h
 | some p =>
  rw [hq] at h
  obtain ⟨_,rfl,rfl⟩:=h
  rw [CG] at h3
  refine ⟨p,rfl,rfl,rfl,?_⟩
  dsimp only
  rw [if_neg]
  rintro (e | ⟨e1,e2⟩)
  ·rw [decide_eq_true e] at h3
   cases h3
  ·rw [h2,h4,e1,decide_eq_true e2] at hs
   cases hs
theorem V6 {P:dB} (hO:dw P) {x:Rat} {k:Nat} (hk:k+1<P.lg.length) (hx:Fc 64 4 x) (h1:cZ P k<x) (h2:x<cZ P (k+1)) :
  (∀ w',Good w'→Calls Tryz.prog 72 #[.string (tx x),.string (tx (cZ P k))] w' (RV (.string (tx (x-cZ P k))) w')) ∧
  (∀ w',Good w'→Calls Tryz.prog 72 #[.string (tx (cZ P (k+1))),.string (tx (cZ P k))] w' (RV (.string (tx (cZ P (k+1)-cZ P k))) w')) ∧
  (∀ w',Good w'→Calls Tryz.prog 71 #[.string (tx (x-cZ P k)),.string (tx (cZ P (k+1)-cZ P k))] w' (RV (.tuple #[.string (tx (xE P x k)),.int .i64 0]) w')) ∧
  (∀ w',Good w'→Calls Tryz.prog 72 #[.string (tx (bF P (k+1))),.string (tx (bF P k))] w' (RV (.string (tx (bF P (k+1)-bF P k))) w')) ∧
  (∀ w',Good w'→Calls Tryz.prog 73 #[.string (tx (xE P x k)),.string (tx (bF P (k+1)-bF P k))] w' (RV (.string (tx (xE P x k*(bF P (k+1)-bF P k)))) w')) ∧
  (∀ w',Good w'→Calls Tryz.prog 55 #[.string (tx (bF P k)),.string (tx (xE P x k*(bF P (k+1)-bF P k)))] w' (RV (.string (tx (yX P x k))) w')):=by
 have sx:Sz 402 x:=hx.sm
 have sa:∀ j,j<P.lg.length→Sz 402 (cZ P j):=fun j hj=>((hO.xs j hj).ok (by decide)).sz
 have st:∀ j,j<P.lg.length→Sz 402 (bF P j):=fun j hj=>((hO.tp j hj).ok (by decide)).sz
 have fa:∀ j,j<P.lg.length→Fc 64 4 (cZ P j):=fun j hj=>jZ ((hO.xs j hj).q4.mono (by decide))
 have ft:∀ j,j<P.lg.length→Fc 64 4 (bF P j):=fun j hj=>jZ ((hO.tp j hj).q4.mono (by decide))
 have hd:cZ P (k+1)-cZ P k≠0:=by grind
 have f1:=hx.sub (fa k (by omega))
 have f2:=(fa (k+1) hk).sub (fa k (by omega))
 have f3:=f1.div f2
 have f4:=(ft (k+1) hk).sub (ft k (by omega))
 have z1:Sz 402 (x-cZ P k):=f1.sm
 have z2:Sz 402 (cZ P (k+1)-cZ P k):=f2.sm
 have z3:Sz 402 (xE P x k):=f3.sm
 have z4:Sz 402 (bF P (k+1)-bF P k):=f4.sm
 have z5:Sz 402 (xE P x k*(bF P (k+1)-bF P k)):=(f3.mul f4).sm
 have m:∀ {q:Rat} {n:Nat},Sz 402 q→402≤n→Sz n q:=fun h hn=>h.mono hn
 exact ⟨fun w' hg=>jY _ _ (m sx (by decide)) (m (sa k (by omega)) (by decide)) w' hg,fun w' hg=>jY _ _ (m (sa _ hk) (by decide)) (m (sa k (by omega)) (by decide)) w' hg,fun w' hg=>aaW _ _ hd (m z1 (by decide)) (m z2 (by decide)) w' hg,fun w' hg=>jY _ _ (m (st _ hk) (by decide)) (m (st k (by omega)) (by decide)) w' hg,fun w' hg=>uk _ _ (m z3 (by decide)) (m z4 (by decide)) w' hg,fun w' hg=>uj _ _ (m (st k (by omega)) (by decide)) (m z5 (by decide)) w' hg⟩
theorem V7 {w:World} (vg va vt:Value) (P:dB) (x:Rat) (hxf:Fc 64 4 x) (h0:¬ x<cZ P 0) (hq:¬ cZ P (P.lg.length-1)<x) (hO:dw P) (hP:ma w vg va vt P) (hw:Good w) :
  Calls Tryz.prog 24 #[j6 vg va vt P.cs,.string (tx x)] w fun e w'=>∃ v,e=.returned (.tuple #[v,.int .i64 0])∧gq w' v (atX P x)∧Below w.heap.size w w':=by
 have hx:om x:=hxf.sm (n:=1)
 refine (callsIn_wide (n:=10)).1 ?_
 have AO:=hid (fun W' (hb:Below w.heap.size w W')=>rC vg va vt P hO (hP.below hb) (hw.below hb))
 have U0:=hid (fun (k:Nat) (s:Stp) (hk:k+1<P.lg.length) W' (hb:Below w.heap.size w W')=>KA vg va vt P k s hk hO (hP.below hb))
 have HXE:=hid (fun i=>CG x (cZ P i))
 have HCI:=hid (fun i (hi:i<P.lg.length) w' (hg:Good w')=>qQ (cZ P i) x ((kI ((hO.xs i hi).ok (by decide))).mono (by decide)) (hx.sz.mono (by decide)) w' hg)
 have YS:=hid (fun w' (hg:Good w')=>gY x hx w' hg)
 have HC0:=hid (fun w' (hg:Good w')=>qQ x (cZ P 0) (hx.sz.mono (by decide)) ((kI ((hO.xs 0 (by have:=hO.n2;omega)).ok (by decide))).mono (by decide)) w' hg)
 have Eh:=hid (fun w' (hg:Good w')=>qQ x (cZ P (P.lg.length-1)) (hx.sz.mono (by decide)) ((kI ((hO.xs (P.lg.length-1) (by have:=hO.n2;omega)).ok (by decide))).mono (by decide)) w' hg)
 have RZ:=hid hw
 have Q8:=hid (show decide (dn x (cZ P 0)<0)=decide (x<cZ P 0) by rw [decide_eq_decide];exact jW)
 have HX2:=hid (show decide (0<dn x (cZ P (P.lg.length-1)))=decide (cZ P (P.lg.length-1)<x) by rw [decide_eq_decide];exact qE)
 unfold RV at YS HC0 Eh
 generalize dn x (cZ P 0)=c0 at *
 generalize dn x (cZ P (P.lg.length-1))=c1 at *
 generalize hxx:tx x=xx at *
 have HXQ:=hid hxx
 clear hxx
 have HO:=hid hO
 have KC:=hid hP
 obtain ⟨pg,cg,rfl,hcg,mf⟩:=hP.g.slice
 obtain ⟨ba,oa,ca,rfl,IK,oD,la,hac⟩:=jN hP.a (by rw [hO.nx];have:=hO.n2;omega)
 obtain ⟨bt,ot,ct,rfl,hct,oF,lt,htc⟩:=jN hP.t (by rw [hO.nt];have:=hO.n2;omega)
 have hnx:=hO.nx.symm
 have hny:=hO.nt.symm
 have hn2:=hO.n2
 have Aq:=hO.n20
 unfold maxLen at mf oD oF
 unfold j6 at *
 clear hO hP
 generalize tx P.cs.ch=t1 at *
 generalize tx P.cs.mi=t2 at *
 generalize tx P.cs.ga=t3 at *
 generalize tx P.cs.re=t4 at *
 generalize hna:P.xs.length=na at *
 generalize hnt:P.tp.length=nt at *
 generalize hn:P.lg.length=n at *
 subst hnx
 subst hny
 have HN:=hid (And.intro hn (And.intro hna hnt))
 obtain ⟨m,hm⟩ : ∃ m,m=n-1:=⟨_,rfl⟩
 rw [←hm] at AO Eh HX2 hq
 have yE:=hid hm
 have UD:m≤20:=by omega
 obtain ⟨wA,aX⟩ : ∃ wA,wA=(((w.alloc (Obj.cells #[.slice pg n cg,.slice (some ⟨ba,oa,none⟩) n ca,.slice (some ⟨bt,ot,none⟩) n ct,.string t1,.string t2,.string t3,.string t4] 37)).alloc (Obj.cells #[.string xx] 33)).alloc (Obj.cells #[.slice none 0 0] 66)).alloc (Obj.cells #[.int .i64 0] 40):=⟨_,rfl⟩
 obtain ⟨aS,x0,x1,x2,x3⟩:=aex aX
 have eH:=hid aS
 have HX:=hid (And.intro x0 (And.intro x1 (And.intro x2 x3)))
 have Zi:=hid aX
 obtain ⟨p0,p1,p2,p3,p4,p5,p6⟩:=au x0
 clear hn hna hnt hm aX aS x0 x1 x2 x3
 refine callsIn_of_wp_marks Tryz.func24 rfl trivial ?_ rfl
 simp only [Tryz.ntmps24,List.size_toArray,List.length_cons,List.length_nil,Nat.reduceAdd,Nat.reduceSub,Array.replicate_succ,Array.replicate_zero,List.push_toArray,List.append_toArray,List.nil_append,List.cons_append]
 gi_upto_region 1 with fail
 rw [←Zi.out]
 gi_wp2_with fail
 refine ⟨trivial,?_⟩
 refine (callsIn_wide.2 (AO.out wA eH.out)).mono ?_
 rintro e wd ⟨vl,rfl,hlk,hb1⟩
 have HLD:=hid hlk
 obtain ⟨pl,cl,rfl,hcl,gZ⟩:=hlk.slice
 unfold maxLen at gZ
 have iK:=hid (eH.out.trans (hb1.mono eH.out.size))
 have kg:=hid (And.intro ((hb1.block _ (aa HX.out.1)).trans HX.out.1) (And.intro ((hb1.block _ (aa HX.out.2.1)).trans HX.out.2.1) (And.intro ((hb1.block _ (aa HX.out.2.2.1)).trans HX.out.2.2.1) ((hb1.block _ (aa HX.out.2.2.2)).trans HX.out.2.2.2))))
 clear hlk hb1 p0 p1 p2 p3 p4 p5 p6 HX Zi AO eH
 obtain ⟨x1,_⟩:=one_cell kg.out.2.1
 gi_wp2_with fail
 refine ⟨trivial,?_⟩
 refine (callsIn_wide.2 (YS.out wd (RZ.out.below iK.out))).mono ?_
 rintro e w2 ⟨rfl,hb2⟩
 have kg:=hid (And.intro ((hb2.block _ (aa kg.out.1)).trans kg.out.1) (And.intro ((hb2.block _ (aa kg.out.2.1)).trans kg.out.2.1) (And.intro ((hb2.block _ (aa kg.out.2.2.1)).trans kg.out.2.2.1) ((hb2.block _ (aa kg.out.2.2.2)).trans kg.out.2.2.2))))
 have HLD:=hid (HLD.out.below hb2)
 have iK:=hid (iK.out.trans (hb2.mono iK.out.size))
 have aax:∀ i,i<n→w2.cell? ⟨ba,oa+i,none⟩=some (.string (tx (cZ P i))):=fun i hi=>(iK.out.cell (p:=⟨ba,oa+i,none⟩) la).trans (hac i hi)
 have HAC:=hid aax
 have lA:=Nat.lt_of_lt_of_le la iK.out.size
 clear hb2 x1
 obtain ⟨x1,_⟩:=one_cell kg.out.2.1
 obtain ⟨p0,p1,p2,p3,p4,p5,p6⟩:=au kg.out.1
 have lX:=aa kg.out.2.1
 have lP:=aa kg.out.1
 have SN:n=m+1:=by have:=yE.out;omega
 have a0:=aax 0 (by omega)
 have am:=aax m (by omega)
 rw [Nat.add_zero] at a0
 generalize tx (cZ P 0)=xa0 at *
 generalize tx (cZ P m)=xam at *
 have i0:0<n:=by omega
 have i4:m<n:=by omega
 have i1:(0:Int)<(n:Int):=by omega
 have i2:(0:Int)≤(m:Int):=by omega
 have i3:(m:Int)<(n:Int):=by omega
 have w9:IntKind.i64.wrap ((n:Int)-1)=(m:Int):=by rw [IntWalk.i64_in _ (by omega)];omega
 clear aax SN
 have e1:decide (c0<0)=false:=by rw [Q8.out];exact decide_eq_false h0
 have e2:decide (0<c1)=false:=by rw [HX2.out];exact decide_eq_false hq
 gi_wp2_with fail
 have mG:=hid (fun W' (hS':Below w2.heap.size w2 W')=>And.intro ((hS'.cell (p:=⟨w.heap.size+1,0,none⟩) lX).trans x1) (And.intro ((hS'.cell (p:=⟨w.heap.size,1,none⟩) lP).trans p1) (And.intro ((hS'.cell (p:=⟨ba,oa,none⟩) lA).trans a0) ((hS'.cell (p:=⟨ba,oa+m,none⟩) lA).trans am))))
 refine bN bW (fun W'=>Below w2.heap.size w2 W') (.take 0 (.take 1 (.take 2 (.take 3 (.take 4 (.one 5 (.take 6 (.take 7 (.take 8 (.take 9 (.take 10 (.take 11 (.take 12 (.take 13 (.take 14 (.one 15 (.take 16 .fin))))))))))))))))) 17 (by kernel_rfl) (by kernel_rfl) (by kernel_rfl) ⟨rfl,rfl,rfl,Nat.le_refl _,fun _ _=>rfl⟩ ?_
 have cO:Below w2.heap.size w2 w2.drew:=⟨rfl,rfl,rfl,Nat.le_refl _,fun _ _=>rfl⟩
 generalize w2.drew=dP at *
 iterate 5
  refine aD rfl ?_ rfl ?_ ?_
  rotate_left
  ·intro W' hS'
   obtain ⟨s0,s1,s2,s3⟩:=mG.out _ hS'
   go_simp
   try with_reducible rfl
  try simp only [zA,zB,zC,Act.put,zD,zE,zF]
 refine af rfl rfl (fun K hK=>?_)
 go_simp
 refine (HC0.out _ (RZ.out.below (iK.out.trans (cO.mono iK.out.size)))).mono ?_
 rintro e gy ⟨rfl,bR⟩
 have hP1:=cO.trans (bR.mono cO.size)
 refine hK _ _ ⟨hP1,?_⟩
 clear hK K
 try simp only [zA,zB,zC,Act.put,zD,zE,zF]
 iterate 9
  refine aD rfl ?_ rfl ?_ ?_
  rotate_left
  ·intro W' hS'
   obtain ⟨s0,s1,s2,s3⟩:=mG.out _ hS'
   go_simp
   try with_reducible rfl
  try simp only [zA,zB,zC,Act.put,zD,zE,zF]
 refine af rfl rfl (fun K hK=>?_)
 go_simp
 refine (Eh.out _ (RZ.out.below (iK.out.trans (hP1.mono iK.out.size)))).mono ?_
 rintro e sI ⟨rfl,dL⟩
 have hP2:=hP1.trans (dL.mono hP1.size)
 refine hK _ _ ⟨hP2,?_⟩
 clear hK K
 try simp only [zA,zB,zC,Act.put,zD,zE,zF]
 refine aD rfl ?_ rfl ?_ ?_
 rotate_left
 ·intro W' hS'
  obtain ⟨s0,s1,s2,s3⟩:=mG.out _ hS'
  go_simp
  try with_reducible rfl
 try simp only [zA,zB,zC,Act.put,zD,zE,zF]
 unfold bU
 simp only [List.drop_succ_cons,List.drop_zero]
 obtain ⟨wS,qL⟩ : ∃ q,q=sI:=⟨_,rfl⟩
 have hbS:=hP2
 rw [←qL] at hbS ⊢
 clear qL
 obtain ⟨p0,p1,p2,p3,p4,p5,p6⟩:=au ((hbS.block _ (aa kg.out.1)).trans kg.out.1)
 gi_wp2_with fail
 refine dz (fun g a W=>∃ (i:Nat) (Ej El IV Em IW u16 EX EY EZ u20 u21 u22 u23 u24 u25 u26 u27 u28 u29 u30 u31 u32 u33 u34 u35 u36 u37 u38 E5 u40 E8 u42 E9 u44 u45 u46 Fa u48 u49 Fb u51 Fe u53 Ff u55 Fg Fh u58 OE u63 u64 OG u66 Uq u68 u69 u70 u71 u72 u73 u74 u75 u76 u77 u78 u79 u80 u81 u82 u83 u84 u85 u86 u87 u88 u89 u90 u91 u92 u93 u94 u95 u96 u97 u98 u99 V8 V9 Wd We Wh u105 Wi Wj Wl Wm Wn Wo Wp Wq Ws Wt Wu Wv Ww u119 Wx Wy Wz WA u124 WB WC u127 aeO aeP aeQ u131 WE WG WH WI WJ WK u138 u139 WL WM WN WO WQ WR WS WT WU WV WW Xa u152 Xb u154 Xc Xd Xe Xf Xg Xh Xi u162 Xj u164 Xk Xl Xm Xn Xo Xp Xq Xr Xt Xu Xv Xw Xx Xy Xz XA XB XC XD XE XF XG XH XI:Value),a={ tmps:=#[.agg #[.slice pg n cg,.slice (some ⟨ba,oa,none⟩) n ca,.slice (some ⟨bt,ot,none⟩) n ct,.string t1,.string t2,.string t3,.string t4],.string xx,.pointer (some ⟨w.heap.size,0,none⟩),.pointer (some ⟨w.heap.size+1,0,none⟩),.pointer (some ⟨w.heap.size+1+1,0,none⟩),.pointer (some ⟨w.heap.size+1+1+1,0,none⟩),.slice pl m cl,.int .i64 0,.int .i64 0,.int .i64 (n:Int),.int .i64 (tN P x i:Int),Ej,El,IV,Em,IW,u16,EX,EY,EZ,u20,u21,u22,u23,u24,u25,u26,u27,u28,u29,u30,u31,u32,u33,u34,u35,u36,u37,u38,E5,u40,E8,u42,E9,u44,u45,u46,Fa,u48,u49,Fb,u51,Fe,u53,Ff,u55,Fg,Fh,u58,.slice (some ⟨ba,oa,none⟩) n ca,.int .i64 (n:Int),.int .i64 (i:Int),OE,u63,u64,OG,u66,Uq,u68,u69,u70,u71,u72,u73,u74,u75,u76,u77,u78,u79,u80,u81,u82,u83,u84,u85,u86,u87,u88,u89,u90,u91,u92,u93,u94,u95,u96,u97,u98,u99,V8,V9,Wd,We,Wh,u105,Wi,Wj,Wl,Wm,Wn,Wo,Wp,Wq,Ws,Wt,Wu,Wv,Ww,u119,Wx,Wy,Wz,WA,u124,WB,WC,u127,aeO,aeP,aeQ,u131,WE,WG,WH,WI,WJ,WK,u138,u139,WL,WM,WN,WO,WQ,WR,WS,WT,WU,WV,WW,Xa,u152,Xb,u154,Xc,Xd,Xe,Xf,Xg,Xh,Xi,u162,Xj,u164,Xk,Xl,Xm,Xn,Xo,Xp,Xq,Xr,Xt,Xu,Xv,Xw,Xx,Xy,Xz,XA,XB,XC,XD,XE,XF,XG,XH,XI],defers:=[] }∧Below wS.heap.size wS W∧i+g=n∧∀ j,j<i→x≠cZ P j) n ?_ ?_
 ·exact ⟨0,_,_,_,_,_,_,_,_,_,_,_,_,_,_,_,_,_,_,_,_,_,_,_,_,_,_,_,_,_,_,_,_,_,_,_,_,_,_,_,_,_,_,_,_,_,_,_,_,_,_,_,_,_,_,_,_,_,_,_,_,_,_,_,_,_,_,_,_,_,_,_,_,_,_,_,_,_,_,_,_,_,_,_,_,_,_,_,_,_,_,_,_,_,_,_,_,_,_,_,_,_,_,_,_,_,_,_,_,_,_,_,_,_,_,_,_,_,_,_,_,_,_,_,_,_,_,_,_,_,_,_,_,_,_,_,_,_,_,_,_,_,_,_,_,_,_,_,_,_,_,_,_,_,_,_,_,_,_,_,_,_,_,_,_,_,_,_,_,_,_,_,_,_,_,_,rfl,Below.refl _ _,Nat.zero_add _,fun j hj=>absurd hj (Nat.not_lt_zero _)⟩
 intro g cc QQ hcc QB a W hI
 obtain ⟨i,hI⟩:=hI
 obtain ⟨Ej,hI⟩:=hI
 obtain ⟨El,hI⟩:=hI
 obtain ⟨IV,hI⟩:=hI
 obtain ⟨Em,hI⟩:=hI
 obtain ⟨IW,hI⟩:=hI
 obtain ⟨u16,hI⟩:=hI
 obtain ⟨EX,hI⟩:=hI
 obtain ⟨EY,hI⟩:=hI
 obtain ⟨EZ,hI⟩:=hI
 obtain ⟨u20,hI⟩:=hI
 obtain ⟨u21,hI⟩:=hI
 obtain ⟨u22,hI⟩:=hI
 obtain ⟨u23,hI⟩:=hI
 obtain ⟨u24,hI⟩:=hI
 obtain ⟨u25,hI⟩:=hI
 obtain ⟨u26,hI⟩:=hI
 obtain ⟨u27,hI⟩:=hI
 obtain ⟨u28,hI⟩:=hI
 obtain ⟨u29,hI⟩:=hI
 obtain ⟨u30,hI⟩:=hI
 obtain ⟨u31,hI⟩:=hI
 obtain ⟨u32,hI⟩:=hI
 obtain ⟨u33,hI⟩:=hI
 obtain ⟨u34,hI⟩:=hI
 obtain ⟨u35,hI⟩:=hI
 obtain ⟨u36,hI⟩:=hI
 obtain ⟨u37,hI⟩:=hI
 obtain ⟨u38,hI⟩:=hI
 obtain ⟨E5,hI⟩:=hI
 obtain ⟨u40,hI⟩:=hI
 obtain ⟨E8,hI⟩:=hI
 obtain ⟨u42,hI⟩:=hI
 obtain ⟨E9,hI⟩:=hI
 obtain ⟨u44,hI⟩:=hI
 obtain ⟨u45,hI⟩:=hI
 obtain ⟨u46,hI⟩:=hI
 obtain ⟨Fa,hI⟩:=hI
 obtain ⟨u48,hI⟩:=hI
 obtain ⟨u49,hI⟩:=hI
 obtain ⟨Fb,hI⟩:=hI
 obtain ⟨u51,hI⟩:=hI
 obtain ⟨Fe,hI⟩:=hI
 obtain ⟨u53,hI⟩:=hI
 obtain ⟨Ff,hI⟩:=hI
 obtain ⟨u55,hI⟩:=hI
 obtain ⟨Fg,hI⟩:=hI
 obtain ⟨Fh,hI⟩:=hI
 obtain ⟨u58,hI⟩:=hI
 obtain ⟨OE,hI⟩:=hI
 obtain ⟨u63,hI⟩:=hI
 obtain ⟨u64,hI⟩:=hI
 obtain ⟨OG,hI⟩:=hI
 obtain ⟨u66,hI⟩:=hI
 obtain ⟨Uq,hI⟩:=hI
 obtain ⟨u68,hI⟩:=hI
 obtain ⟨u69,hI⟩:=hI
 obtain ⟨u70,hI⟩:=hI
 obtain ⟨u71,hI⟩:=hI
 obtain ⟨u72,hI⟩:=hI
 obtain ⟨u73,hI⟩:=hI
 obtain ⟨u74,hI⟩:=hI
 obtain ⟨u75,hI⟩:=hI
 obtain ⟨u76,hI⟩:=hI
 obtain ⟨u77,hI⟩:=hI
 obtain ⟨u78,hI⟩:=hI
 obtain ⟨u79,hI⟩:=hI
 obtain ⟨u80,hI⟩:=hI
 obtain ⟨u81,hI⟩:=hI
 obtain ⟨u82,hI⟩:=hI
 obtain ⟨u83,hI⟩:=hI
 obtain ⟨u84,hI⟩:=hI
 obtain ⟨u85,hI⟩:=hI
 obtain ⟨u86,hI⟩:=hI
 obtain ⟨u87,hI⟩:=hI
 obtain ⟨u88,hI⟩:=hI
 obtain ⟨u89,hI⟩:=hI
 obtain ⟨u90,hI⟩:=hI
 obtain ⟨u91,hI⟩:=hI
 obtain ⟨u92,hI⟩:=hI
 obtain ⟨u93,hI⟩:=hI
 obtain ⟨u94,hI⟩:=hI
 obtain ⟨u95,hI⟩:=hI
 obtain ⟨u96,hI⟩:=hI
 obtain ⟨u97,hI⟩:=hI
 obtain ⟨u98,hI⟩:=hI
 obtain ⟨u99,hI⟩:=hI
 obtain ⟨V8,hI⟩:=hI
 obtain ⟨V9,hI⟩:=hI
 obtain ⟨Wd,hI⟩:=hI
 obtain ⟨We,hI⟩:=hI
 obtain ⟨Wh,hI⟩:=hI
 obtain ⟨u105,hI⟩:=hI
 obtain ⟨Wi,hI⟩:=hI
 obtain ⟨Wj,hI⟩:=hI
 obtain ⟨Wl,hI⟩:=hI
 obtain ⟨Wm,hI⟩:=hI
 obtain ⟨Wn,hI⟩:=hI
 obtain ⟨Wo,hI⟩:=hI
 obtain ⟨Wp,hI⟩:=hI
 obtain ⟨Wq,hI⟩:=hI
 obtain ⟨Ws,hI⟩:=hI
 obtain ⟨Wt,hI⟩:=hI
 obtain ⟨Wu,hI⟩:=hI
 obtain ⟨Wv,hI⟩:=hI
 obtain ⟨Ww,hI⟩:=hI
 obtain ⟨u119,hI⟩:=hI
 obtain ⟨Wx,hI⟩:=hI
 obtain ⟨Wy,hI⟩:=hI
 obtain ⟨Wz,hI⟩:=hI
 obtain ⟨WA,hI⟩:=hI
 obtain ⟨u124,hI⟩:=hI
 obtain ⟨WB,hI⟩:=hI
 obtain ⟨WC,hI⟩:=hI
 obtain ⟨u127,hI⟩:=hI
 obtain ⟨aeO,hI⟩:=hI
 obtain ⟨aeP,hI⟩:=hI
 obtain ⟨aeQ,hI⟩:=hI
 obtain ⟨u131,hI⟩:=hI
 obtain ⟨WE,hI⟩:=hI
 obtain ⟨WG,hI⟩:=hI
 obtain ⟨WH,hI⟩:=hI
 obtain ⟨WI,hI⟩:=hI
 obtain ⟨WJ,hI⟩:=hI
 obtain ⟨WK,hI⟩:=hI
 obtain ⟨u138,hI⟩:=hI
 obtain ⟨u139,hI⟩:=hI
 obtain ⟨WL,hI⟩:=hI
 obtain ⟨WM,hI⟩:=hI
 obtain ⟨WN,hI⟩:=hI
 obtain ⟨WO,hI⟩:=hI
 obtain ⟨WQ,hI⟩:=hI
 obtain ⟨WR,hI⟩:=hI
 obtain ⟨WS,hI⟩:=hI
 obtain ⟨WT,hI⟩:=hI
 obtain ⟨WU,hI⟩:=hI
 obtain ⟨WV,hI⟩:=hI
 obtain ⟨WW,hI⟩:=hI
 obtain ⟨Xa,hI⟩:=hI
 obtain ⟨u152,hI⟩:=hI
 obtain ⟨Xb,hI⟩:=hI
 obtain ⟨u154,hI⟩:=hI
 obtain ⟨Xc,hI⟩:=hI
 obtain ⟨Xd,hI⟩:=hI
 obtain ⟨Xe,hI⟩:=hI
 obtain ⟨Xf,hI⟩:=hI
 obtain ⟨Xg,hI⟩:=hI
 obtain ⟨Xh,hI⟩:=hI
 obtain ⟨Xi,hI⟩:=hI
 obtain ⟨u162,hI⟩:=hI
 obtain ⟨Xj,hI⟩:=hI
 obtain ⟨u164,hI⟩:=hI
 obtain ⟨Xk,hI⟩:=hI
 obtain ⟨Xl,hI⟩:=hI
 obtain ⟨Xm,hI⟩:=hI
 obtain ⟨Xn,hI⟩:=hI
 obtain ⟨Xo,hI⟩:=hI
 obtain ⟨Xp,hI⟩:=hI
 obtain ⟨Xq,hI⟩:=hI
 obtain ⟨Xr,hI⟩:=hI
 obtain ⟨Xt,hI⟩:=hI
 obtain ⟨Xu,hI⟩:=hI
 obtain ⟨Xv,hI⟩:=hI
 obtain ⟨Xw,hI⟩:=hI
 obtain ⟨Xx,hI⟩:=hI
 obtain ⟨Xy,hI⟩:=hI
 obtain ⟨Xz,hI⟩:=hI
 obtain ⟨XA,hI⟩:=hI
 obtain ⟨XB,hI⟩:=hI
 obtain ⟨XC,hI⟩:=hI
 obtain ⟨XD,hI⟩:=hI
 obtain ⟨XE,hI⟩:=hI
 obtain ⟨XF,hI⟩:=hI
 obtain ⟨XG,hI⟩:=hI
 obtain ⟨XH,hI⟩:=hI
 obtain ⟨XI,hI⟩:=hI
 obtain ⟨ha,hbW,hig,hne⟩:=hI
 subst ha hcc QB
 have hxW:=(hbW.block _ (aa ((hbS.block _ (aa kg.out.1)).trans kg.out.1))).trans ((hbS.block _ (aa kg.out.1)).trans kg.out.1)
 have sF:=hid (hbS.trans (hbW.mono hbS.size))
 obtain ⟨p0,p1,p2,p3,p4,p5,p6⟩:=au hxW
 have hyW:=(sF.out.block _ (aa kg.out.2.1)).trans kg.out.2.1
 obtain ⟨x1,_⟩:=one_cell hyW
 have sV:=hid hne
 clear hne hxW hyW
 by_cases hi:i<n
 ·have kn:decide ((i:Int)<(n:Int))=true:=decide_eq_true (by omega)
  have IX:decide (i<n)=true:=decide_eq_true hi
  have j1:(0:Int)≤(i:Int):=by omega
  have j2:(i:Int)<(n:Int):=by omega
  have w5:IntKind.i64.wrap ((i:Int)+1)=(i:Int)+1:=IntWalk.i64_in _ (by omega)
  have ci:=(sF.out.cell (p:=⟨ba,oa+i,none⟩) lA).trans (HAC.out i hi)
  by_cases hxe:x=cZ P i
  ·as_aux_lemma =>
    have e3:(xx.toList == (tx (cZ P i)).toList)=true:=by rw [HXE.out i];exact decide_eq_true hxe
    generalize hyy:tx (cZ P i)=yy at *
    clear hyy
    have HAX:=hid (aak (P:=P) (x:=x) (i:=i) (by rw [HN.out.1];exact hi) hxe sV.out)
    obtain ⟨bg,og,ug,rfl,hbl,cg0,DI⟩:=(KC.out.g.below (iK.out.trans (sF.out.mono iK.out.size))).at (show i<P.lg.length by rw [HN.out.1];exact hi)
    obtain ⟨pv,cv,rfl,hcv,MS⟩:=DI.slice
    unfold maxLen at MS
    have EN:=hid (Rk (show (P.lg.getD i []).length≤1000000 by have:(P.lg.getD i []).length≤8:=(HO.out.log i (by rw [HN.out.1];exact hi)).2;omega) DI)
    generalize (P.lg.getD i []).length=nl at *
    clear DI
    gi_wp2_with fail
    refine ⟨trivial,?_⟩
    refine (callsIn_wide.2 EN.out).mono ?_
    rintro e w3 ⟨v',rfl,hv',hb3⟩
    have ac0:=hid (sF.out.trans (hb3.mono sF.out.size))
    obtain ⟨b,off,c,rfl⟩ : ∃ b off c,v'=.slice b off c:=by obtain ⟨p,c,h,_⟩:=hv';exact ⟨_,_,_,h⟩
    have HV:=hid hv'
    clear hb3 hv' x1 p0 p1 p2 p3 p4 p5 p6 cg0
    have hx2:=(ac0.out.block _ (aa kg.out.2.2.1)).trans kg.out.2.2.1
    have hx3:=(ac0.out.block _ (aa kg.out.2.2.2)).trans kg.out.2.2.2
    obtain ⟨r2,f2⟩:=one_cell hx2
    obtain ⟨r3,f3⟩:=one_cell hx3
    have HE:=hid (at_end (v:=.slice b off c) (e:=0) hx2 hx3)
    have HIV:=hid (gq.two (v1:=.slice b off c) (v2:=.int .i64 0) HV.out hx2 hx3 (fun s h=>by cases h) (fun s h=>by cases h))
    have Ur:=hid (((iK.out.trans (ac0.out.mono iK.out.size)).setCell (p:=⟨w.heap.size+1+1,0,none⟩) (Nat.le_succ_of_le (Nat.le_succ _)) (.slice b off c)).setCell (p:=⟨w.heap.size+1+1+1,0,none⟩) (Nat.le_succ_of_le (Nat.le_succ_of_le (Nat.le_succ _))) (.int .i64 0))
    clear hx2 hx3
    gi_wp2
    have hE:=HE.out
    have hlo:=Ur.out
    have hIV:=HIV.out
    generalize (w3.setCell ⟨w.heap.size+1+1,0,none⟩ (.slice b off c)).setCell ⟨w.heap.size+1+1+1,0,none⟩ (.int .i64 0)=WZ at *
    refine ib (b:=w2.heap.size) [] WZ (Marks.nil _ _) (fun W' hs=>?_)
    obtain ⟨q1,_⟩:=one_cell (hs.2 _ _ hE.1 rfl)
    obtain ⟨q2,_⟩:=one_cell (hs.2 _ _ hE.2 rfl)
    refine ⟨.tuple #[.slice b off c,.int .i64 0],by simp [results,Tryz.results24,go_sem,q1,q2],_,rfl,?_,hlo.trans (hs.1.mono iK.out.size)⟩
    rw [HAX.out]
    exact hIV.kept fun b cs t fz hb _=>hs.2 _ _ hb rfl
  ·as_aux_lemma =>
    have e3:(xx.toList == (tx (cZ P i)).toList)=false:=by rw [HXE.out i];exact decide_eq_false hxe
    have HC:=hid (HCI.out i hi)
    have HLT:=hid (show decide (dn (cZ P i) x<0)=decide (cZ P i<x) by rw [decide_eq_decide];exact jW)
    have HBF:=hid (FZ P x i)
    unfold RV at HC
    generalize dn (cZ P i) x=c at *
    generalize tx (cZ P i)=yy at *
    have HN2:=hid (show ∀ j,j<i+1→x≠cZ P j from fun j hj=>by
     rcases Nat.lt_or_ge j i with h | h
     ·exact sV.out j h
     ·obtain rfl:j=i:=by omega
      exact hxe)
    by_cases hlt:cZ P i<x
    ·have e4:decide (c<0)=true:=by rw [HLT.out];exact decide_eq_true hlt
     gi_wp2_with fail
     refine ⟨trivial,?_⟩
     refine (callsIn_wide.2 (HC.out W (RZ.out.below (iK.out.trans (sF.out.mono iK.out.size))))).mono ?_
     rintro e w3 ⟨rfl,hb3⟩
     gi_wp2
     exact ⟨g-1,by omega,i+1,_,_,_,_,_,_,_,_,_,_,_,_,_,_,_,_,_,_,_,_,_,_,_,_,_,_,_,_,_,_,_,_,_,_,_,_,_,_,_,_,_,_,_,_,_,_,_,_,_,_,_,_,_,_,_,_,_,_,_,_,_,_,_,_,_,_,_,_,_,_,_,_,_,_,_,_,_,_,_,_,_,_,_,_,_,_,_,_,_,_,_,_,_,_,_,_,_,_,_,_,_,_,_,_,_,_,_,_,_,_,_,_,_,_,_,_,_,_,_,_,_,_,_,_,_,_,_,_,_,_,_,_,_,_,_,_,_,_,_,_,_,_,_,_,_,_,_,_,_,_,_,_,_,_,_,_,_,_,_,_,_,_,_,_,_,_,_,_,_,_,_,_,_,_,_,by rw [HBF.out,if_pos hlt];rfl,hbW.trans (hb3.mono hbW.size),by omega,HN2.out⟩
    ·have e4:decide (c<0)=false:=by rw [HLT.out];exact decide_eq_false hlt
     gi_wp2_with fail
     refine ⟨trivial,?_⟩
     refine (callsIn_wide.2 (HC.out W (RZ.out.below (iK.out.trans (sF.out.mono iK.out.size))))).mono ?_
     rintro e w3 ⟨rfl,hb3⟩
     gi_wp2
     exact ⟨g-1,by omega,i+1,_,_,_,_,_,_,_,_,_,_,_,_,_,_,_,_,_,_,_,_,_,_,_,_,_,_,_,_,_,_,_,_,_,_,_,_,_,_,_,_,_,_,_,_,_,_,_,_,_,_,_,_,_,_,_,_,_,_,_,_,_,_,_,_,_,_,_,_,_,_,_,_,_,_,_,_,_,_,_,_,_,_,_,_,_,_,_,_,_,_,_,_,_,_,_,_,_,_,_,_,_,_,_,_,_,_,_,_,_,_,_,_,_,_,_,_,_,_,_,_,_,_,_,_,_,_,_,_,_,_,_,_,_,_,_,_,_,_,_,_,_,_,_,_,_,_,_,_,_,_,_,_,_,_,_,_,_,_,_,_,_,_,_,_,_,_,_,_,_,_,_,_,_,_,_,by rw [HBF.out,if_neg hlt];rfl,hbW.trans (hb3.mono hbW.size),by omega,HN2.out⟩
 ·obtain rfl:n=i:=by omega
  obtain ⟨hk1,hk2,hk3⟩:=aai HO.out h0 (by rw [HN.out.1,←yE.out];exact hq) (by rw [HN.out.1];exact sV.out)
  have HAX:=hid (acQ (P:=P) (x:=x) (by rw [HN.out.1];exact sV.out))
  rw [HN.out.1] at hk1 hk2 hk3 HAX
  generalize tN P x n=k at *
  obtain ⟨k1,hkk⟩ : ∃ k1,k1=k+1:=⟨_,rfl⟩
  have h9:IntKind.i64.wrap ((k:Int)+1)=(k1:Int):=by rw [IntWalk.i64_in _ (by omega)];omega
  have g1:(0:Int)≤(k:Int):=by omega
  have g2:(k:Int)<(n:Int):=by omega
  have g3:(0:Int)≤(k1:Int):=by omega
  have g4:(k1:Int)<(n:Int):=by omega
  rw [←hkk] at hk1 hk3
  have HKK:=hid hkk
  have HSC:=hid (V6 HO.out (by rw [HN.out.1,←hkk];exact hk1) hxf hk2 (by rw [←hkk];exact hk3))
  rw [←hkk,HXQ.out] at HSC
  obtain ⟨hs1,hs2,hdv,hs3,Ob,had⟩:=HSC.out
  have HS1:=hid hs1
  have HS2:=hid hs2
  have Yx:=hid hdv
  have HS3:=hid hs3
  have HML:=hid Ob
  have HAD:=hid had
  unfold RV at HS1 HS2 Yx HS3 HML HAD
  clear hs1 hs2 hdv hs3 Ob had HSC hkk
  have VU:=hid (RZ.out.below (iK.out.trans (sF.out.mono iK.out.size)))
  have ak:=(sF.out.cell (p:=⟨ba,oa+k,none⟩) lA).trans (HAC.out k (by omega))
  have ak1:=(sF.out.cell (p:=⟨ba,oa+k1,none⟩) lA).trans (HAC.out k1 hk1)
  have lX:=aa ((sF.out.block _ (aa kg.out.2.1)).trans kg.out.2.1)
  have lP:=aa ((sF.out.block _ (aa kg.out.1)).trans kg.out.1)
  have lAW:=Nat.lt_of_lt_of_le lA sF.out.size
  have HSH:=hid (CG (xE P x k) (1/2))
  rw [YT] at HSH
  generalize hts:tx (xE P x k)=ts at *
  generalize MW:tx (yX P x k)=tt at *
  generalize tx (cZ P k)=ta0 at *
  generalize tx (cZ P k1)=Yu at *
  generalize tx (x-cZ P k)=td0 at *
  generalize tx (cZ P k1-cZ P k)=td1 at *
  have HTS:=hid hts
  have QA:=hid MW
  clear hts MW
  gi_upto_region 19 with fail
  try dsimp only
  gi_cut [13] from 81 (fun s13 wx=>uD W s13 (.string ts) wx)
  case first =>
   as_aux_lemma =>
    have mG:=hid (fun W' (hS':Below W.heap.size W W')=>And.intro ((hS'.cell (p:=⟨w.heap.size+1,0,none⟩) lX).trans x1) (And.intro ((hS'.cell (p:=⟨w.heap.size,1,none⟩) lP).trans p1) (And.intro ((hS'.cell (p:=⟨ba,oa+k,none⟩) lAW).trans ak) ((hS'.cell (p:=⟨ba,oa+k1,none⟩) lAW).trans ak1))))
    refine bN bW (fun W'=>Below W.heap.size W W') (.take 0 (.take 1 (.take 2 (.take 3 (.take 4 (.take 5 (.take 7 (.take 8 (.take 9 (.take 10 (.take 11 (.take 12 (.take 13 (.take 14 (.take 15 (.take 16 (.take 17 (.two 6 (.two 18 (.two 19 (.take 20 (.take 21 (.take 22 (.one 23 (.one 24 .fin))))) 23 (.one 19 (.take 20 (.take 21 (.take 22 (.one 24 .fin)))))) 23 (.one 18 (.one 19 (.take 20 (.take 21 (.take 22 (.one 24 .fin))))))) 23 (.one 6 (.one 18 (.one 19 (.take 20 (.take 21 (.take 22 (.one 24 .fin))))))))))))))))))))))))) 25 (by kernel_rfl) (by kernel_rfl) (by kernel_rfl) ⟨rfl,rfl,rfl,Nat.le_refl _,fun _ _=>rfl⟩ ?_
    have cO:Below W.heap.size W W.drew:=⟨rfl,rfl,rfl,Nat.le_refl _,fun _ _=>rfl⟩
    generalize W.drew=dP at *
    iterate 17
     refine aD rfl ?_ rfl ?_ ?_
     rotate_left
     ·intro W' hS'
      obtain ⟨s0,s1,s2,s3⟩:=mG.out _ hS'
      go_simp
      try with_reducible rfl
     try simp only [zA,zB,zC,Act.put,zD,zE,zF]
    refine dC ?_ ?_
    ·refine af rfl rfl (fun K hK=>?_)
     go_simp
     refine (HS1.out _ (VU.out.below (cO))).mono ?_
     rintro e gy ⟨rfl,bR⟩
     have hP1:=cO.trans (bR.mono cO.size)
     refine hK _ _ ⟨hP1,?_⟩
     clear hK K
     try simp only [zA,zB,zC,Act.put,zD,zE,zF]
     refine dC ?_ ?_
     ·refine af rfl rfl (fun K hK=>?_)
      go_simp
      refine (HS2.out _ (VU.out.below (hP1))).mono ?_
      rintro e sI ⟨rfl,dL⟩
      have hP2:=hP1.trans (dL.mono hP1.size)
      refine hK _ _ ⟨hP2,?_⟩
      clear hK K
      try simp only [zA,zB,zC,Act.put,zD,zE,zF]
      refine dC ?_ ?_
      ·refine af rfl rfl (fun K hK=>?_)
       go_simp
       refine (Yx.out _ (VU.out.below (hP2))).mono ?_
       rintro e Yt ⟨rfl,rG⟩
       have hP3:=hP2.trans (rG.mono hP2.size)
       refine hK _ _ ⟨hP3,?_⟩
       clear hK K
       try simp only [zA,zB,zC,Act.put,zD,zE,zF]
       iterate 3
        refine aD rfl ?_ rfl ?_ ?_
        rotate_left
        ·intro W' hS'
         obtain ⟨s0,s1,s2,s3⟩:=mG.out _ hS'
         go_simp
         try with_reducible rfl
        try simp only [zA,zB,zC,Act.put,zD,zE,zF]
       refine af rfl rfl (fun K hK=>?_)
       go_simp
       obtain ⟨iV,gz⟩ : ∃ q,q=Yt.alloc (Obj.cells #[.string ⟨#[]⟩] 33):=⟨_,rfl⟩
       have XJ:iV.heap[Yt.heap.size]?=some (.cells #[.string ⟨#[]⟩] 33 (0,0)):=by rw [gz];exact World.alloc_heap_new _ _
       have jq:Below Yt.heap.size Yt iV:=by rw [gz];exact ae _ _
       have lY:=hP3.trans (jq.mono hP3.size)
       rw [←gz]
       clear gz
       refine hK _ _ ⟨lY,?_⟩
       clear hK K
       try simp only [zA,zB,zC,Act.put,zD,zE,zF]
       obtain ⟨_,_⟩:=one_cell XJ
       refine af rfl rfl (fun K hK=>?_)
       go_simp
       refine hK _ _ ⟨lY.setCell (p:=⟨_,0,none⟩) hP3.size _,?_⟩
       clear hK K
       try simp only [zA,zB,zC,Act.put,zD,zE,zF]
       unfold bU
       simp only [List.drop_succ_cons,List.drop_zero]
       have kA:=one_set (.string ts) XJ
       have kB:=lY.setCell (p:=⟨_,0,none⟩) hP3.size (.string ts)
       obtain ⟨_,_⟩:=one_cell XJ
       have eH:=hid (show uD W (.pointer (some ⟨Yt.heap.size,0,none⟩)) (.string ts) _ from ⟨_,rfl,kA,kB,hP3.size⟩)
       clear kA kB
       gi_wp2_with fail
       gi_meet
       exact eH.out
      ·refine af rfl rfl (fun K hK=>?_)
       go_simp
       obtain ⟨pv6,Pv⟩ : ∃ q,q=sI.alloc (Obj.cells #[.string ⟨#[]⟩] 33):=⟨_,rfl⟩
       have aba:pv6.heap[sI.heap.size]?=some (.cells #[.string ⟨#[]⟩] 33 (0,0)):=by rw [Pv];exact World.alloc_heap_new _ _
       have aeR:Below sI.heap.size sI pv6:=by rw [Pv];exact ae _ _
       have hP6:=hP2.trans (aeR.mono hP2.size)
       rw [←Pv]
       clear Pv
       refine hK _ _ ⟨hP6,?_⟩
       clear hK K
       try simp only [zA,zB,zC,Act.put,zD,zE,zF]
       refine af rfl rfl (fun K hK=>?_)
       go_simp
       refine (Yx.out _ (VU.out.below (hP6))).mono ?_
       rintro e pv7 ⟨rfl,abb⟩
       have hP7:=hP6.trans (abb.mono hP6.size)
       have Iu:=(abb.block _ (lt_of_some aba)).trans aba
       refine hK _ _ ⟨hP7,?_⟩
       clear hK K
       try simp only [zA,zB,zC,Act.put,zD,zE,zF]
       iterate 3
        refine aD rfl ?_ rfl ?_ ?_
        rotate_left
        ·intro W' hS'
         obtain ⟨s0,s1,s2,s3⟩:=mG.out _ hS'
         go_simp
         try with_reducible rfl
        try simp only [zA,zB,zC,Act.put,zD,zE,zF]
       obtain ⟨_,_⟩:=one_cell Iu
       refine af rfl rfl (fun K hK=>?_)
       go_simp
       refine hK _ _ ⟨hP7.setCell (p:=⟨_,0,none⟩) hP2.size _,?_⟩
       clear hK K
       try simp only [zA,zB,zC,Act.put,zD,zE,zF]
       unfold bU
       simp only [List.drop_succ_cons,List.drop_zero]
       have kA:=one_set (.string ts) Iu
       have kB:=hP7.setCell (p:=⟨_,0,none⟩) hP2.size (.string ts)
       obtain ⟨_,_⟩:=one_cell Iu
       have eH:=hid (show uD W (.pointer (some ⟨sI.heap.size,0,none⟩)) (.string ts) _ from ⟨_,rfl,kA,kB,hP2.size⟩)
       clear kA kB
       gi_wp2_with fail
       gi_meet
       exact eH.out
     ·refine af rfl rfl (fun K hK=>?_)
      go_simp
      obtain ⟨pv9,Pw⟩ : ∃ q,q=gy.alloc (Obj.cells #[.string ⟨#[]⟩] 33):=⟨_,rfl⟩
      have abd:pv9.heap[gy.heap.size]?=some (.cells #[.string ⟨#[]⟩] 33 (0,0)):=by rw [Pw];exact World.alloc_heap_new _ _
      have aeS:Below gy.heap.size gy pv9:=by rw [Pw];exact ae _ _
      have hP9:=hP1.trans (aeS.mono hP1.size)
      rw [←Pw]
      clear Pw
      refine hK _ _ ⟨hP9,?_⟩
      clear hK K
      try simp only [zA,zB,zC,Act.put,zD,zE,zF]
      refine af rfl rfl (fun K hK=>?_)
      go_simp
      refine (HS2.out _ (VU.out.below (hP9))).mono ?_
      rintro e ahi ⟨rfl,XK⟩
      have aay:=hP9.trans (XK.mono hP9.size)
      have K8:=(XK.block _ (lt_of_some abd)).trans abd
      refine hK _ _ ⟨aay,?_⟩
      clear hK K
      try simp only [zA,zB,zC,Act.put,zD,zE,zF]
      refine af rfl rfl (fun K hK=>?_)
      go_simp
      refine (Yx.out _ (VU.out.below (aay))).mono ?_
      rintro e ahj ⟨rfl,XL⟩
      have ac1:=aay.trans (XL.mono aay.size)
      have DC:=(XL.block _ (lt_of_some K8)).trans K8
      refine hK _ _ ⟨ac1,?_⟩
      clear hK K
      try simp only [zA,zB,zC,Act.put,zD,zE,zF]
      iterate 3
       refine aD rfl ?_ rfl ?_ ?_
       rotate_left
       ·intro W' hS'
        obtain ⟨s0,s1,s2,s3⟩:=mG.out _ hS'
        go_simp
        try with_reducible rfl
       try simp only [zA,zB,zC,Act.put,zD,zE,zF]
      obtain ⟨_,_⟩:=one_cell DC
      refine af rfl rfl (fun K hK=>?_)
      go_simp
      refine hK _ _ ⟨ac1.setCell (p:=⟨_,0,none⟩) hP1.size _,?_⟩
      clear hK K
      try simp only [zA,zB,zC,Act.put,zD,zE,zF]
      unfold bU
      simp only [List.drop_succ_cons,List.drop_zero]
      have kA:=one_set (.string ts) DC
      have kB:=ac1.setCell (p:=⟨_,0,none⟩) hP1.size (.string ts)
      obtain ⟨_,_⟩:=one_cell DC
      have eH:=hid (show uD W (.pointer (some ⟨gy.heap.size,0,none⟩)) (.string ts) _ from ⟨_,rfl,kA,kB,hP1.size⟩)
      clear kA kB
      gi_wp2_with fail
      gi_meet
      exact eH.out
    ·refine af rfl rfl (fun K hK=>?_)
     go_simp
     obtain ⟨aeT,Iw⟩ : ∃ q,q=dP.alloc (Obj.cells #[.string ⟨#[]⟩] 33):=⟨_,rfl⟩
     have XM:aeT.heap[dP.heap.size]?=some (.cells #[.string ⟨#[]⟩] 33 (0,0)):=by rw [Iw];exact World.alloc_heap_new _ _
     have ac2:Below dP.heap.size dP aeT:=by rw [Iw];exact ae _ _
     have aaz:=cO.trans (ac2.mono cO.size)
     rw [←Iw]
     clear Iw
     refine hK _ _ ⟨aaz,?_⟩
     clear hK K
     try simp only [zA,zB,zC,Act.put,zD,zE,zF]
     refine af rfl rfl (fun K hK=>?_)
     go_simp
     refine (HS1.out _ (VU.out.below (aaz))).mono ?_
     rintro e ahk ⟨rfl,XN⟩
     have aaA:=aaz.trans (XN.mono aaz.size)
     have F7:=(XN.block _ (lt_of_some XM)).trans XM
     refine hK _ _ ⟨aaA,?_⟩
     clear hK K
     try simp only [zA,zB,zC,Act.put,zD,zE,zF]
     refine af rfl rfl (fun K hK=>?_)
     go_simp
     refine (HS2.out _ (VU.out.below (aaA))).mono ?_
     rintro e ahl ⟨rfl,XO⟩
     have aaB:=aaA.trans (XO.mono aaA.size)
     have F8:=(XO.block _ (lt_of_some F7)).trans F7
     refine hK _ _ ⟨aaB,?_⟩
     clear hK K
     try simp only [zA,zB,zC,Act.put,zD,zE,zF]
     refine af rfl rfl (fun K hK=>?_)
     go_simp
     refine (Yx.out _ (VU.out.below (aaB))).mono ?_
     rintro e ahm ⟨rfl,XP⟩
     have ac3:=aaB.trans (XP.mono aaB.size)
     have zb:=(XP.block _ (lt_of_some F8)).trans F8
     refine hK _ _ ⟨ac3,?_⟩
     clear hK K
     try simp only [zA,zB,zC,Act.put,zD,zE,zF]
     iterate 3
      refine aD rfl ?_ rfl ?_ ?_
      rotate_left
      ·intro W' hS'
       obtain ⟨s0,s1,s2,s3⟩:=mG.out _ hS'
       go_simp
       try with_reducible rfl
      try simp only [zA,zB,zC,Act.put,zD,zE,zF]
     obtain ⟨_,_⟩:=one_cell zb
     refine af rfl rfl (fun K hK=>?_)
     go_simp
     refine hK _ _ ⟨ac3.setCell (p:=⟨_,0,none⟩) cO.size _,?_⟩
     clear hK K
     try simp only [zA,zB,zC,Act.put,zD,zE,zF]
     unfold bU
     simp only [List.drop_succ_cons,List.drop_zero]
     have kA:=one_set (.string ts) zb
     have kB:=ac3.setCell (p:=⟨_,0,none⟩) cO.size (.string ts)
     obtain ⟨_,_⟩:=one_cell zb
     have eH:=hid (show uD W (.pointer (some ⟨dP.heap.size,0,none⟩)) (.string ts) _ from ⟨_,rfl,kA,kB,cO.size⟩)
     clear kA kB
     gi_wp2_with fail
     gi_meet
     exact eH.out
  case rest =>
  obtain ⟨Bs,rfl,hbs,yz,hgs⟩:=hcut
  obtain ⟨wJ,hwj⟩ : ∃ q,q=wc:=⟨_,rfl⟩
  subst hwj
  have HWJ:=hid (sF.out.trans (yz.mono sF.out.size))
  have tF:=hid hbs
  have HGJ:=hid (RZ.out.below (iK.out.trans (HWJ.out.mono iK.out.size)))
  have hpJ:=(HWJ.out.block _ (aa kg.out.1)).trans kg.out.1
  have ac4:=hid (iK.out.trans (HWJ.out.mono iK.out.size))
  have tk:wJ.cell? ⟨bt,ot+k,none⟩=some (.string (tx (bF P k))):=(ac4.out.cell (p:=⟨bt,ot+k,none⟩) lt).trans (htc k (by omega))
  have tk1:wJ.cell? ⟨bt,ot+k1,none⟩=some (.string (tx (bF P k1))):=(ac4.out.cell (p:=⟨bt,ot+k1,none⟩) lt).trans (htc k1 hk1)
  clear p0 p1 p2 p3 p4 p5 p6 x1 ak ak1 lX lP lAW
  obtain ⟨p0,p1,p2,p3,p4,p5,p6⟩:=au hpJ
  have lP:=aa hpJ
  have lS:=aa hbs
  have lT:=Nat.lt_of_lt_of_le lt ac4.out.size
  obtain ⟨b0,_⟩:=one_cell hbs
  generalize tx (bF P k)=tp0 at *
  generalize tx (bF P k1)=tp1 at *
  generalize tx (bF P k1-bF P k)=tpd at *
  generalize tx (xE P x k*(bF P k1-bF P k))=tpm at *
  clear hpJ hbs yz hgs
  gi_upto_region 20 with fail
  try dsimp only
  gi_cut [15] from 104 (fun s15 wx=>uD wJ s15 (.string tt) wx)
  case first =>
   as_aux_lemma =>
    have mG:=hid (fun W' (hS':Below wJ.heap.size wJ W')=>And.intro ((hS'.cell (p:=⟨w.heap.size,2,none⟩) lP).trans p2) (And.intro ((hS'.cell (p:=⟨Bs,0,none⟩) lS).trans b0) (And.intro ((hS'.cell (p:=⟨bt,ot+k,none⟩) lT).trans tk) ((hS'.cell (p:=⟨bt,ot+k1,none⟩) lT).trans tk1))))
    refine bN bW (fun W'=>Below wJ.heap.size wJ W') (.take 0 (.take 1 (.take 2 (.take 3 (.take 4 (.take 5 (.take 6 (.take 7 (.take 8 (.take 9 (.take 10 (.take 11 (.take 12 (.take 13 (.take 14 (.take 15 (.take 16 (.two 17 (.two 18 (.two 19 (.one 20 .fin) 20 (.one 19 .fin)) 20 (.one 18 (.one 19 .fin))) 20 (.one 17 (.one 18 (.one 19 .fin))))))))))))))))))))) 21 (by kernel_rfl) (by kernel_rfl) (by kernel_rfl) ⟨rfl,rfl,rfl,Nat.le_refl _,fun _ _=>rfl⟩ ?_
    have MO:Below wJ.heap.size wJ wJ.drew:=⟨rfl,rfl,rfl,Nat.le_refl _,fun _ _=>rfl⟩
    generalize wJ.drew=qv0 at *
    iterate 17
     refine aD rfl ?_ rfl ?_ ?_
     rotate_left
     ·intro W' hS'
      obtain ⟨s0,s1,s2,s3⟩:=mG.out _ hS'
      go_simp
      try with_reducible rfl
     try simp only [zA,zB,zC,Act.put,zD,zE,zF]
    refine dC ?_ ?_
    ·refine af rfl rfl (fun K hK=>?_)
     go_simp
     refine (HS3.out _ (HGJ.out.below (MO))).mono ?_
     rintro e qv1 ⟨rfl,JU⟩
     have IM:=MO.trans (JU.mono MO.size)
     refine hK _ _ ⟨IM,?_⟩
     clear hK K
     try simp only [zA,zB,zC,Act.put,zD,zE,zF]
     refine dC ?_ ?_
     ·refine af rfl rfl (fun K hK=>?_)
      go_simp
      refine (HML.out _ (HGJ.out.below (IM))).mono ?_
      rintro e qv2 ⟨rfl,JV⟩
      have IP:=IM.trans (JV.mono IM.size)
      refine hK _ _ ⟨IP,?_⟩
      clear hK K
      try simp only [zA,zB,zC,Act.put,zD,zE,zF]
      refine dC ?_ ?_
      ·refine af rfl rfl (fun K hK=>?_)
       go_simp
       refine (HAD.out _ (HGJ.out.below (IP))).mono ?_
       rintro e qv3 ⟨rfl,JW⟩
       have OB:=IP.trans (JW.mono IP.size)
       refine hK _ _ ⟨OB,?_⟩
       clear hK K
       try simp only [zA,zB,zC,Act.put,zD,zE,zF]
       refine af rfl rfl (fun K hK=>?_)
       go_simp
       obtain ⟨Y5,Px⟩ : ∃ q,q=qv3.alloc (Obj.cells #[.string ⟨#[]⟩] 33):=⟨_,rfl⟩
       have abe:Y5.heap[qv3.heap.size]?=some (.cells #[.string ⟨#[]⟩] 33 (0,0)):=by rw [Px];exact World.alloc_heap_new _ _
       have JX:Below qv3.heap.size qv3 Y5:=by rw [Px];exact ae _ _
       have RG:=OB.trans (JX.mono OB.size)
       rw [←Px]
       clear Px
       refine hK _ _ ⟨RG,?_⟩
       clear hK K
       try simp only [zA,zB,zC,Act.put,zD,zE,zF]
       unfold bU
       simp only [List.drop_succ_cons,List.drop_zero]
       have kA:=one_set (.string tt) abe
       have kB:=RG.setCell (p:=⟨_,0,none⟩) OB.size (.string tt)
       obtain ⟨_,_⟩:=one_cell abe
       have eH:=hid (show uD wJ (.pointer (some ⟨qv3.heap.size,0,none⟩)) (.string tt) _ from ⟨_,rfl,kA,kB,OB.size⟩)
       clear kA kB
       gi_wp2_with fail
       gi_meet
       exact eH.out
      ·refine af rfl rfl (fun K hK=>?_)
       go_simp
       obtain ⟨Y6,xy⟩ : ∃ q,q=qv2.alloc (Obj.cells #[.string ⟨#[]⟩] 33):=⟨_,rfl⟩
       have abf:Y6.heap[qv2.heap.size]?=some (.cells #[.string ⟨#[]⟩] 33 (0,0)):=by rw [xy];exact World.alloc_heap_new _ _
       have JY:Below qv2.heap.size qv2 Y6:=by rw [xy];exact ae _ _
       have Ao:=IP.trans (JY.mono IP.size)
       rw [←xy]
       clear xy
       refine hK _ _ ⟨Ao,?_⟩
       clear hK K
       try simp only [zA,zB,zC,Act.put,zD,zE,zF]
       refine af rfl rfl (fun K hK=>?_)
       go_simp
       refine (HAD.out _ (HGJ.out.below (Ao))).mono ?_
       rintro e qv6 ⟨rfl,abg⟩
       have hQ6:=Ao.trans (abg.mono Ao.size)
       have Py:=(abg.block _ (lt_of_some abf)).trans abf
       refine hK _ _ ⟨hQ6,?_⟩
       clear hK K
       try simp only [zA,zB,zC,Act.put,zD,zE,zF]
       unfold bU
       simp only [List.drop_succ_cons,List.drop_zero]
       have kA:=one_set (.string tt) Py
       have kB:=hQ6.setCell (p:=⟨_,0,none⟩) IP.size (.string tt)
       obtain ⟨_,_⟩:=one_cell Py
       have eH:=hid (show uD wJ (.pointer (some ⟨qv2.heap.size,0,none⟩)) (.string tt) _ from ⟨_,rfl,kA,kB,IP.size⟩)
       clear kA kB
       gi_wp2_with fail
       gi_meet
       exact eH.out
     ·refine af rfl rfl (fun K hK=>?_)
      go_simp
      obtain ⟨qv7,Pz⟩ : ∃ q,q=qv1.alloc (Obj.cells #[.string ⟨#[]⟩] 33):=⟨_,rfl⟩
      have abh:qv7.heap[qv1.heap.size]?=some (.cells #[.string ⟨#[]⟩] 33 (0,0)):=by rw [Pz];exact World.alloc_heap_new _ _
      have aeU:Below qv1.heap.size qv1 qv7:=by rw [Pz];exact ae _ _
      have hQ7:=IM.trans (aeU.mono IM.size)
      rw [←Pz]
      clear Pz
      refine hK _ _ ⟨hQ7,?_⟩
      clear hK K
      try simp only [zA,zB,zC,Act.put,zD,zE,zF]
      refine af rfl rfl (fun K hK=>?_)
      go_simp
      refine (HML.out _ (HGJ.out.below (hQ7))).mono ?_
      rintro e qv8 ⟨rfl,abj⟩
      have hQ8:=hQ7.trans (abj.mono hQ7.size)
      have PD:=(abj.block _ (lt_of_some abh)).trans abh
      refine hK _ _ ⟨hQ8,?_⟩
      clear hK K
      try simp only [zA,zB,zC,Act.put,zD,zE,zF]
      refine af rfl rfl (fun K hK=>?_)
      go_simp
      refine (HAD.out _ (HGJ.out.below (hQ8))).mono ?_
      rintro e qv9 ⟨rfl,abk⟩
      have hQ9:=hQ8.trans (abk.mono hQ8.size)
      have PE:=(abk.block _ (lt_of_some PD)).trans PD
      refine hK _ _ ⟨hQ9,?_⟩
      clear hK K
      try simp only [zA,zB,zC,Act.put,zD,zE,zF]
      unfold bU
      simp only [List.drop_succ_cons,List.drop_zero]
      have kA:=one_set (.string tt) PE
      have kB:=hQ9.setCell (p:=⟨_,0,none⟩) IM.size (.string tt)
      obtain ⟨_,_⟩:=one_cell PE
      have eH:=hid (show uD wJ (.pointer (some ⟨qv1.heap.size,0,none⟩)) (.string tt) _ from ⟨_,rfl,kA,kB,IM.size⟩)
      clear kA kB
      gi_wp2_with fail
      gi_meet
      exact eH.out
    ·refine af rfl rfl (fun K hK=>?_)
     go_simp
     obtain ⟨aeV,Iy⟩ : ∃ q,q=qv0.alloc (Obj.cells #[.string ⟨#[]⟩] 33):=⟨_,rfl⟩
     have XQ:aeV.heap[qv0.heap.size]?=some (.cells #[.string ⟨#[]⟩] 33 (0,0)):=by rw [Iy];exact World.alloc_heap_new _ _
     have ac5:Below qv0.heap.size qv0 aeV:=by rw [Iy];exact ae _ _
     have aaC:=MO.trans (ac5.mono MO.size)
     rw [←Iy]
     clear Iy
     refine hK _ _ ⟨aaC,?_⟩
     clear hK K
     try simp only [zA,zB,zC,Act.put,zD,zE,zF]
     refine af rfl rfl (fun K hK=>?_)
     go_simp
     refine (HS3.out _ (HGJ.out.below (aaC))).mono ?_
     rintro e ahn ⟨rfl,XR⟩
     have aaD:=aaC.trans (XR.mono aaC.size)
     have F9:=(XR.block _ (lt_of_some XQ)).trans XQ
     refine hK _ _ ⟨aaD,?_⟩
     clear hK K
     try simp only [zA,zB,zC,Act.put,zD,zE,zF]
     refine af rfl rfl (fun K hK=>?_)
     go_simp
     refine (HML.out _ (HGJ.out.below (aaD))).mono ?_
     rintro e aho ⟨rfl,XT⟩
     have aaE:=aaD.trans (XT.mono aaD.size)
     have Ga:=(XT.block _ (lt_of_some F9)).trans F9
     refine hK _ _ ⟨aaE,?_⟩
     clear hK K
     try simp only [zA,zB,zC,Act.put,zD,zE,zF]
     refine af rfl rfl (fun K hK=>?_)
     go_simp
     refine (HAD.out _ (HGJ.out.below (aaE))).mono ?_
     rintro e ahp ⟨rfl,XU⟩
     have aeW:=aaE.trans (XU.mono aaE.size)
     have Gb:=(XU.block _ (lt_of_some Ga)).trans Ga
     refine hK _ _ ⟨aeW,?_⟩
     clear hK K
     try simp only [zA,zB,zC,Act.put,zD,zE,zF]
     unfold bU
     simp only [List.drop_succ_cons,List.drop_zero]
     have kA:=one_set (.string tt) Gb
     have kB:=aeW.setCell (p:=⟨_,0,none⟩) MO.size (.string tt)
     obtain ⟨_,_⟩:=one_cell Gb
     have eH:=hid (show uD wJ (.pointer (some ⟨qv0.heap.size,0,none⟩)) (.string tt) _ from ⟨_,rfl,kA,kB,MO.size⟩)
     clear kA kB
     gi_wp2_with fail
     gi_meet
     exact eH.out
  case rest =>
  obtain ⟨Bt,rfl,hbt,VB,hgt⟩:=hcut
  obtain ⟨wE,hwe⟩ : ∃ q,q=wc:=⟨_,rfl⟩
  subst hwe
  have R3:=hid (HWJ.out.trans (VB.mono HWJ.out.size))
  have tF:=hid ((VB.block _ (aa tF.out)).trans tF.out)
  have HBT:=hid hbt
  have xL:=hid (iK.out.trans (R3.out.mono iK.out.size))
  obtain ⟨wI,J7⟩ : ∃ wI,wI=wE.alloc (Obj.cells #[.slice none 0 0] 66):=⟨_,rfl⟩
  have Qy:Below wE.heap.size wE wI:=by rw [J7];exact ae _ _
  have hoI:wI.heap[wE.heap.size]?=some (.cells #[.slice none 0 0] 66 (0,0)):=by rw [J7];exact World.alloc_heap_new _ _
  have HWI:=hid J7
  obtain ⟨bo,iy⟩ : ∃ b,b=wE.heap.size:=⟨_,rfl⟩
  rw [←iy] at hoI
  have IU:=hid iy
  have Ke:=hid (show Rl wE bo (.slice none 0 0) [] wI from ⟨Qy,hoI,World.ownsRow_nil _ _ _ _,Nat.le_of_eq iy.symm⟩)
  have hkm:k<m:=by have:=yE.out;have:=HKK.out;omega
  have kj2:(k:Int)<(m:Int):=by omega
  obtain ⟨b,off,u,rfl,hbl,c0,c1,hst⟩:=(HLD.out.below R3.out).at hkm
  obtain ⟨ps,cs,rfl,hcs,hcs2⟩:=hst.slice
  unfold maxLen at hcs2
  have HST:=hid hst
  have HK:=hid (show k+1<P.lg.length by rw [HN.out.1,←HKK.out];exact hk1)
  have acK:=xC HO.out HK.out
  generalize yT:(bD P k).length=iL at *
  have IQ:=hid yT
  generalize tx (pR P k)=ttt at *
  have c0:=(Qy.cell (p:=⟨b,off+k*2,none⟩) hbl).trans c0
  clear c1 J7 Qy hoI iy hst yT hbt VB hgt b0 tk tk1 lP lS lT p0 p1 p2 p3 p4 p5 p6 hbl
  gi_upto_region 22 with fail
  rw [←HWI.out,←IU.out]
  gi_upto_region 23 with fail
  clear c0 HWI
  refine dz (fun g2 a W=>∃ (i:Nat) (vo:Value) (D:List Iv) (ds:List Nat) (u0 u1 u6 u7 u8 u9 Ej El Em EX EY EZ u20 u21 u22 u23 u24 u25 u26 u27 u28 u29 u30 u31 u32 u33 u34 u35 u36 u37 u38 E5 u40 E8 u42 E9 u44 u45 u46 Fa u48 u49 Fb u51 Fe u53 Ff u55 Fg Fh u58 u59 u60 J8 OE u63 u64 OG u66 Uq u68 u69 u70 u71 u72 u73 u74 u75 u76 u77 u78 u79 u80 u81 u82 u83 u84 u85 u86 u87 u88 u89 u90 u91 u92 u93 u94 u95 u96 u97 u98 u99 V8 V9 Wd We Wh u105 Wi Wj Wl Wm Wn Wo Wp Wq Ws Wt Wu Wv Ww u119 Wx Wy Wz WA u124 WB WC u127 u131 WE WG WH WI WJ WK u138 u139 WL WM WN WO WQ WR WS WT WU WV WW Xa u152 Xb u154 Xc Xd Xe Xf Xg Xh Xi u162 Xj u164 Xk Xl Xm Xn Xo Xp Xq Xr Xt Xu Xv Xw Xx Xy Xz XA XB XC XD XE XF XG XH XI:Value),a={ tmps:=#[u0,u1,.pointer (some ⟨w.heap.size,0,none⟩),.pointer (some ⟨w.heap.size+1,0,none⟩),.pointer (some ⟨w.heap.size+1+1,0,none⟩),.pointer (some ⟨w.heap.size+1+1+1,0,none⟩),u6,u7,u8,u9,.int .i64 (k:Int),Ej,El,.pointer (some ⟨Bs,0,none⟩),Em,.pointer (some ⟨Bt,0,none⟩),.pointer (some ⟨bo,0,none⟩),EX,EY,EZ,u20,u21,u22,u23,u24,u25,u26,u27,u28,u29,u30,u31,u32,u33,u34,u35,u36,u37,u38,E5,u40,E8,u42,E9,u44,u45,u46,Fa,u48,u49,Fb,u51,Fe,u53,Ff,u55,Fg,Fh,u58,u59,u60,J8,OE,u63,u64,OG,u66,Uq,u68,u69,u70,u71,u72,u73,u74,u75,u76,u77,u78,u79,u80,u81,u82,u83,u84,u85,u86,u87,u88,u89,u90,u91,u92,u93,u94,u95,u96,u97,u98,u99,V8,V9,Wd,We,Wh,u105,Wi,Wj,Wl,Wm,Wn,Wo,Wp,Wq,Ws,Wt,Wu,Wv,Ww,u119,Wx,Wy,Wz,WA,u124,WB,WC,u127,.slice ps iL cs,.int .i64 (iL:Int),.int .i64 (i:Int),u131,WE,WG,WH,WI,WJ,WK,u138,u139,WL,WM,WN,WO,WQ,WR,WS,WT,WU,WV,WW,Xa,u152,Xb,u154,Xc,Xd,Xe,Xf,Xg,Xh,Xi,u162,Xj,u164,Xk,Xl,Xm,Xn,Xo,Xp,Xq,Xr,Xt,Xu,Xv,Xw,Xx,Xy,Xz,XA,XB,XC,XD,XE,XF,XG,XH,XI],defers:=ds.map Cx }∧Rl wE bo vo D W∧Marks wE.heap.size W ds∧D=((bD P k).take i).flatMap (VO P x k)∧D.length≤2*i∧i+g2=iL) iL ?_ ?_
  ·exact ⟨0,_,[],[],_,_,_,_,_,_,_,_,_,_,_,_,_,_,_,_,_,_,_,_,_,_,_,_,_,_,_,_,_,_,_,_,_,_,_,_,_,_,_,_,_,_,_,_,_,_,_,_,_,_,_,_,_,_,_,_,_,_,_,_,_,_,_,_,_,_,_,_,_,_,_,_,_,_,_,_,_,_,_,_,_,_,_,_,_,_,_,_,_,_,_,_,_,_,_,_,_,_,_,_,_,_,_,_,_,_,_,_,_,_,_,_,_,_,_,_,_,_,_,_,_,_,_,_,_,_,_,_,_,_,_,_,_,_,_,_,_,_,_,_,_,_,_,_,_,_,_,_,_,_,_,_,_,_,_,_,_,_,_,_,_,_,_,_,_,_,_,_,_,_,_,_,_,_,_,_,_,_,rfl,Ke.out,Marks.nil _ _,rfl,Nat.zero_le _,Nat.zero_add _⟩
  clear Ke
  intro g2 cc QQ hcc QB a W hI
  obtain ⟨i,hI⟩:=hI
  obtain ⟨vo,hI⟩:=hI
  obtain ⟨D,hI⟩:=hI
  obtain ⟨ds,hI⟩:=hI
  obtain ⟨u0,hI⟩:=hI
  obtain ⟨u1,hI⟩:=hI
  obtain ⟨u6,hI⟩:=hI
  obtain ⟨u7,hI⟩:=hI
  obtain ⟨u8,hI⟩:=hI
  obtain ⟨u9,hI⟩:=hI
  obtain ⟨Ej,hI⟩:=hI
  obtain ⟨El,hI⟩:=hI
  obtain ⟨Em,hI⟩:=hI
  obtain ⟨EX,hI⟩:=hI
  obtain ⟨EY,hI⟩:=hI
  obtain ⟨EZ,hI⟩:=hI
  obtain ⟨u20,hI⟩:=hI
  obtain ⟨u21,hI⟩:=hI
  obtain ⟨u22,hI⟩:=hI
  obtain ⟨u23,hI⟩:=hI
  obtain ⟨u24,hI⟩:=hI
  obtain ⟨u25,hI⟩:=hI
  obtain ⟨u26,hI⟩:=hI
  obtain ⟨u27,hI⟩:=hI
  obtain ⟨u28,hI⟩:=hI
  obtain ⟨u29,hI⟩:=hI
  obtain ⟨u30,hI⟩:=hI
  obtain ⟨u31,hI⟩:=hI
  obtain ⟨u32,hI⟩:=hI
  obtain ⟨u33,hI⟩:=hI
  obtain ⟨u34,hI⟩:=hI
  obtain ⟨u35,hI⟩:=hI
  obtain ⟨u36,hI⟩:=hI
  obtain ⟨u37,hI⟩:=hI
  obtain ⟨u38,hI⟩:=hI
  obtain ⟨E5,hI⟩:=hI
  obtain ⟨u40,hI⟩:=hI
  obtain ⟨E8,hI⟩:=hI
  obtain ⟨u42,hI⟩:=hI
  obtain ⟨E9,hI⟩:=hI
  obtain ⟨u44,hI⟩:=hI
  obtain ⟨u45,hI⟩:=hI
  obtain ⟨u46,hI⟩:=hI
  obtain ⟨Fa,hI⟩:=hI
  obtain ⟨u48,hI⟩:=hI
  obtain ⟨u49,hI⟩:=hI
  obtain ⟨Fb,hI⟩:=hI
  obtain ⟨u51,hI⟩:=hI
  obtain ⟨Fe,hI⟩:=hI
  obtain ⟨u53,hI⟩:=hI
  obtain ⟨Ff,hI⟩:=hI
  obtain ⟨u55,hI⟩:=hI
  obtain ⟨Fg,hI⟩:=hI
  obtain ⟨Fh,hI⟩:=hI
  obtain ⟨u58,hI⟩:=hI
  obtain ⟨u59,hI⟩:=hI
  obtain ⟨u60,hI⟩:=hI
  obtain ⟨J8,hI⟩:=hI
  obtain ⟨OE,hI⟩:=hI
  obtain ⟨u63,hI⟩:=hI
  obtain ⟨u64,hI⟩:=hI
  obtain ⟨OG,hI⟩:=hI
  obtain ⟨u66,hI⟩:=hI
  obtain ⟨Uq,hI⟩:=hI
  obtain ⟨u68,hI⟩:=hI
  obtain ⟨u69,hI⟩:=hI
  obtain ⟨u70,hI⟩:=hI
  obtain ⟨u71,hI⟩:=hI
  obtain ⟨u72,hI⟩:=hI
  obtain ⟨u73,hI⟩:=hI
  obtain ⟨u74,hI⟩:=hI
  obtain ⟨u75,hI⟩:=hI
  obtain ⟨u76,hI⟩:=hI
  obtain ⟨u77,hI⟩:=hI
  obtain ⟨u78,hI⟩:=hI
  obtain ⟨u79,hI⟩:=hI
  obtain ⟨u80,hI⟩:=hI
  obtain ⟨u81,hI⟩:=hI
  obtain ⟨u82,hI⟩:=hI
  obtain ⟨u83,hI⟩:=hI
  obtain ⟨u84,hI⟩:=hI
  obtain ⟨u85,hI⟩:=hI
  obtain ⟨u86,hI⟩:=hI
  obtain ⟨u87,hI⟩:=hI
  obtain ⟨u88,hI⟩:=hI
  obtain ⟨u89,hI⟩:=hI
  obtain ⟨u90,hI⟩:=hI
  obtain ⟨u91,hI⟩:=hI
  obtain ⟨u92,hI⟩:=hI
  obtain ⟨u93,hI⟩:=hI
  obtain ⟨u94,hI⟩:=hI
  obtain ⟨u95,hI⟩:=hI
  obtain ⟨u96,hI⟩:=hI
  obtain ⟨u97,hI⟩:=hI
  obtain ⟨u98,hI⟩:=hI
  obtain ⟨u99,hI⟩:=hI
  obtain ⟨V8,hI⟩:=hI
  obtain ⟨V9,hI⟩:=hI
  obtain ⟨Wd,hI⟩:=hI
  obtain ⟨We,hI⟩:=hI
  obtain ⟨Wh,hI⟩:=hI
  obtain ⟨u105,hI⟩:=hI
  obtain ⟨Wi,hI⟩:=hI
  obtain ⟨Wj,hI⟩:=hI
  obtain ⟨Wl,hI⟩:=hI
  obtain ⟨Wm,hI⟩:=hI
  obtain ⟨Wn,hI⟩:=hI
  obtain ⟨Wo,hI⟩:=hI
  obtain ⟨Wp,hI⟩:=hI
  obtain ⟨Wq,hI⟩:=hI
  obtain ⟨Ws,hI⟩:=hI
  obtain ⟨Wt,hI⟩:=hI
  obtain ⟨Wu,hI⟩:=hI
  obtain ⟨Wv,hI⟩:=hI
  obtain ⟨Ww,hI⟩:=hI
  obtain ⟨u119,hI⟩:=hI
  obtain ⟨Wx,hI⟩:=hI
  obtain ⟨Wy,hI⟩:=hI
  obtain ⟨Wz,hI⟩:=hI
  obtain ⟨WA,hI⟩:=hI
  obtain ⟨u124,hI⟩:=hI
  obtain ⟨WB,hI⟩:=hI
  obtain ⟨WC,hI⟩:=hI
  obtain ⟨u127,hI⟩:=hI
  obtain ⟨u131,hI⟩:=hI
  obtain ⟨WE,hI⟩:=hI
  obtain ⟨WG,hI⟩:=hI
  obtain ⟨WH,hI⟩:=hI
  obtain ⟨WI,hI⟩:=hI
  obtain ⟨WJ,hI⟩:=hI
  obtain ⟨WK,hI⟩:=hI
  obtain ⟨u138,hI⟩:=hI
  obtain ⟨u139,hI⟩:=hI
  obtain ⟨WL,hI⟩:=hI
  obtain ⟨WM,hI⟩:=hI
  obtain ⟨WN,hI⟩:=hI
  obtain ⟨WO,hI⟩:=hI
  obtain ⟨WQ,hI⟩:=hI
  obtain ⟨WR,hI⟩:=hI
  obtain ⟨WS,hI⟩:=hI
  obtain ⟨WT,hI⟩:=hI
  obtain ⟨WU,hI⟩:=hI
  obtain ⟨WV,hI⟩:=hI
  obtain ⟨WW,hI⟩:=hI
  obtain ⟨Xa,hI⟩:=hI
  obtain ⟨u152,hI⟩:=hI
  obtain ⟨Xb,hI⟩:=hI
  obtain ⟨u154,hI⟩:=hI
  obtain ⟨Xc,hI⟩:=hI
  obtain ⟨Xd,hI⟩:=hI
  obtain ⟨Xe,hI⟩:=hI
  obtain ⟨Xf,hI⟩:=hI
  obtain ⟨Xg,hI⟩:=hI
  obtain ⟨Xh,hI⟩:=hI
  obtain ⟨Xi,hI⟩:=hI
  obtain ⟨u162,hI⟩:=hI
  obtain ⟨Xj,hI⟩:=hI
  obtain ⟨u164,hI⟩:=hI
  obtain ⟨Xk,hI⟩:=hI
  obtain ⟨Xl,hI⟩:=hI
  obtain ⟨Xm,hI⟩:=hI
  obtain ⟨Xn,hI⟩:=hI
  obtain ⟨Xo,hI⟩:=hI
  obtain ⟨Xp,hI⟩:=hI
  obtain ⟨Xq,hI⟩:=hI
  obtain ⟨Xr,hI⟩:=hI
  obtain ⟨Xt,hI⟩:=hI
  obtain ⟨Xu,hI⟩:=hI
  obtain ⟨Xv,hI⟩:=hI
  obtain ⟨Xw,hI⟩:=hI
  obtain ⟨Xx,hI⟩:=hI
  obtain ⟨Xy,hI⟩:=hI
  obtain ⟨Xz,hI⟩:=hI
  obtain ⟨XA,hI⟩:=hI
  obtain ⟨XB,hI⟩:=hI
  obtain ⟨XC,hI⟩:=hI
  obtain ⟨XD,hI⟩:=hI
  obtain ⟨XE,hI⟩:=hI
  obtain ⟨XF,hI⟩:=hI
  obtain ⟨XG,hI⟩:=hI
  obtain ⟨XH,hI⟩:=hI
  obtain ⟨XI,hI⟩:=hI
  obtain ⟨ha,hinv,hms,hD,hDl,ahq⟩:=hI
  subst ha hcc QB
  have HI:=hid hinv
  have MN:=hid hms
  have HD:=hid hD
  clear hinv hms hD
  by_cases hi2:i<iL
  ·as_aux_lemma =>
    have in1:decide ((i:Int)<(iL:Int))=true:=decide_eq_true (by omega)
    have in2:decide (i<iL)=true:=decide_eq_true hi2
    have in3:(0:Int)≤(i:Int):=by omega
    have in4:(i:Int)<(iL:Int):=by omega
    have Nu:i<(bD P k).length:=by rw [IQ.out];exact hi2
    obtain ⟨hs1,hs2,hs3,hs4⟩:=oK Nu
    obtain ⟨b3,aeq,rfl,acL,e0,e1,e2⟩:=(HST.out.below HI.out.low).at Nu
    obtain ⟨s,hs⟩ : ∃ s,s=jE (bD P k) i:=⟨_,rfl⟩
    rw [←hs] at hs1 hs2 hs3 hs4 e0 e1 e2
    have HS:=hid hs
    have mH:=hid (And.intro hs1 (And.intro hs2 (And.intro hs3 hs4)))
    have HIL:=hid Nu
    clear hs1 hs2 hs3 hs4 hs Nu
    gi_upto_region 25 with fail
    obtain ⟨wC,Am⟩ : ∃ wC,wC=W.alloc (Obj.cells #[.int .i64 (s.k:Int),.int .i64 (s.i:Int),.int .i64 (s.j:Int)] 57):=⟨_,rfl⟩
    obtain ⟨hbC,lC,g0,g1,g2'⟩:=bn Am
    rw [←Am]
    have LD:=hid (HI.out.below hbC)
    have HMC:=hid (MN.out.below hbC)
    have HNG:=hid (show ∀ g,vo.ownBlock=some g→g<wC.heap.size from fun g hg=>Nat.lt_of_lt_of_le (HI.out.own.lt g hg).2 hbC.size)
    have aeX:=hid (R3.out.trans (LD.out.low.mono R3.out.size))
    have HXC:=hid ((aeX.out.block _ (aa kg.out.1)).trans kg.out.1)
    obtain ⟨p0,p1,p2,p3,p4,p5,p6⟩:=au HXC.out
    clear Am hbC e0 e1 e2
    gi_wp2_with fail
    refine ⟨trivial,?_⟩
    refine (callsIn_wide.2 (U0.out k s (by rw [←HN.out.1];exact HK.out) wC (iK.out.trans (aeX.out.mono iK.out.size)))).mono ?_
    rintro e wS ⟨Bs2,Bl,Br,B1,B2,Bk,Bp,vl2,vr2,rfl,hE,hbS⟩
    have HE:=hid hE
    have HIS:=hid (LD.out.below hbS)
    have QF:=hid (show ∀ d∈ds,d<wS.heap.size from fun d hd=>Nat.lt_of_lt_of_le (HMC.out.lt d hd) hbS.size)
    have HP0:=hid (show Ik wE bo D ds P x k s wC.heap.size wS.heap.size 0 wS from ⟨⟨vo,D,HIS.out,by simp,Nat.le_refl _,fun _=>HNG.out⟩,HMC.out.below hbS,Nat.le_refl _⟩)
    have zL:=hid (HIS.out.low)
    have DF:=hid (show bo<wC.heap.size from aa LD.out.ob)
    have Eg:=hid hbS.size
    clear hE hbS p0 p1 p2 p3 p4 p5 p6 g0 g1 g2' lC
    gi_wp2
    refine mo (n:=10) 138 19 P k s rfl (by decide) (gf:=104) (lb:=#[.pointer (some ⟨Bs2,0,none⟩),.pointer (some ⟨Bl,0,none⟩),.pointer (some ⟨Br,0,none⟩),.pointer (some ⟨B1,0,none⟩),.pointer (some ⟨B2,0,none⟩),.pointer (some ⟨Bk,0,none⟩)]) rfl trivial (enters_of Tryz.func104 (by kernel_rfl) rfl)
     (KJ HK.out HO.out mH.out.1 mH.out.2.1 mH.out.2.2.1 mH.out.2.2.2 wS (RZ.out.below (xL.out.trans (zL.out.mono xL.out.size))) HE.out)
     uC (fun W l o o' _ h ho _=>zV W l o o' h ho) (Below.refl _ _) rfl
     (Ik wE bo D ds P x k s wC.heap.size wS.heap.size) (fun _ _ _=>False) (Ik.own zL.out.size QF.out) (fun _ _ _ _ _ hs _ _=>hs) HP0.out ?assign ?body ?done ?stop
    case assign =>
     as_aux_lemma =>
      rintro l i2 hi3 v W0 K hi0 ⟨y,hy,sl,rfl,hsl⟩ hK
      obtain ⟨RX,RY,rfl,ZZ,KM⟩:=hsl.slice
      have HI0:=hid hi0
      have HKC:=hid hK
      have HSL:=hid hsl
      have Uw:=hid hy
      generalize hlen:y.1.pg.length=nsl at *
      generalize hu:us y.1.u=u at *
      have HU:=hid hu
      clear hi0 hK hsl hy hu hlen
      gi_wp2
      refine HKC.out _ _ (aN (ae _ _)) (nS (ae _ _)) (HI0.out.below (ae _ _)) ⟨W0.heap.size,y,_,HI0.out.sz,Uw.out,by rw [HU.out];exact World.alloc_heap_new _ _,ik.below HSL.out (ae _ _),by rw [HU.out];rfl⟩
    case body =>
     as_aux_lemma =>
      rintro l i2 hi3 a' W0 hl hi0 ⟨B11,y,sl,af4,hy,Nv,hsl,rfl⟩
      simp only [List.setIfInBounds_toArray,List.set_cons_zero,List.set_cons_succ]
      obtain ⟨vo2,D2,h1,h2,h3,h4⟩:=hi0.ex
      obtain ⟨_,tK,tL,rfl,Q7,KN,_⟩:=Reads.bO h1.own
      unfold maxLen at KN
      obtain ⟨RX,RY,rfl,ZZ,KM⟩:=hsl.slice
      have hmem:y∈aA P k s:=List.mem_of_getElem? hy
      have hq4:=Dp HO.out HK.out mH.out.1 mH.out.2.1 mH.out.2.2.1 mH.out.2.2.2 y hmem
      have HW0:=hid (R3.out.trans (h1.low.mono R3.out.size))
      have HG0:=hid (RZ.out.below (iK.out.trans (HW0.out.mono iK.out.size)))
      have ac6:=hid (aau (.slice RX y.1.pg.length RY) y.1.pg hxf hq4.1 hq4.2 W0 HG0.out hsl)
      have ags:=hid (aah hxf hq4.2)
      rw [HXQ.out] at ac6
      have hx0:=(HW0.out.block _ (aa kg.out.2.1)).trans kg.out.2.1
      have hs0:=(h1.low.block _ (aa tF.out)).trans tF.out
      have ht0:=(h1.low.block _ (aa HBT.out)).trans HBT.out
      have HX0:=hid (And.intro hx0 (And.intro hs0 (And.intro ht0 (And.intro Nv h1.ob))))
      obtain ⟨z0,z1,z2,z3⟩:=iR Nv
      obtain ⟨x0,_⟩:=one_cell hx0
      have HH:=hid (And.intro h1 (And.intro h2 (And.intro h3 h4)))
      have HI0:=hid hi0
      have Uw:=hid hy
      have hD2:D2.length≤100:=by have:=jO P k s;omega
      generalize hlen:y.1.pg.length=nsl at *
      generalize hu:us y.1.u=u at *
      have HU:=hid hu
      clear hi0 hy Nv hsl h1 h2 h3 h4 hmem hq4 hu hlen hx0 hs0 ht0
      gi_wp2_with fail
      refine ⟨trivial,?_⟩
      obtain ⟨ta,tb,bsm,Rf,hsm⟩:=ac6.out
      refine (CallsIn.inRound l (callsIn_wide.2 Rf)).mono ?_
      rintro e w5 ⟨rfl,hb5⟩
      have Av:=hid hb5
      have hd5:=(hb5.block _ (aa HX0.out.2.2.2.1)).trans HX0.out.2.2.2.1
      have hs5:=(hb5.block _ (aa HX0.out.2.1)).trans HX0.out.2.1
      have ht5:=(hb5.block _ (aa HX0.out.2.2.1)).trans HX0.out.2.2.1
      have HX5:=hid (And.intro hd5 (And.intro hs5 ht5))
      obtain ⟨y0,y1,y2,y3⟩:=iR hd5
      obtain ⟨v0,_⟩:=one_cell hs5
      obtain ⟨v1,_⟩:=one_cell ht5
      clear hb5 hd5 hs5 ht5 z0 z1 z2 z3 x0 Rf ac6
      obtain ⟨b2,hb2⟩ : ∃ b,b=y.2:=⟨_,rfl⟩
      rw [←hb2] at y3
      obtain ⟨b4,hb4⟩ : ∃ b,b=decide (xE P x k=1/2):=⟨_,rfl⟩
      have e7:(ts.toList == [49,47,50])=b4:=by rw [hb4,←Rt];exact HSH.out
      obtain ⟨b3,hb3⟩ : ∃ b,b=(ta.toList == tb.toList):=⟨_,rfl⟩
      have e8:(ta.toList == tb.toList)=b3:=hb3.symm
      have Gc:=hid (And.intro hb2 (And.intro hb3 hb4))
      clear hb2 hb3 hb4
      by_cases Gd:bsm=false∨b3=true∨(b2=true∧b4=true)
      ·have hnil:Yy P x k y=[]:=aav hsm Gc.out.1 Gc.out.2.1 Gc.out.2.2 Gd
       have XV:=hid hnil
       clear hnil
       rcases Gd with rfl | Gd
       ·gi_wp2
        exact Ik.skip HI0.out Uw.out XV.out Av.out
       cases bsm with
       | false =>
        gi_wp2
        exact Ik.skip HI0.out Uw.out XV.out Av.out
       | true =>
        rcases Gd with rfl | ⟨rfl,rfl⟩
        ·gi_wp2
         exact Ik.skip HI0.out Uw.out XV.out Av.out
        ·cases b3 with
         | true =>
          gi_wp2
          exact Ik.skip HI0.out Uw.out XV.out Av.out
         | false =>
          gi_wp2
          exact Ik.skip HI0.out Uw.out XV.out Av.out
      ·obtain ⟨hs1,hs2,hs3⟩ : bsm=true∧b3=false∧(b2 && b4)=false:=by
        cases bsm <;> cases b3 <;> cases b2 <;> cases b4 <;> simp at Gd ⊢
       subst hs1 hs2
       obtain ⟨p,hp,Ry,htb,DI⟩:=aaw hsm Gc.out.1 Gc.out.2.1 Gc.out.2.2 hs3
       obtain ⟨hf1,hf2⟩:=ags.out p hp
       have hft:=aag HO.out (show k+1<P.lg.length from HK.out) hxf
       have EP:=hid (fun w' (hg:Good w')=>jY (yX P x k) p.2 (hft.szx.mono (by decide)) (hf2.szx.mono (by decide)) w' hg)
       have Yq:=hid (fun w' (hg:Good w')=>jY (yX P x k) p.1 (hft.szx.mono (by decide)) (hf1.szx.mono (by decide)) w' hg)
       have Yn:=hid (fun w' (hg:Good w')=>gY (yX P x k-p.2) (hft.ok hf2) w' hg)
       have HCB:=hid (fun w' (hg:Good w')=>gY (yX P x k-p.1) (hft.ok hf1) w' hg)
       rw [QA.out,←htb] at EP
       rw [QA.out,←Ry] at Yq
       unfold RV at EP Yq Yn HCB
       have HIV:=hid DI
       generalize hra:tx (yX P x k-p.2)=ra at *
       generalize hrb:tx (yX P x k-p.1)=rb at *
       have HRR:=hid (And.intro hra hrb)
       have HG5:=hid (HG0.out.below Av.out)
       have ly:=aa HX5.out.1
       have lt5:=aa HX5.out.2.2
       clear hra hrb Gd DI hf1 hf2 hft hp Ry htb hsm
       gi_upto_region 28 with fail
       try dsimp only
       gi_cut [162] from 148 (fun s wx=>s=.bool false∧wx=w5)
       case first =>
        as_aux_lemma =>
         cases b2 <;> cases b4 <;> simp at hs3 <;> (gi_wp2_with fail;gi_meet;exact ⟨rfl,rfl⟩)
       case rest =>
        as_aux_lemma =>
         obtain ⟨rfl,rfl⟩:=hcut
         obtain ⟨wK,hwk⟩ : ∃ q,q=wc:=⟨_,rfl⟩
         subst hwk
         gi_upto_region 29 with fail
         try dsimp only
         gi_cut [23] from 163 (fun s23 wx=>Pt wK s23 (.string u) (.string ra) (.string rb) wx)
         case first =>
          as_aux_lemma =>
           have mG:=hid (fun W' (hS':Below wK.heap.size wK W')=>And.intro ((hS'.cell (p:=⟨B11,1,none⟩) ly).trans y1) ((hS'.cell (p:=⟨Bt,0,none⟩) lt5).trans v1))
           refine bN jU (fun W'=>Below wK.heap.size wK W') (.take 0 (.take 1 (.take 2 (.take 3 (.take 4 (.take 6 (.take 7 (.two 5 (.two 8 (.take 9 (.one 10 .fin)) 10 (.one 8 (.take 9 .fin))) 10 (.one 5 (.one 8 (.take 9 .fin))))))))))) 11 (by kernel_rfl) (by kernel_rfl) (by kernel_rfl) ⟨rfl,rfl,rfl,Nat.le_refl _,fun _ _=>rfl⟩ ?_
           have hR0:Below wK.heap.size wK wK.drew:=⟨rfl,rfl,rfl,Nat.le_refl _,fun _ _=>rfl⟩
           generalize wK.drew=nC at *
           iterate 7
            refine aD rfl ?_ rfl ?_ ?_
            rotate_left
            ·intro W' hS'
             obtain ⟨s0,s1⟩:=mG.out _ hS'
             go_simp
             try with_reducible rfl
            try simp only [zA,zB,zC,Act.put,zD,zE,zF]
           refine dC ?_ ?_
           ·refine af rfl rfl (fun K hK=>?_)
            go_simp
            refine (EP.out _ (HG5.out.below (hR0))).mono ?_
            rintro e sO ⟨rfl,U2⟩
            have fq:=hR0.trans (U2.mono hR0.size)
            refine hK _ _ ⟨fq,?_⟩
            clear hK K
            try simp only [zA,zB,zC,Act.put,zD,zE,zF]
            refine dC ?_ ?_
            ·refine af rfl rfl (fun K hK=>?_)
             go_simp
             refine (Yq.out _ (HG5.out.below (fq))).mono ?_
             rintro e AQ ⟨rfl,U3⟩
             have hR2:=fq.trans (U3.mono fq.size)
             refine hK _ _ ⟨hR2,?_⟩
             clear hK K
             try simp only [zA,zB,zC,Act.put,zD,zE,zF]
             refine aD rfl ?_ rfl ?_ ?_
             rotate_left
             ·intro W' hS'
              obtain ⟨s0,s1⟩:=mG.out _ hS'
              go_simp
              try with_reducible rfl
             try simp only [zA,zB,zC,Act.put,zD,zE,zF]
             refine af rfl rfl (fun K hK=>?_)
             go_simp
             obtain ⟨OY,xz⟩ : ∃ q,q=AQ.alloc (Obj.cells #[.string ⟨#[]⟩,.string ⟨#[]⟩,.string ⟨#[]⟩] 89):=⟨_,rfl⟩
             have XW:OY.heap[AQ.heap.size]?=some (.cells #[.string ⟨#[]⟩,.string ⟨#[]⟩,.string ⟨#[]⟩] 89 (0,0)):=by rw [xz];exact World.alloc_heap_new _ _
             have U5:Below AQ.heap.size AQ OY:=by rw [xz];exact ae _ _
             have ZJ:=hR2.trans (U5.mono hR2.size)
             rw [←xz]
             clear xz
             refine hK _ _ ⟨ZJ,?_⟩
             clear hK K
             try simp only [zA,zB,zC,Act.put,zD,zE,zF]
             unfold bU
             simp only [List.drop_succ_cons,List.drop_zero]
             have kA:=fH (.string u) (.string ra) (.string rb) XW
             have kB:=bY (.string u) (.string ra) (.string rb) hR2.size ZJ
             obtain ⟨_,_,_⟩:=bS XW
             obtain ⟨_,_,_⟩:=av XW
             have eH:=hid (show Pt wK (.pointer (some ⟨AQ.heap.size,0,none⟩)) (.string u) (.string ra) (.string rb) _ from ⟨_,rfl,kA,kB,hR2.size⟩)
             clear kA kB
             gi_wp2_with fail
             gi_meet
             exact eH.out
            ·refine af rfl rfl (fun K hK=>?_)
             go_simp
             obtain ⟨rv4,xA⟩ : ∃ q,q=sO.alloc (Obj.cells #[.string ⟨#[]⟩,.string ⟨#[]⟩,.string ⟨#[]⟩] 89):=⟨_,rfl⟩
             have abl:rv4.heap[sO.heap.size]?=some (.cells #[.string ⟨#[]⟩,.string ⟨#[]⟩,.string ⟨#[]⟩] 89 (0,0)):=by rw [xA];exact World.alloc_heap_new _ _
             have OZ:Below sO.heap.size sO rv4:=by rw [xA];exact ae _ _
             have hR4:=fq.trans (OZ.mono fq.size)
             rw [←xA]
             clear xA
             refine hK _ _ ⟨hR4,?_⟩
             clear hK K
             try simp only [zA,zB,zC,Act.put,zD,zE,zF]
             refine af rfl rfl (fun K hK=>?_)
             go_simp
             refine (Yq.out _ (HG5.out.below (hR4))).mono ?_
             rintro e rv5 ⟨rfl,abm⟩
             have hR5:=hR4.trans (abm.mono hR4.size)
             have IA:=(abm.block _ (lt_of_some abl)).trans abl
             refine hK _ _ ⟨hR5,?_⟩
             clear hK K
             try simp only [zA,zB,zC,Act.put,zD,zE,zF]
             refine aD rfl ?_ rfl ?_ ?_
             rotate_left
             ·intro W' hS'
              obtain ⟨s0,s1⟩:=mG.out _ hS'
              go_simp
              try with_reducible rfl
             try simp only [zA,zB,zC,Act.put,zD,zE,zF]
             unfold bU
             simp only [List.drop_succ_cons,List.drop_zero]
             have kA:=fH (.string u) (.string ra) (.string rb) IA
             have kB:=bY (.string u) (.string ra) (.string rb) fq.size hR5
             obtain ⟨_,_,_⟩:=bS IA
             obtain ⟨_,_,_⟩:=av IA
             have eH:=hid (show Pt wK (.pointer (some ⟨sO.heap.size,0,none⟩)) (.string u) (.string ra) (.string rb) _ from ⟨_,rfl,kA,kB,fq.size⟩)
             clear kA kB
             gi_wp2_with fail
             gi_meet
             exact eH.out
           ·refine af rfl rfl (fun K hK=>?_)
            go_simp
            obtain ⟨O0,xB⟩ : ∃ q,q=nC.alloc (Obj.cells #[.string ⟨#[]⟩,.string ⟨#[]⟩,.string ⟨#[]⟩] 89):=⟨_,rfl⟩
            have abn:O0.heap[nC.heap.size]?=some (.cells #[.string ⟨#[]⟩,.string ⟨#[]⟩,.string ⟨#[]⟩] 89 (0,0)):=by rw [xB];exact World.alloc_heap_new _ _
            have U7:Below nC.heap.size nC O0:=by rw [xB];exact ae _ _
            have Q3:=hR0.trans (U7.mono hR0.size)
            rw [←xB]
            clear xB
            refine hK _ _ ⟨Q3,?_⟩
            clear hK K
            try simp only [zA,zB,zC,Act.put,zD,zE,zF]
            refine af rfl rfl (fun K hK=>?_)
            go_simp
            refine (EP.out _ (HG5.out.below (Q3))).mono ?_
            rintro e rv7 ⟨rfl,KE⟩
            have hR7:=Q3.trans (KE.mono Q3.size)
            have PG:=(KE.block _ (lt_of_some abn)).trans abn
            refine hK _ _ ⟨hR7,?_⟩
            clear hK K
            try simp only [zA,zB,zC,Act.put,zD,zE,zF]
            refine af rfl rfl (fun K hK=>?_)
            go_simp
            refine (Yq.out _ (HG5.out.below (hR7))).mono ?_
            rintro e rv8 ⟨rfl,abo⟩
            have hR8:=hR7.trans (abo.mono hR7.size)
            have IB:=(abo.block _ (lt_of_some PG)).trans PG
            refine hK _ _ ⟨hR8,?_⟩
            clear hK K
            try simp only [zA,zB,zC,Act.put,zD,zE,zF]
            refine aD rfl ?_ rfl ?_ ?_
            rotate_left
            ·intro W' hS'
             obtain ⟨s0,s1⟩:=mG.out _ hS'
             go_simp
             try with_reducible rfl
            try simp only [zA,zB,zC,Act.put,zD,zE,zF]
            unfold bU
            simp only [List.drop_succ_cons,List.drop_zero]
            have kA:=fH (.string u) (.string ra) (.string rb) IB
            have kB:=bY (.string u) (.string ra) (.string rb) hR0.size hR8
            obtain ⟨_,_,_⟩:=bS IB
            obtain ⟨_,_,_⟩:=av IB
            have eH:=hid (show Pt wK (.pointer (some ⟨nC.heap.size,0,none⟩)) (.string u) (.string ra) (.string rb) _ from ⟨_,rfl,kA,kB,hR0.size⟩)
            clear kA kB
            gi_wp2_with fail
            gi_meet
            exact eH.out
         case rest =>
          as_aux_lemma =>
           obtain ⟨Bx,rfl,hbx,yz,hgx⟩:=hcut
           obtain ⟨wL,hwl⟩ : ∃ q,q=wc:=⟨_,rfl⟩
           subst hwl
           have HBL:=hid (Av.out.trans (yz.mono Av.out.size))
           have D8:=hid hbx
           have HGL:=hid (HG0.out.below HBL.out)
           clear y0 y1 y2 y3 v0 v1 ly lt5
           obtain ⟨b0,b1,b2'⟩:=av hbx
           clear hbx yz hgx
           gi_wp2_with fail
           refine ⟨trivial,?_⟩
           refine (CallsIn.inRound l (callsIn_wide.2 (Yn.out wL HGL.out))).mono ?_
           rintro e w6 ⟨rfl,hb6⟩
           have LF:=hid hb6
           have hx6:=(hb6.block _ (aa D8.out)).trans D8.out
           have HX6:=hid hx6
           clear b0 b1 b2'
           obtain ⟨b0,b1,b2'⟩:=av hx6
           clear hb6 hx6
           gi_wp2_with fail
           refine ⟨trivial,?_⟩
           refine (CallsIn.inRound l (callsIn_wide.2 (HCB.out w6 (HGL.out.below LF.out)))).mono ?_
           rintro e w7 ⟨rfl,Fv⟩
           have aeY:=hid (HBL.out.trans ((LF.out.trans (Fv.mono LF.out.size)).mono HBL.out.size))
           have hx7:=(Fv.block _ (aa HX6.out)).trans HX6.out
           have HI7:=hid (HH.out.1.below aeY.out)
           clear b0 b1 b2' Fv
           obtain ⟨b0,b1,b2'⟩:=av hx7
           obtain ⟨oo,fo⟩:=one_cell HI7.out.ob
           have hown:=HI7.out.own
           have hlow:=HI7.out.low.size
           obtain ⟨i0,hii,hz0,hz1,hz2⟩:=info_parts nD.info
           clear hx7
           generalize VC:D2.length=nd at *
           have VD:=hid VC
           clear VC
           have HPF:=hid (fun (vz:Value) (l7:World) (hg:(w7.alloc (.cells #[.string u,.string ra,.string rb] 89)).grownBy l7 (Value.slice tK nd tL).ownBlock) (hown:l7.ownsRow wE.heap.size 89 3 vz (nd+1) (zX D2 ++ [.string u,.string ra,.string rb]))=>Ik.push HH.out.1 HH.out.2.1 (Nat.le_trans (Nat.le_of_eq VD.out) HH.out.2.2.1) HH.out.2.2.2 HI0.out.ms HI0.out.sz Uw.out HIV.out (jO P k s) DF.out aeY.out hg (by rw [←HU.out,←HRR.out.1,←HRR.out.2,←VD.out] at hown;exact hown))
           gi_wp2_with (gi_at_builtin;refine wpListIn_append_own _ rfl _ _ 66 rfl wE.heap.size 89 i0 (.agg #[.string ⟨#[]⟩,.string ⟨#[]⟩,.string ⟨#[]⟩]) 3 48 nD.ht hii hz0 hz1 hz2 nD.hzs nD.hsz _ nd _ rfl (hown.alloc _) ⟨w7.heap.size,0,none⟩ 1 1 [.string u,.string ra,.string rb] rfl rfl (jw _ _ _ _ _) (by simp [Value.oneCell']) (by unfold maxLen;omega) (by omega) (by simpa using Nat.le_succ_of_le hlow) ?_;intro vz l7 l8 hgrow _;obtain ⟨g9,yB,rfl⟩:=ownsRow_succ l8;have SB:=hid (HPF.out _ _ hgrow l8);obtain ⟨c1,f1⟩:=one_cell SB.out.2;clear l8 hgrow hown hlow b0 b1 b2' oo fo)
           exact SB.out.1
    case done =>
     as_aux_lemma =>
      intro Dk W0 hD0 hi0 hK
      obtain ⟨vo2,D2,h1,h2,h3,h4⟩:=hi0.ex
      have HR:=hid (show D2=((bD P k).take (i+1)).flatMap (VO P x k) by
       rw [h2,HD.out,List.take_length]
       have Nu:=HIL.out
       rw [List.take_succ_eq_append_getElem Nu,List.flatMap_append,List.flatMap_singleton,←lZ Nu,←HS.out]
       rfl)
      have HH:=hid h1
      have HM:=hid (Marks.cons hi0.ms (show wE.heap.size≤Dk by have:=zL.out.size;omega) hK (fun h=>by have:=QF.out Dk h;omega))
      have hlen:D2.length≤2*(i+1):=by have:=jO P k s;omega
      have w5:IntKind.i64.wrap ((i:Int)+1)=(i:Int)+1:=IntWalk.i64_in _ (by omega)
      clear h1 h2 h3 h4 hi0 hK
      gi_wp2
      exact ⟨g2-1,by omega,i+1,_,D2,Dk :: ds,_,_,_,_,_,_,_,_,_,_,_,_,_,_,_,_,_,_,_,_,_,_,_,_,_,_,_,_,_,_,_,_,_,_,_,_,_,_,_,_,_,_,_,_,_,_,_,_,_,_,_,_,_,_,_,_,_,_,_,_,_,_,_,_,_,_,_,_,_,_,_,_,_,_,_,_,_,_,_,_,_,_,_,_,_,_,_,_,_,_,_,_,_,_,_,_,_,_,_,_,_,_,_,_,_,_,_,_,_,_,_,_,_,_,_,_,_,_,_,_,_,_,_,_,_,_,_,_,_,_,_,_,_,_,_,_,_,_,_,_,_,_,_,_,_,_,_,_,_,_,_,_,_,_,_,_,_,_,_,_,_,_,_,_,_,_,_,_,_,_,_,_,_,_,_,_,_,_,rfl,HH.out,HM.out,HR.out,hlen,by omega⟩
    case stop =>
     rintro Dk c k2 W0 hD0 hk2 hf hK
     exact hf.elim
  ·obtain rfl:iL=i:=by omega
   have in1:decide ((iL:Int)<(iL:Int))=false:=decide_eq_false (by omega)
   obtain ⟨hlo,tK,tL,rfl,Q7,KN,_⟩:=Reads.bO HI.out.own
   obtain ⟨oo,fo⟩:=one_cell HI.out.ob
   have HW2:=hid (R3.out.trans (HI.out.low.mono R3.out.size))
   have HV:=hid (pW HI.out.own)
   have hDX:atX P x=D:=by rw [HAX.out,HD.out,←IQ.out,List.take_length];rfl
   have HDX:=hid hDX
   generalize hnd:D.length=nd at *
   clear hDX Q7 hlo hnd
   have hx2:=(HW2.out.block _ (aa kg.out.2.2.1)).trans kg.out.2.2.1
   have hx3:=(HW2.out.block _ (aa kg.out.2.2.2)).trans kg.out.2.2.2
   have R7:=hid (jf (j:=0) (v:=.int .i64 0) (jf (j:=0) (v:=.slice tK nd tL) MN.out hx2) ((Below.heap_setCell W ⟨w.heap.size+1+1,0,none⟩ (.slice tK nd tL) _ (show w.heap.size+1+1+1≠_ from Nat.succ_ne_self _)).trans hx3))
   have hx2:=(HW2.out.block _ (aa kg.out.2.2.1)).trans kg.out.2.2.1
   have hx3:=(HW2.out.block _ (aa kg.out.2.2.2)).trans kg.out.2.2.2
   obtain ⟨r2,f2⟩:=one_cell hx2
   obtain ⟨r3,f3⟩:=one_cell hx3
   have HE:=hid (at_end (v:=.slice tK nd tL) (e:=0) hx2 hx3)
   have HIV:=hid (gq.two (v1:=.slice tK nd tL) (v2:=.int .i64 0) HV.out hx2 hx3 (fun s h=>by cases h) (fun s h=>by cases h))
   have Ur:=hid (((iK.out.trans (HW2.out.mono iK.out.size)).setCell (p:=⟨w.heap.size+1+1,0,none⟩) (Nat.le_succ_of_le (Nat.le_succ _)) (.slice tK nd tL)).setCell (p:=⟨w.heap.size+1+1+1,0,none⟩) (Nat.le_succ_of_le (Nat.le_succ_of_le (Nat.le_succ _))) (.int .i64 0))
   clear hx2 hx3
   gi_wp2
   have hE:=HE.out
   have hlo:=Ur.out
   have hIV:=HIV.out
   have hmk:=R7.out
   generalize (W.setCell ⟨w.heap.size+1+1,0,none⟩ (.slice tK nd tL)).setCell ⟨w.heap.size+1+1+1,0,none⟩ (.int .i64 0)=WZ at *
   refine ib (b:=wE.heap.size) ds WZ hmk (fun W' hs=>?_)
   obtain ⟨q1,_⟩:=one_cell (hs.2 _ _ hE.1 rfl)
   obtain ⟨q2,_⟩:=one_cell (hs.2 _ _ hE.2 rfl)
   refine ⟨.tuple #[.slice tK nd tL,.int .i64 0],by simp [results,Tryz.results24,go_sem,q1,q2],_,rfl,?_,hlo.trans (hs.1.mono xL.out.size)⟩
   rw [HDX.out]
   exact hIV.kept fun b cs t fz hb _=>hs.2 _ _ hb rfl
end Go.Proofs.YtglncfkoohgdaaaGreatDoor
