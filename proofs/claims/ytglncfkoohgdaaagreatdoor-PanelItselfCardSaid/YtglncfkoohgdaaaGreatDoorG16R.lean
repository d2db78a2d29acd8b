import Derived.Test.YtglncfkoohgdaaaGreatDoorE7R
import Derived.Test.YtglncfkoohgdaaaGreatDoorG13R
import Derived.OwnWalkIn
set_option maxRecDepth 100000
set_option maxHeartbeats 8000000
namespace Go.Proofs.YtglncfkoohgdaaaGreatDoor
open Go.RowKit Go.Shelf
open Go.Lib (decDigits itoa nDigits)
open Go.Lib (hid)
attribute [local go_sem] Oper.semAt_some
theorem F9 (C:Cs) (L R:List Iv):∀ (d i j:Nat),(zH C L R d i j).length≤d
 | 0,_,_=>Nat.le_refl _
 | d+1,i,j=>by
  unfold zH
  split
  ·exact Nat.zero_le _
  ·rw [List.length_cons]
   have:=F9 C L R d (gD (eX C L R i j) i) (iD (eX C L R i j) j)
   omega
theorem xR {P:bQ} (hO:dm P) {k:Nat} (hk:k+1<P.lg.length):(aZ P k).length≤16:=by
 have h1:=(hO.log k (by omega)).2
 have h2:=(hO.log (k+1) hk).2
 have:=F9 P.cs (ai P k) (ai P (k+1)) ((ai P k).length+(ai P (k+1)).length) 0 0
 unfold aZ kG
 omega
theorem jM (P:bQ) (k:Nat) (s:Stp):(aC P k s).length≤2:=by
 unfold aC
 split
 ·split
  ·exact Nat.le_succ 1
  ·exact Nat.le_refl 2
 ·split
  ·exact Nat.le_succ 1
  ·exact Nat.le_succ 1
theorem om.high {L R:List Iv} {i j:Nat} {P:List Stp} (h:om L R i j P):i≤L.length→j≤R.length→∀ s∈P,s.i≤L.length∧s.j≤R.length:=by
 induction h with
 | done=>intro _ _ s hs;cases hs
 | @step i j k P hk hc h ih =>
  intro hi hj s hs
  obtain ⟨h1,h2,_⟩:=fU hk hc hi hj
  rcases List.mem_cons.1 hs with rfl | hs
  ·exact ⟨hi,hj⟩
  ·exact ih h1 h2 s hs
theorem aaq {N:Nat} {W W':World} {row:Option Nat} {v:Value} {L:List QP} (h:qp W v L) (hg:W.grownBy W' row) (hr:∀ r,row=some r→N≤r∧∃ o:Obj,W.heap[r]?=some o∧o.isCells=false):qp W' v L:=by
 obtain ⟨p,c,h1,h2,h3,h4⟩:=h
 refine ⟨p,c,h1,h2,h3,fun h0=>?_⟩
 obtain ⟨b,off,k1,k2,k3⟩:=h4 h0
 have hne:row≠some b:=fun e=>by
  obtain ⟨_,o,ho,hc⟩:=hr b e
  have:=(k3 0 h0).1
  unfold World.cell? at this
  rw [ho] at this
  cases o <;> simp [Obj.isCells] at hc this
 have hb:=hg.block b k2 (fun e=>hne e.symm)
 have hcell:∀ j,W'.cell? ⟨b,j,none⟩=W.cell? ⟨b,j,none⟩:=fun j=>by simp [World.cell?,hb]
 exact ⟨b,off,k1,Nat.lt_of_lt_of_le k2 hg.size,fun i hi=>⟨by rw [hcell];exact (k3 i hi).1,by rw [hcell];exact (k3 i hi).2⟩⟩
def AxV (a:Act) (N p j:Nat) (P:bQ) (k:Nat) (s:Stp) (i:Nat) (a':Act) (W:World):Prop:=
 ∃ B x sl,N≤B∧(aC P k s)[i]?=some x∧W.heap[B]?=some (.cells #[.int .i64 (x.1.k:Int),.string (us x.1.u),sl,.bool x.2] 110 (0,0))∧qp W sl x.1.pg ∧
  a'={ tmps:=(a.tmps.setIfInBounds p (.agg #[.int .i64 (x.1.k:Int),.string (us x.1.u),sl,.bool x.2])).setIfInBounds j (.pointer (some ⟨B,0,none⟩)),defers:=[] }
theorem mo {F:Fence} {n:Nat} {P0:Program} {g:Operand} {ps:Array Tmp} {assign body:Code} {Q:Exit→Act→World→Prop} {a:Act} {w:World} (p j:Nat) (P:bQ) (k:Nat) (s:Stp)
  (hro:F.round=none) (h1:1≤n) {gf:Nat} {lb:Array Value} (hg:a.eval g=.func (.func gf) #[] lb) (hFg:F.fn gf) (eg:∀ args w,(callFunc gf args).run P0 w=.ok (.enter gf args) w)
  {Kp:World→World→Prop} {w0:World} {T:TypeId} (hseq:LV T F (n-1) P0 gf lb (ac3 P k s) Kp (aC P k s).length w0)
  (hKt:∀ {A B C:World},Kp A B→Kp B C→Kp A C) (hKb:∀ (W:World) (l:Nat) (o o':Obj),w.heap.size≤l→W.heap[l]?=some o→o.isCells=false→o.isWalk=false→Kp W (W.putObj l o')) (hb0:Below w0.heap.size w0 w) (hps:1=ps.size)
  (I:Nat→World→Prop) (Ix:Code→Nat→World→Prop) (hI:kQ T w.heap.size I) (hIx:∀ c,kQ T w.heap.size (Ix c)) (h0:I 0 w)
  (hassign:∀ (l i:Nat) (_:i<(aC P k s).length) (v:Value) (W:World) (K:Act→World→Prop),I i W→ac3 P k s i v W→(∀ a' W',KeepsFrom w.heap.size W W'→Kp W W'→I i W'→AxV a w.heap.size p j P k s i a' W'→K a' W') →
   assign.wpIn (F.inRound l) (n-1-1) P0 (Exit.then K (fun _ _ _=>False)) { tmps:=(ps.zip #[v]).foldl (fun t (p,v)=>t.setIfInBounds p v) a.tmps,defers:=[] } W)
  (hbody:∀ (l i:Nat) (_:i<(aC P k s).length) (a':Act) (W:World),w.heap.size≤l→I i W→AxV a w.heap.size p j P k s i a' W→body.wpIn (F.inRound l) (n-1-1) P0 (Jm w.heap.size Kp I Ix (aC P k s).length i W) a' W)
  (hdone:∀ (D:Nat) (W:World),w.heap.size≤D→I (aC P k s).length W→W.heap[D]?=some (.deferred (some []))→Q .normal { a with defers:={ target:=.collected D,args:=#[] } :: a.defers } W)
  (hstop:∀ (D:Nat) (c:Code) (i:Nat) (W:World),w.heap.size≤D→i<(aC P k s).length→Ix c i W→W.heap[D]?=some (.deferred (some []))→c.wpIn F n P0 Q { a with defers:={ target:=.collected D,args:=#[] } :: a.defers } W) :
  (Code.rangeFunc g ps assign body).wpIn F n P0 Q a w:=by
 refine uS hro h1 hg hFg eg hseq hKt hKb hb0 hps I Ix hI hIx h0 (AxV a w.heap.size p j P k s)
  (fun i a' _ X Y row hs hg hr=>by obtain ⟨B,x,sl,h1,h2,h3,h4,h5⟩:=hs;exact ⟨B,x,sl,h1,h2,iR hg hr h3,aaq h4 hg hr,h5⟩) ?_ ?_ hdone hstop
 ·intro l i hi v W K hi0 hv hK
  exact hassign l i hi v W K hi0 hv hK
 ·intro l i hi a' W hl _ hi0 hx
  exact hbody l i hi a' W hl hi0 hx
theorem uM {N:Nat} {A B C:World} (h:iM N A B) (k:iM N B C):iM N A C:=fun b o h1 h2 h3=>k b o h1 (h b o h1 h2 h3) h3
theorem Ae {N:Nat} (W:World) (l:Nat) (o o':Obj) (h:W.heap[l]?=some o) (ho:o.isCells=false):iM N W (W.putObj l o'):=fun b x _ h2 h3=>by
 have hne:l≠b:=by
  rintro rfl
  rw [h] at h2
  cases h2
  rw [ho] at h3
  cases h3
 simp only [World.putObj]
 rw [Array.getElem?_setIfInBounds,if_neg hne]
 exact h2
theorem nR {N:Nat} {W W':World} (h:Below W.heap.size W W'):iM N W W':=fun b _ _ h2 _=>(h.block b (lt_of_some h2)).trans h2
structure rX (wd:World) (bo be:Nat) (D:List (nW × Value)) (ds:List Nat) (P:bQ) (k:Nat) (s:Stp) (N0 N i:Nat) (W:World):Prop where
 ex:∃ vo D',iI wd bo be vo D' W∧D'.map (·.1)=D.map (·.1)++((aC P k s).take i).map (·.1)∧D'.length=D.length+i∧(i=0→∀ g,vo.ownBlock=some g→g<N0)
 ms:Marks wd.heap.size W ds
 sz:N≤W.heap.size
theorem rX.below {wd:World} {bo be:Nat} {D:List (nW × Value)} {ds:List Nat} {P:bQ} {k:Nat} {s:Stp} {N0 N i:Nat} {W W':World} (h:rX wd bo be D ds P k s N0 N i W) (hb:Below W.heap.size W W'):rX wd bo be D ds P k s N0 N i W':=by
 obtain ⟨vo,D',h1,h2,h3,h4⟩:=h.ex
 exact ⟨⟨vo,D',h1.below hb,h2,h3,h4⟩,h.ms.below hb,Nat.le_trans h.sz hb.size⟩
theorem rX.own {wd:World} {bo be:Nat} {D:List (nW × Value)} {ds:List Nat} {P:bQ} {k:Nat} {s:Stp} {N0 N:Nat} (hN:wd.heap.size≤N) (hds:∀ d∈ds,d<N):kQ 97 N (rX wd bo be D ds P k s N0 N):=by
 intro i X Y row h hg hr
 obtain ⟨vo,D',h1,h2,h3,h4⟩:=h.ex
 exact ⟨⟨vo,D',h1.own' hN hg hr,h2,h3,h4⟩,h.ms.same fun d hd=>hg.block d (h.ms.lt d hd) fun e=>by have:=(hr d e.symm).1;have:=hds d hd;omega,Nat.le_trans h.sz hg.size⟩
theorem jf {b:Nat} {W:World} {ds:List Nat} (h:Marks b W ds) {B j:Nat} {v:Value} {cs:Array Value} {t:TypeId} {fz:Nat × Nat} (hc:W.heap[B]?=some (.cells cs t fz)):Marks b (W.setCell ⟨B,j,none⟩ v) ds:=h.same fun D hD=>by
 have hne:D≠B:=by
  rintro rfl
  have:=(h.all D hD).2
  rw [hc] at this
  cases this
 rw [Below.heap_setCell _ _ _ _ hne]
theorem Ga {b:Nat} {W W':World} {row:Option Nat} {ds:List Nat} (h:Marks b W ds) (hg:W.grownBy W' row) (hr:∀ g,row=some g→∃ cs t fz,W.heap[g]?=some (.cells cs t fz)):Marks b W' ds:=h.same fun D hD=>hg.block D (h.lt D hD) fun e=>by
 obtain ⟨cs,t,fz,hc⟩:=hr D e.symm
 have:=(h.all D hD).2
 rw [hc] at this
 cases this
theorem Gb {B:Nat} {W W':World} {row:Option Nat} (hg:W.grownBy W' row) (hr:∀ g,row=some g→∃ cs t fz,W.heap[g]?=some (.cells cs t fz)):KeepsFrom B W W':=⟨hg.size,fun k o _ h ho=>(hg.block k (lt_of_some h) fun e=>by
 obtain ⟨cs,t,fz,hc⟩:=hr k e.symm
 rw [h] at hc
 cases hc
 cases ho).trans h⟩
theorem qC.set {W:World} {v:Value} {L:List QP} (h:qC W v L) {B j:Nat} {u:Value} {cs:Array Value} {t:TypeId} {fz:Nat × Nat} (hc:W.heap[B]?=some (.cells cs t fz)) (ht:t≠113):qC (W.setCell ⟨B,j,none⟩ u) v L:=h.kept fun b c f hb=>by
 have hne:b≠B:=by
  rintro rfl
  rw [hc] at hb
  cases hb
  exact ht rfl
 rw [Below.heap_setCell _ _ _ _ hne]
 exact hb
theorem rX.push {wd:World} {bo be:Nat} {D:List (nW × Value)} {ds:List Nat} {P:bQ} {k:Nat} {s:Stp} {N0 N i:Nat} {W0 w6:World} {vo vz r:Value} {D':List (nW × Value)} {x:nW × Bool} {cs:Array Value} {l5:World} {kk:Value} {o:Obj}
  (h1:iI wd bo be vo D' W0) (h2:D'.map (·.1)=D.map (·.1)++((aC P k s).take i).map (·.1)) (h3:D'.length=D.length+i) (h4:i=0→∀ g,vo.ownBlock=some g→g<N0) (hms:Marks wd.heap.size W0 ds) (hsz:N≤W0.heap.size) (hx:(aC P k s)[i]?=some x) (h2m:(aC P k s).length≤2) (hbc:bo<N0∧be<N0) (_hN0:N0≤W0.heap.size)
  (hb6:Below W0.heap.size (W0.alloc (.cells cs 46)) w6) (hc6:w6.heap[W0.heap.size]?=some (.cells cs 46 (0,0))) (hr:qC w6 r x.1.pg) (hB6:Below (W0.alloc (.cells cs 46)).heap.size (W0.alloc (.cells cs 46)) w6)
  (hkk:kk=.int .i64 0)
  (hg:(((w6.setCell ⟨W0.heap.size,2,none⟩ r).setCell ⟨be,0,none⟩ kk).alloc o).grownBy l5 vo.ownBlock)
  (hown:l5.ownsRow wd.heap.size 46 3 vz (D'.length+1) (Pf D' ++ [.int .i64 (x.1.k:Int),.string (us x.1.u),r])) :
  (KeepsFrom N W0 (l5.setCell ⟨bo,0,none⟩ vz)∧(i+1<(aC P k s).length→iM N0 W0 (l5.setCell ⟨bo,0,none⟩ vz))∧rX wd bo be D ds P k s N0 N (i+1) (l5.setCell ⟨bo,0,none⟩ vz))∧l5.heap[bo]?=some (.cells #[vo] 39 (0,0)):=by
 subst hkk
 have ha:=ae W0 (.cells cs 46)
 have ac4:Below W0.heap.size W0 w6:=ha.trans hb6
 have i6:=(h1.below ha).below hB6
 have hne:∀ g,vo.ownBlock=some g→g≠W0.heap.size:=fun g e=>by have:=(h1.own.lt g e).2;omega
 have i7:=i6.aeI h1.low.size hne hc6 2 r
 have i8:=i7.aeH
 have i9:=i8.below (ae _ o)
 have r7:=hr.set (j:=2) (u:=r) hc6 (by decide)
 have r8:=r7.set (j:=0) (u:=.int .i64 0) i7.eb (by decide)
 have r9:=r8.below (ae _ o)
 have hrow:∀ g,vo.ownBlock=some g→∃ cs t fz,((((w6.setCell ⟨W0.heap.size,2,none⟩ r).setCell ⟨be,0,none⟩ (.int .i64 0)).alloc o).heap[g]?=some (.cells cs t fz)):=fun g e=>by
  obtain ⟨c,f,hc⟩:=bD i9.own e
  exact ⟨_,_,_,hc⟩
 obtain ⟨hp,vM⟩:=i9.push (x:=(x.1,r)) r9 hg hown
 have m6:=hms.below ac4
 have m7:=jf (j:=2) (v:=r) m6 hc6
 have m8:=jf (j:=0) (v:=.int .i64 0) m7 i7.eb
 have m9:=m8.below (ae _ o)
 have m10:=Ga m9 hg hrow
 have m11:=jf (j:=0) (v:=vz) m10 vM
 have k1:KeepsFrom N W0 w6:=aM ac4
 have k2:=k1.trans ((KeepsOthers.setCell w6 ⟨W0.heap.size,2,none⟩ r).from N)
 have k3:=k2.trans ((KeepsOthers.setCell _ ⟨be,0,none⟩ (.int .i64 0)).from N)
 have k4:=k3.trans (aM (B:=N) (ae _ o))
 have k5:=k4.trans (Gb hg hrow)
 have k6:=k5.trans ((KeepsOthers.setCell l5 ⟨bo,0,none⟩ vz).from N)
 refine ⟨⟨k6,fun hi b ob hb ho _=>?_,⟨vz,D' ++ [(x.1,r)],hp,?_,by rw [List.length_append,h3,List.length_singleton];omega,fun h=>absurd h (Nat.succ_ne_zero _)⟩,m11,Nat.le_trans hsz k6.size⟩,vM⟩
 ·have hlt:=lt_of_some ho
  have h0:i=0:=by omega
  have e6:w6.heap[b]?=some ob:=(ac4.block b hlt).trans ho
  have e7:((w6.setCell ⟨W0.heap.size,2,none⟩ r).setCell ⟨be,0,none⟩ (.int .i64 0)).heap[b]?=some ob:=by
   rw [Below.heap_setCell _ _ _ _ (show b≠_ by show b≠be;omega),Below.heap_setCell _ _ _ _ (show b≠_ by show b≠W0.heap.size;omega)]
   exact e6
  have e8:=dM _ o e7
  have e9:l5.heap[b]?=some ob:=(hg.block b (lt_of_some e8) fun e=>by have:=h4 h0 b e.symm;omega).trans e8
  rw [Below.heap_setCell _ _ _ _ (show b≠_ by show b≠bo;omega)]
  exact e9
 ·rw [List.map_append,h2,List.take_add_one,hx,List.map_append,List.append_assoc]
  rfl
theorem oL {P:bQ} {k i:Nat} (hi:i<(aZ P k).length):(gy (aZ P k) i).k∈kinds∧bF (ai P k) (ai P (k+1)) (gy (aZ P k) i).k (gy (aZ P k) i).i (gy (aZ P k) i).j=true∧(gy (aZ P k) i).i≤(ai P k).length∧(gy (aZ P k) i).j≤(ai P (k+1)).length:=by
 rw [jZ hi]
 have hw:om (ai P k) (ai P (k+1)) 0 0 (aZ P k):=BH P.cs _ _
 obtain ⟨_,_,h1,h2⟩:=hw.low _ (List.getElem_mem hi)
 exact ⟨h1,h2,hw.high (Nat.zero_le _) (Nat.zero_le _) _ (List.getElem_mem hi)⟩
theorem Q8 {w:World} (vg va vt:Value) (P:bQ) (hO:dm P) (hP:l9 w vg va vt P) (hw:Good w) :
  Calls Tryz.prog 15 #[iX vg va vt P.cs] w fun e w'=>∃ v D,e=.returned (.tuple #[v,.int .i64 0])∧D.map (·.1)=j6 P∧Ip w' v D∧Below w.heap.size w w':=by
 refine (callsIn_wide (n:=10)).1 ?_
 have G5:=hid (fun W' (hb:Below w.heap.size w W')=>xH vg va vt P hO (hP.below hb) (hw.below hb))
 have U9:=hid (fun (k:Nat) (s:Stp) (hk:k+1<P.lg.length) W' (hb:Below w.heap.size w W')=>KL vg va vt P k s hk hO (hP.below hb))
 have HO:=hid hO
 obtain ⟨pg,cg,rfl,hcg,jK⟩:=hP.g.slice
 obtain ⟨pa,ca,rfl,ET,ma⟩:=hP.a.slice
 obtain ⟨oQ,ct,rfl,hct,mf⟩:=hP.t.slice
 have hn2:=hO.n2
 have xE:=hO.n20
 unfold maxLen at jK ma mf
 unfold iX oF at *
 clear hO hP
 generalize tx P.cs.ch=t1 at *
 generalize tx P.cs.mi=t2 at *
 generalize tx P.cs.ga=t3 at *
 generalize tx P.cs.re=t4 at *
 generalize (P.xs.map tx).length=na at *
 generalize (P.tp.map tx).length=nt at *
 generalize hn:P.lg.length=n at *
 have HN:=hid hn
 obtain ⟨m,hm⟩ : ∃ m,m=n-1:=⟨_,rfl⟩
 rw [←hm] at G5
 have Hf:=hid hm
 have UK:m≤20:=by omega
 obtain ⟨wA,aS⟩ : ∃ wA,wA=((w.alloc (Obj.cells #[.slice pg n cg,.slice pa na ca,.slice oQ nt ct,.string t1,.string t2,.string t3,.string t4] 37)).alloc (Obj.cells #[.slice none 0 0] 39)).alloc (Obj.cells #[.int .i64 0] 40):=⟨_,rfl⟩
 obtain ⟨aP,hsA,x0,x1,x2⟩:=dU aS
 have eF:=hid aP
 have HX:=hid (And.intro x0 (And.intro x1 x2))
 have LF:=hid aS
 obtain ⟨p0,p1,p2,p3,p4,p5,p6⟩:=au x0
 clear hn hm aS aP hsA x0 x1 x2
 refine callsIn_of_wp_marks Tryz.func15 rfl trivial ?_ rfl
 simp only [Tryz.ntmps15,List.size_toArray,List.length_cons,List.length_nil,Nat.reduceAdd,Nat.reduceSub,Array.replicate_succ,Array.replicate_zero,List.push_toArray,List.append_toArray,List.nil_append,List.cons_append]
 gi_upto_region 1 with fail
 rw [←LF.out]
 gi_wp2_with fail
 refine ⟨trivial,?_⟩
 refine (callsIn_wide.2 (G5.out wA eF.out)).mono ?_
 rintro e wd ⟨vl,rfl,hlk,hb1⟩
 have HLD:=hid hlk
 obtain ⟨pl,cl,rfl,hcl,gZ⟩:=hlk.slice
 unfold maxLen at gZ
 have je:=hid (eF.out.trans (hb1.mono eF.out.size))
 have ko:=hid (And.intro ((hb1.block _ (aa HX.out.1)).trans HX.out.1) (And.intro ((hb1.block _ (aa HX.out.2.1)).trans HX.out.2.1) ((hb1.block _ (aa HX.out.2.2)).trans HX.out.2.2)))
 obtain ⟨be,hbe⟩ : ∃ be,be=wd.heap.size:=⟨_,rfl⟩
 obtain ⟨bo,gU⟩ : ∃ bo,bo=wd.heap.size+1:=⟨_,rfl⟩
 obtain ⟨wI,Km⟩ : ∃ wI,wI=(wd.alloc (Obj.cells #[.int .i64 0] 40)).alloc (Obj.cells #[.slice none 0 0] 39):=⟨_,rfl⟩
 obtain ⟨Qx,hsI,y1,y2⟩:=jJ Km
 have HWI:=hid Km
 have Kr:=hid (show iI wd bo be (.slice none 0 0) [] wI from ⟨Qx,by rw [gU];exact y2,by rw [hbe];exact y1,World.ownsRow_nil _ _ _ _,fun x hx=>absurd hx List.not_mem_nil,by omega⟩)
 have xI:=hid hbe
 have uE:=hid gU
 clear hlk hb1 p0 p1 p2 p3 p4 p5 p6 Km Qx hsI y1 y2 hbe gU HX LF G5
 gi_upto_region 5 with fail
 rw [←HWI.out,←xI.out,show be+1=bo by rw [uE.out,xI.out]]
 gi_upto_region 6 with fail
 have ahz:=hid (show bo<wd.heap.size+2∧be<wd.heap.size+2 by have:=uE.out;have:=xI.out;omega)
 clear HWI xI uE
 refine dB (fun g a W=>∃ (k:Nat) (vo:Value) (D:List (nW × Value)) (ds:List Nat),Frm a [.k (.agg #[.slice pg n cg,.slice pa na ca,.slice oQ nt ct,.string t1,.string t2,.string t3,.string t4]),.k (.pointer (some ⟨w.heap.size,0,none⟩)),.k (.pointer (some ⟨w.heap.size+1,0,none⟩)),.k (.pointer (some ⟨w.heap.size+1+1,0,none⟩)),.k (.slice pl m cl),.k (.pointer (some ⟨be,0,none⟩)),.k (.pointer (some ⟨bo,0,none⟩)),.n 14,.k (.slice pl m cl),.k (.int .i64 (m:Int)),.k (.int .i64 (k:Int)),.n 38] ds∧iI wd bo be vo D W∧Marks wd.heap.size W ds∧D.map (·.1)=(List.range k).flatMap (pW P)∧D.length≤32*k∧k+g=m) m ?_ ?_
 ·exact ⟨0,_,[],[],.of rfl rfl,Kr.out,Marks.nil _ _,rfl,Nat.le_refl _,Nat.zero_add _⟩
 clear Kr
 intro g cc QQ hcc QA a W hI
 obtain ⟨k,hI⟩:=hI
 obtain ⟨vo,hI⟩:=hI
 obtain ⟨D,hI⟩:=hI
 obtain ⟨ds,hI⟩:=hI
 obtain ⟨ha,hinv,hms,hD,hDl,hkg⟩:=hI
 obtain ⟨uu,ha⟩:=ha
 subst ha hcc QA
 simp only [frS,frU,Nat.reduceAdd]
 have HI:=hid hinv
 have MP:=hid hms
 have HD:=hid hD
 clear hinv hms hD
 by_cases hk:k<m
 ·have HK:=hid (show k+1<P.lg.length by have:=Hf.out;have:=HN.out;omega)
  have kn:decide ((k:Int)<(m:Int))=true:=decide_eq_true (by omega)
  have Jc:decide (k<m)=true:=decide_eq_true hk
  have i1:(0:Int)≤(k:Int):=by omega
  have i2:(k:Int)<(m:Int):=by omega
  obtain ⟨b,off,u,rfl,hbl,c0,c1,hst⟩:=HLD.out.at hk
  have c0:=(HI.out.low.cell (p:=⟨b,off+k*2,none⟩) hbl).trans c0
  have c1:=(HI.out.low.cell (p:=⟨b,off+k*2+1,none⟩) hbl).trans c1
  have ac5:=Nat.lt_of_lt_of_le hbl HI.out.low.size
  obtain ⟨ps,cs,rfl,hcs,hcs2⟩:=hst.slice
  unfold maxLen at hcs2
  have HST:=hid hst
  have ac6:=xR HO.out HK.out
  generalize zb:(aZ P k).length=iL at *
  have Ff:=hid zb
  generalize tx (tY P k)=tt at *
  clear hst zb
  gi_upto_region 8 with fail
  obtain ⟨wB,iy⟩ : ∃ wB,wB=W.alloc (Obj.cells #[.slice ps iL cs,.string tt] 54):=⟨_,rfl⟩
  have il:Below W.heap.size W wB:=by rw [iy];exact ae _ _
  have hcB:wB.heap[W.heap.size]?=some (.cells #[.slice ps iL cs,.string tt] 54 (0,0)):=by rw [iy];exact World.alloc_heap_new _ _
  obtain ⟨a0,a1,_,_⟩:=aj hcB
  rw [←iy]
  have RN:=hid (HI.out.below il)
  have HMB:=hid (MP.out.below il)
  clear iy il hcB c0 c1
  gi_upto_region 9 with fail
  refine dB (fun g2 a W=>∃ (i:Nat) (vo:Value) (D:List (nW × Value)) (ds:List Nat),Frm a [.k (.agg #[.slice pg n cg,.slice pa na ca,.slice oQ nt ct,.string t1,.string t2,.string t3,.string t4]),.k (.pointer (some ⟨w.heap.size,0,none⟩)),.k (.pointer (some ⟨w.heap.size+1,0,none⟩)),.k (.pointer (some ⟨w.heap.size+1+1,0,none⟩)),.k (.slice (some ⟨b,off,none⟩) m cl),.k (.pointer (some ⟨be,0,none⟩)),.k (.pointer (some ⟨bo,0,none⟩)),.k (.int .i64 (k:Int)),.n 13,.k (.slice (some ⟨b,off,none⟩) m cl),.k (.int .i64 (m:Int)),.k (.int .i64 (k:Int)),.n 5,.k (.slice ps iL cs),.k (.int .i64 (iL:Int)),.k (.int .i64 (i:Int)),.n 30] ds∧iI wd bo be vo D W∧Marks wd.heap.size W ds∧D.map (·.1)=(List.range k).flatMap (pW P)++((aZ P k).take i).flatMap (fun s=>(aC P k s).map (·.1))∧D.length≤32*k+2*i∧i+g2=iL) iL ?_ ?_
  ·exact ⟨0,_,D,ds,.of rfl rfl,RN.out,HMB.out,by rw [HD.out];simp,by omega,Nat.zero_add _⟩
  clear RN HMB HI MP HD hDl a0 a1
  intro g2 cc QQ hcc QA a W hI
  obtain ⟨i,hI⟩:=hI
  obtain ⟨vo,hI⟩:=hI
  obtain ⟨D,hI⟩:=hI
  obtain ⟨ds,hI⟩:=hI
  obtain ⟨ha,hinv,hms,hD,hDl,hig⟩:=hI
  obtain ⟨uu,ha⟩:=ha
  subst ha hcc QA
  simp only [frS,frU,Nat.reduceAdd]
  have HI:=hid hinv
  have MP:=hid hms
  have HD:=hid hD
  clear hinv hms hD
  by_cases hi:i<iL
  ·have in1:decide ((i:Int)<(iL:Int))=true:=decide_eq_true (by omega)
   have in2:decide (i<iL)=true:=decide_eq_true hi
   have in3:(0:Int)≤(i:Int):=by omega
   have in4:(i:Int)<(iL:Int):=by omega
   have Gc:i<(aZ P k).length:=by rw [Ff.out];exact hi
   obtain ⟨hs1,hs2,hs3,hs4⟩:=oL Gc
   obtain ⟨b3,VK,rfl,KU,e0,e1,e2⟩:=(HST.out.below HI.out.low).at Gc
   obtain ⟨s,hs⟩ : ∃ s,s=gy (aZ P k) i:=⟨_,rfl⟩
   rw [←hs] at hs1 hs2 hs3 hs4 e0 e1 e2
   have HS:=hid hs
   have mF:=hid (And.intro hs1 (And.intro hs2 (And.intro hs3 hs4)))
   have HIL:=hid Gc
   clear hs1 hs2 hs3 hs4 hs Gc
   gi_upto_region 11 with fail
   obtain ⟨wC,EZ⟩ : ∃ wC,wC=W.alloc (Obj.cells #[.int .i64 (s.k:Int),.int .i64 (s.i:Int),.int .i64 (s.j:Int)] 57):=⟨_,rfl⟩
   obtain ⟨hbC,lC,g0,g1,g2'⟩:=aY EZ
   rw [←EZ]
   have LH:=hid (HI.out.below hbC)
   have HMC:=hid (MP.out.below hbC)
   have HNG:=hid (show ∀ g,vo.ownBlock=some g→g<wC.heap.size from fun g hg=>Nat.lt_of_lt_of_le (HI.out.own.lt g hg).2 hbC.size)
   have HXC:=hid ((LH.out.low.block _ (aa ko.out.1)).trans ko.out.1)
   obtain ⟨p0,p1,p2,p3,p4,p5,p6⟩:=au HXC.out
   clear EZ hbC e0 e1 e2
   gi_wp2_with fail
   refine ⟨trivial,?_⟩
   refine (callsIn_wide.2 (U9.out k s (by have:=HK.out;have:=HN.out;omega) wC (je.out.trans (LH.out.low.mono je.out.size)))).mono ?_
   rintro e wS ⟨Bs,Bl,Br,B1,B2,Bk,Bp,vl2,vr2,rfl,hE,hbS⟩
   have HE:=hid hE
   have HIS:=hid (LH.out.below hbS)
   have QE:=hid (show ∀ d∈ds,d<wS.heap.size from fun d hd=>Nat.lt_of_lt_of_le (HMC.out.lt d hd) hbS.size)
   have HP0:=hid (show rX wd bo be D ds P k s wC.heap.size wS.heap.size 0 wS from ⟨⟨vo,D,HIS.out,by simp,rfl,fun _=>HNG.out⟩,HMC.out.below hbS,Nat.le_refl _⟩)
   have qE:=hid (HIS.out.low)
   have DX:=hid (show bo<wC.heap.size∧be<wC.heap.size from ⟨aa LH.out.ob,aa LH.out.eb⟩)
   have CB:=hid hbS.size
   clear hE hbS p0 p1 p2 p3 p4 p5 p6 g0 g1 g2' lC
   gi_wp2
   refine mo (n:=10) 39 11 P k s rfl (by decide) (gf:=104) (lb:=#[.pointer (some ⟨Bs,0,none⟩),.pointer (some ⟨Bl,0,none⟩),.pointer (some ⟨Br,0,none⟩),.pointer (some ⟨B1,0,none⟩),.pointer (some ⟨B2,0,none⟩),.pointer (some ⟨Bk,0,none⟩)]) rfl trivial (enters_of Tryz.func104 (by kernel_rfl) rfl)
    (KS HK.out HO.out mF.out.1 mF.out.2.1 mF.out.2.2.1 mF.out.2.2.2 wS (hw.below (je.out.trans (qE.out.mono je.out.size))) HE.out)
    uM (fun W l o o' _ h ho _=>Ae W l o o' h ho) (Below.refl _ _) rfl
    (rX wd bo be D ds P k s wC.heap.size wS.heap.size) (fun _ _ _=>False) (rX.own qE.out.size QE.out) (fun _ _ _ _ _ hs _ _=>hs) HP0.out ?assign ?body ?done ?stop
   case assign =>
    rintro l i2 hi2 v W0 K hi0 ⟨x,hx,sl,rfl,hsl⟩ hK
    obtain ⟨R8,R9,rfl,aar,KV⟩:=hsl.slice
    have HI0:=hid hi0
    have HKC:=hid hK
    have HSL:=hid hsl
    have HXX:=hid hx
    generalize hlen:x.1.pg.length=nsl at *
    generalize hu:us x.1.u=u at *
    have HU:=hid hu
    clear hi0 hK hsl hx hu hlen
    gi_wp2
    refine HKC.out _ _ (aM (ae _ _)) (nR (ae _ _)) (HI0.out.below (ae _ _)) ⟨W0.heap.size,x,_,HI0.out.sz,HXX.out,by rw [HU.out];exact World.alloc_heap_new _ _,jC.below HSL.out (ae _ _),by rw [HU.out];rfl⟩
   case body =>
    rintro l i2 hi2 a' W0 hl hi0 ⟨B11,x,sl,ags,hx,Nw,hsl,rfl⟩
    simp only [List.setIfInBounds_toArray,List.set_cons_zero,List.set_cons_succ]
    obtain ⟨vo2,D2,h1,h2,h3,h4⟩:=hi0.ex
    obtain ⟨hlo,uf,uh,rfl,Q9,KW,_⟩:=Reads.bu h1.own
    unfold maxLen at KW
    obtain ⟨R8,R9,rfl,aar,KV⟩:=hsl.slice
    have hmem:x∈aC P k s:=List.mem_of_getElem? hx
    have hq4:=Dy HO.out HK.out mF.out.1 mF.out.2.1 mF.out.2.2.1 mF.out.2.2.2 x hmem
    have abx:=CV (P:=P) mF.out.1 mF.out.2.1 (HO.out.I6 k HK.out) (fun i hi=>((HO.out.log k (by have:=HK.out;omega)).1.pos i hi).2) (fun i hi=>((HO.out.log (k+1) HK.out).1.pos i hi).2) x hmem
    have Sa:=hid (hw.below (je.out.trans (h1.low.mono je.out.size)))
    have ZV:=hid (fun (W':World) (hb:Below W0.heap.size W0 W')=>KT (.slice R8 x.1.pg.length R9) x.1.pg (by have:=hq4.1;omega) (fun p hp=>⟨(hq4.2 p hp).1.ok (by decide),(hq4.2 p hp).2.ok (by decide)⟩) W' (Sa.out.below hb) (jC.below hsl hb))
    have HHU:=hid (fun (W':World) (hb:Below W0.heap.size W0 W')=>aan abx hq4.1 hq4.2 (.slice R8 x.1.pg.length R9) W' (Sa.out.below hb) (jC.below hsl hb))
    have HH:=hid (And.intro h1 (And.intro h2 (And.intro h3 h4)))
    have HI0:=hid hi0
    have HXX:=hid hx
    have hD2:D2.length≤32*20+2*16+2:=by have:=jM P k s;omega
    generalize hlen:x.1.pg.length=nsl at *
    generalize hu:us x.1.u=u at *
    have HU:=hid hu
    obtain ⟨z0,z1,z2,z3⟩:=iT Nw
    have lz:=aa Nw
    obtain ⟨wE,hwE⟩ : ∃ wE,wE=W0.alloc (Obj.cells #[.int .i64 (x.1.k:Int),.string u,.slice R8 nsl R9] 46):=⟨_,rfl⟩
    obtain ⟨VL,lE,b0,b1,b2⟩:=aY hwE
    have hcE:wE.heap[W0.heap.size]?=some (.cells #[.int .i64 (x.1.k:Int),.string u,.slice R8 nsl R9] 46 (0,0)):=by rw [hwE];exact World.alloc_heap_new _ _
    have Sb:=hid hwE
    have xI:=hid VL
    have YQ:=hid hcE
    unfold RV at ZV
    clear hi0 hx Nw hsl h1 h2 h3 h4 hmem hq4 abx hu hlen hwE VL hcE hlo
    gi_upto_region 14 with fail
    rw [←Sb.out]
    gi_wp2_with fail
    refine ⟨trivial,?_⟩
    refine (CallsIn.inRound l (callsIn_wide.2 (ZV.out wE xI.out))).mono ?_
    rintro e w5 ⟨rfl,hb5⟩
    have ze:=hid hb5
    have hc5:=(hb5.block _ (aa YQ.out)).trans YQ.out
    have HC5:=hid hc5
    obtain ⟨b0,b1,b2⟩:=az hc5
    clear hb5 hc5 z0 z1 z2 z3 lz lE
    gi_wp2_with fail
    refine ⟨trivial,?_⟩
    refine (CallsIn.inRound l (callsIn_wide.2 (HHU.out w5 (xI.out.trans (ze.out.mono xI.out.size))))).mono ?_
    rintro e w6 ⟨r,rfl,hr1,hr2,hb6⟩
    obtain ⟨pr,cr,rfl,_,_⟩:=hr1.slice
    have HR:=hid (show qC w6 (.slice pr x.1.pg.length cr) x.1.pg from ⟨hr1,hr2⟩)
    have Nz:=hid (ze.out.trans (hb6.mono ze.out.size))
    have hc6:=(hb6.block _ (aa HC5.out)).trans HC5.out
    have HC6:=hid hc6
    obtain ⟨b0,b1,b2⟩:=az hc6
    obtain ⟨fb0,fb1,fb2⟩:=bP hc6
    have HI6:=hid ((HH.out.1.below xI.out).below Nz.out)
    obtain ⟨ee,fe⟩:=one_cell HI6.out.eb
    have hne:be≠W0.heap.size:=by
     have:=aa HH.out.1.eb
     omega
    have hne':W0.heap.size≠be:=Ne.symm hne
    generalize x.1.pg.length=nr at *
    clear hr1 hr2 hb6 hc6
    gi_upto_region 17 with fail
    obtain ⟨w7,hw7⟩ : ∃ w7,w7=(w6.setCell ⟨W0.heap.size,2,none⟩ (.slice pr nr cr)).setCell ⟨be,0,none⟩ (.int .i64 0):=⟨_,rfl⟩
    have hneg:∀ g,(Value.slice uf D2.length uh).ownBlock=some g→g≠W0.heap.size:=fun g e=>by
     have:=(HH.out.1.own.lt g e).2
     omega
    have HI7:=hid (show iI wd bo be (.slice uf D2.length uh) D2 w7 by
     rw [hw7]
     exact (HI6.out.aeI HH.out.1.low.size hneg HC6.out 2 (.slice pr nr cr)).aeH)
    have hc7:w7.heap[W0.heap.size]?=some (.cells #[.int .i64 (x.1.k:Int),.string u,.slice pr nr cr] 46 (0,0)):=by
     rw [hw7,Below.heap_setCell _ _ _ _ hne']
     have:=aJ (i:=2) (.slice pr nr cr) HC6.out
     simpa using this
    have HW7:=hid hw7
    rw [←hw7]
    obtain ⟨b0,b1,b2⟩:=az hc7
    obtain ⟨ee,fe⟩:=one_cell HI7.out.eb
    obtain ⟨oo,fo⟩:=one_cell HI7.out.ob
    have hown:=HI7.out.own
    have hlow:=HI7.out.low.size
    obtain ⟨i0,hii,hz0,hz1,hz2⟩:=info_parts aap.info
    clear hw7 hc7 hneg hne hne' fb0 fb1 fb2
    generalize VM:D2.length=nd at *
    have VN:=hid VM
    clear VM
    have HPF:=hid (fun (vz:Value) (l5:World)=>rX.push (vz:=vz) (l5:=l5) (o:=.cells #[.int .i64 (x.1.k:Int),.string u,.slice pr nr cr] 46) (w6:=w6) (r:=.slice pr nr cr) (kk:=.int .i64 0) (x:=x) HH.out.1 HH.out.2.1 (VN.out.trans HH.out.2.2.1) HH.out.2.2.2 HI0.out.ms HI0.out.sz HXX.out (jM P k s) DX.out (Nat.le_trans CB.out HI0.out.sz) (by rw [←Sb.out];exact Nz.out.mono xI.out.size) HC6.out HR.out (by rw [←Sb.out];exact Nz.out) rfl)
    rw [←HW7.out,HU.out,VN.out] at HPF
    gi_wp2_with (gi_at_builtin;refine wpListIn_append_own _ rfl _ _ 39 rfl wd.heap.size 46 i0 (.agg #[.int .i64 0,.string ⟨#[]⟩,.slice none 0 0]) 3 48 aap.ht hii hz0 hz1 hz2 aap.hzs aap.hsz _ nd _ rfl (hown.alloc _) ⟨w7.heap.size,0,none⟩ 1 1 [.int .i64 (x.1.k:Int),.string u,.slice pr nr cr] rfl rfl (jw _ _ _ _ _) (by simp [Value.oneCell']) (by unfold maxLen;omega) (by omega) (by simpa using Nat.le_succ_of_le hlow) ?_;intro vz l5 l7 hgrow _;obtain ⟨g9,rO,rfl⟩:=ownsRow_succ l7;have Mj:=hid (HPF.out _ _ hgrow l7);obtain ⟨c1,f1⟩:=one_cell Mj.out.2;clear l7 hgrow hown hlow b0 b1 b2 ee fe oo fo)
    exact Mj.out.1
   case done =>
    intro Dk W0 hD0 hi0 hK
    obtain ⟨vo2,D2,h1,h2,h3,h4⟩:=hi0.ex
    have HR:=hid (show D2.map (·.1)=(List.range k).flatMap (pW P)++((aZ P k).take (i+1)).flatMap (fun s=>(aC P k s).map (·.1)) by
     rw [h2,HD.out,List.take_length,List.append_assoc]
     congr 1
     have Gc:=HIL.out
     rw [List.take_succ_eq_append_getElem Gc,List.flatMap_append,List.flatMap_singleton,←jZ Gc,←HS.out])
    have HH:=hid h1
    have HM:=hid (Marks.cons hi0.ms (show wd.heap.size≤Dk by have:=qE.out.size;omega) hK (fun h=>by have:=QE.out Dk h;omega))
    have hlen:D2.length≤32*k+2*(i+1):=by have:=jM P k s;omega
    have w5:IntKind.i64.wrap ((i:Int)+1)=(i:Int)+1:=IntWalk.i64_in _ (by omega)
    clear h1 h2 h3 h4 hi0 hK
    gi_wp2
    exact ⟨g2-1,by omega,i+1,_,D2,Dk :: ds,.of rfl rfl,HH.out,HM.out,HR.out,hlen,by omega⟩
   case stop =>
    rintro Dk c k2 W0 hD0 hk2 hf hK
    exact hf.elim
  ·obtain rfl:i=iL:=by omega
   have w5:IntKind.i64.wrap ((k:Int)+1)=(k:Int)+1:=IntWalk.i64_in _ (by omega)
   gi_wp2
   refine ⟨g-1,by omega,k+1,_,D,ds,.of rfl rfl,HI.out,MP.out,?_,by omega,by omega⟩
   rw [HD.out,List.range_succ,List.flatMap_append,List.flatMap_singleton]
   congr 1
   unfold pW
   rw [←Ff.out,List.take_length]
 ·obtain rfl:k=m:=by omega
  obtain ⟨hlo,uf,uh,rfl,Q9,KW,_⟩:=Reads.bu HI.out.own
  obtain ⟨oo,fo⟩:=one_cell HI.out.ob
  have hx1:=(HI.out.low.block _ (aa ko.out.2.1)).trans ko.out.2.1
  have hx2:=(HI.out.low.block _ (aa ko.out.2.2)).trans ko.out.2.2
  obtain ⟨r1,f1⟩:=one_cell hx1
  obtain ⟨r2,f2⟩:=one_cell hx2
  have HX1:=hid hx1
  have HX2:=hid hx2
  have hn1:w.heap.size+1<wd.heap.size:=aa ko.out.2.1
  have hn2:w.heap.size+1+1<wd.heap.size:=aa ko.out.2.2
  clear hx1 hx2
  gi_wp2
  have z1:=aJ (i:=0) (.slice uf D.length uh) HX1.out
  have z2':=(Below.heap_setCell W ⟨w.heap.size+1,0,none⟩ (.slice uf D.length uh) _ (show w.heap.size+1+1≠_ from Nat.succ_ne_self _)).trans HX2.out
  have z2:=aJ (i:=0) (.int .i64 0) z2'
  have z1':=(Below.heap_setCell (W.setCell ⟨w.heap.size+1,0,none⟩ (.slice uf D.length uh)) ⟨w.heap.size+1+1,0,none⟩ (.int .i64 0) _ (show w.heap.size+1≠_ from (Nat.succ_ne_self _).symm)).trans z1
  have hne:∀ b,b<wd.heap.size→(Value.slice uf D.length uh).ownBlock=none∨(Value.slice uf D.length uh).ownBlock≠some b:=fun b hb=>by
   cases h:(Value.slice uf D.length uh).ownBlock with
   | none=>exact .inl rfl
   | some g =>
    right
    intro e
    have h1:=(HI.out.own.lt g h).1
    have h2:g=b:=by cases e;rfl
    omega
  have hown:((W.setCell ⟨w.heap.size+1,0,none⟩ (.slice uf D.length uh)).setCell ⟨w.heap.size+1+1,0,none⟩ (.int .i64 0)).ownsRow wd.heap.size 46 3 (.slice uf D.length uh) D.length (Pf D):=(HI.out.own.kept (bK _ _ _ (.slice uf D.length uh)) (hne _ hn1)).kept (bK _ _ _ (.int .i64 0)) (hne _ hn2)
  have hpt:∀ x∈D,qC ((W.setCell ⟨w.heap.size+1,0,none⟩ (.slice uf D.length uh)).setCell ⟨w.heap.size+1+1,0,none⟩ (.int .i64 0)) x.2 x.1.pg:=fun x hx=>((HI.out.pts x hx).set (j:=0) (u:=.slice uf D.length uh) HX1.out (by decide)).set (j:=0) (u:=.int .i64 0) z2' (by decide)
  have hms:=jf (j:=0) (v:=.int .i64 0) (jf (j:=0) (v:=.slice uf D.length uh) MP.out HX1.out) z2'
  have hlo:Below w.heap.size w ((W.setCell ⟨w.heap.size+1,0,none⟩ (.slice uf D.length uh)).setCell ⟨w.heap.size+1+1,0,none⟩ (.int .i64 0)):=
   ((je.out.trans (HI.out.low.mono je.out.size)).setCell (p:=⟨w.heap.size+1,0,none⟩) (Nat.le_succ _) _).setCell (p:=⟨w.heap.size+1+1,0,none⟩) (Nat.le_succ_of_le (Nat.le_succ _)) _
  generalize (W.setCell ⟨w.heap.size+1,0,none⟩ (.slice uf D.length uh)).setCell ⟨w.heap.size+1+1,0,none⟩ (.int .i64 0)=WZ at *
  refine ic ds WZ hms (fun W' hs=>?_)
  obtain ⟨q1,_⟩:=one_cell (hs.2 _ _ z1' rfl)
  obtain ⟨q2,_⟩:=one_cell (hs.2 _ _ z2 rfl)
  refine ⟨.tuple #[.slice uf D.length uh,.int .i64 0],by simp [results,Tryz.results15,go_sem,q1,q2],_,D,rfl,?_,?_,hlo.trans (hs.1.mono je.out.size)⟩
  ·rw [HD.out]
   unfold j6
   rw [Hf.out,HN.out]
  refine EA (base:=wd.heap.size) (e:=46) ⟨hown.1,?_⟩ (fun x hx=>(hpt x hx).kept fun b c f hb=>hs.2 _ _ hb rfl)
  rcases hown.2 with h2 | ⟨g,cap,cur,e1,e2,e3,r⟩
  ·exact .inl h2
  ·exact .inr ⟨g,cap,cur,e1,e2,hs.2 _ _ e3 rfl,r⟩
end Go.Proofs.YtglncfkoohgdaaaGreatDoor
