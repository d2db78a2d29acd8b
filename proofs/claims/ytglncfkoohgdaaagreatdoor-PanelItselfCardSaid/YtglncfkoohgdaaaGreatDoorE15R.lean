import Derived.Test.YtglncfkoohgdaaaGreatDoorE7R
import Derived.Test.YtglncfkoohgdaaaGreatDoorE13R
import Derived.OwnWalkIn
set_option maxRecDepth 100000
set_option maxHeartbeats 8000000
namespace Go.Proofs.YtglncfkoohgdaaaGreatDoor
open Go.RowKit Go.Shelf
open Go.Lib (decDigits itoa nDigits)
open Go.Lib (hid)
attribute [local go_sem] Oper.semAt_some
theorem ZP (Bq Br Bi Bj B m:Nat) (r:Nat→Nat) (b0:Nat) (wd:World) (C:Cs) (L R:List Iv) (i j:Nat) (hi:i≤L.length) (hj:j≤R.length) (hne:¬ (i=L.length∧j=R.length)) (hQ:QSz C L R) (vl vr:Value) (hvl:gm wd vl L) (eO:gm wd vr R) (hw:Good wd)
  (hm:m=L.length+1) (hT:TabAt b0 wd B r m (R.length+1) (fun a b=>some (bI C L R a b))) (wS:World) (hbS:Below wd.heap.size wd wS)
  (hq:wS.heap[Bq]?=some (OA vl vr C)) (hbr:wS.heap[Br]?=some (Fb B m)) (hbi:wS.heap[Bi]?=some (dO i)) (hbj:wS.heap[Bj]?=some (dO j)) :
  LU 97 Fence.wide 9 Tryz.prog 191 #[.pointer (some ⟨Bq,0,none⟩),.pointer (some ⟨Bi,0,none⟩),.pointer (some ⟨Bj,0,none⟩),.pointer (some ⟨Br,0,none⟩)] #[oF (eX C L R i j) i j] wS:=by
 intro l J Jx W hW hJ hJx hY h0
 exact UB l Bq Br Bi Bj B m r b0 wd C L R i j hi hj hne hQ vl vr hvl eO hw hm hT J Jx W (hbS.trans (hW.mono hbS.size)) hJ hJx hY ((hW.block _ (aa hq)).trans hq) ((hW.block _ (aa hbr)).trans hbr) ((hW.block _ (aa hbi)).trans hbi) ((hW.block _ (aa hbj)).trans hbj) h0
theorem jJ {W wS:World} {a b:Obj} (h:wS=(W.alloc a).alloc b):Below W.heap.size W wS∧wS.heap.size=W.heap.size+2∧wS.heap[W.heap.size]?=some a∧wS.heap[W.heap.size+1]?=some b:=by
 have e0:(W.alloc a).heap[W.heap.size]?=some a:=World.alloc_heap_new _ _
 have s1:(W.alloc a).heap.size=W.heap.size+1:=by simp
 have e1:((W.alloc a).alloc b).heap[W.heap.size+1]?=some b:=by rw [←s1];exact World.alloc_heap_new _ _
 have b1:=ae W a
 have b2:=ae (W.alloc a) b
 rw [h]
 exact ⟨b1.trans (b2.mono b1.size),by simp,(b2.block _ (by rw [s1];omega)).trans e0,e1⟩
theorem nk {W:World} {b:Nat} {vs:Value} {s:ByteArray} (h:W.heap[b]?=some (kJ vs s)):W.cell? ⟨b,0,none⟩=some vs∧W.cell? ⟨b,1,none⟩=some (.string s)∧W.frozen? ⟨b,0,none⟩=false∧W.frozen? ⟨b,1,none⟩=false:=aj h
def AxB (a:Act) (N p j:Nat) (k i jj:Nat) (a':Act) (W:World):Prop:=
 ∃ B6,N≤B6∧W.heap[B6]?=some (.cells #[.int .i64 (k:Int),.int .i64 (i:Int),.int .i64 (jj:Int)] 57 (0,0)) ∧
  a'={ tmps:=(a.tmps.setIfInBounds p (oF k i jj)).setIfInBounds j (.pointer (some ⟨B6,0,none⟩)),defers:=[] }
theorem ZQ {a:Act} {N p j k i jj:Nat} (a':Act):OwnFrom N (fun (_:Unit) W=>AxB a N p j k i jj a' W):=fun _ X Y row hs hg hr=>by
 obtain ⟨B6,h1,h2,h3⟩:=hs
 exact ⟨B6,h1,iR hg hr h2,h3⟩
theorem vG {F:Fence} {n:Nat} {P:Program} {g:Operand} {ps:Array Tmp} {assign body:Code} {Q:Exit→Act→World→Prop} {a:Act} {w:World} (p j k i jj:Nat)
  (hro:F.round=none) (h1:1≤n) {gf:Nat} {lb:Array Value} (hg:a.eval g=.func (.func gf) #[] lb) (hFg:F.fn gf) (eg:∀ args w,(callFunc gf args).run P w=.ok (.enter gf args) w)
  {w0:World} {T:TypeId} (hseq:LU T F (n-1) P gf lb #[oF k i jj] w0) (hb0:Below w0.heap.size w0 w) (hps:1=ps.size)
  (I:Unit→World→Prop) (Ix:Code→Unit→World→Prop) (hI:kQ T w.heap.size I) (hIx:∀ c,kQ T w.heap.size (Ix c)) (h0:I () w)
  (hassign:∀ (l:Nat) (W:World) (K:Act→World→Prop),I () W→(∀ a' W',KeepsFrom w.heap.size W W'→I () W'→AxB a w.heap.size p j k i jj a' W'→K a' W') →
   assign.wpIn (F.inRound l) (n-1-1) P (Exit.then K (fun _ _ _=>False)) { tmps:=(ps.zip #[oF k i jj]).foldl (fun t (p,v)=>t.setIfInBounds p v) a.tmps,defers:=[] } W)
  (hbody:∀ (l:Nat) (a':Act) (W:World),w.heap.size≤l→I () W→AxB a w.heap.size p j k i jj a' W→body.wpIn (F.inRound l) (n-1-1) P (Jl w.heap.size Ix W) a' W)
  (hstop:∀ (D:Nat) (c:Code) (W:World),w.heap.size≤D→Ix c () W→W.heap[D]?=some (.deferred (some []))→c.wpIn F n P Q { a with defers:={ target:=.collected D,args:=#[] } :: a.defers } W) :
  (Code.rangeFunc g ps assign body).wpIn F n P Q a w:=
 uR hro h1 hg hFg eg hseq hb0 hps I Ix hI hIx h0 (AxB a w.heap.size p j k i jj) (fun a'=>ZQ a') hassign hbody hstop
theorem OG {w:World} (vl vr:Value) (C:Cs) (L R:List Iv) (hL:Cx L) (hR:Cx R) (hl:L.length≤60) (hr:R.length≤60) (hC:acm C) (hQ:QSz C L R) (h0:oz (bI C L R 0 0)) (hvl:gm w vl L) (eO:gm w vr R) (hw:Good w) :
  Calls Tryz.prog 53 #[uC vl vr C] w fun e w'=>∃ vs,e=.returned (.tuple #[.agg #[vs,.string (tx (bI C L R 0 0))],.int .i64 0])∧kz w' vs (kG C L R 0 0)∧Below w.heap.size w w':=by
 refine (callsIn_wide (n:=10)).1 ?_
 have HCH:=hid (fun W' (hb:Below w.heap.size w W')=>Kq vl vr C L R hL hR hl hr hC (hvl.below hb) (eO.below hb) (hw.below hb))
 have HRE:=hid (fun W' (hb:Below w.heap.size w W')=>Uv vl vr C L R hQ (hvl.below hb) (eO.below hb) (hw.below hb))
 have Zz:=hid (fun W' (hg:Good W')=>UE (bI C L R 0 0) h0 W' hg)
 have HGD:=hid (fun (B m i j:Nat) W' (hb:Below w.heap.size w W')=>ZL 9 vl vr C B m i j W' L R (hvl.below hb) (eO.below hb))
 have HGA:=hid (fun (Bq Br Bi Bj B m:Nat) (r:Nat→Nat) (b0:Nat) (wd:World) (hb:Below w.heap.size w wd) (i j:Nat) hi hj hne hm hT wS hbS=>ZP Bq Br Bi Bj B m r b0 wd C L R i j hi hj hne hQ vl vr (hvl.below hb) (eO.below hb) (hw.below hb) hm hT wS hbS)
 have Eu:=hid (And.intro hl hr)
 obtain ⟨s0,hs0⟩ : ∃ s,s=tx (bI C L R 0 0):=⟨_,rfl⟩
 have Uy:=hid hs0
 obtain ⟨pl,cl,rfl,hcl,hcm⟩:=hvl.slice
 obtain ⟨pr,cr,rfl,gZ,hcm2⟩:=eO.slice
 unfold maxLen at hcm hcm2
 obtain ⟨m,hm⟩ : ∃ m,m=L.length+1:=⟨_,rfl⟩
 obtain ⟨n,hn⟩ : ∃ n,n=R.length+1:=⟨_,rfl⟩
 rw [←hm,←hn] at HRE
 rw [←hs0] at Zz ⊢
 have HM:=hid (And.intro hm hn)
 have m0:(0:Int)<(m:Int):=by omega
 have n0:(0:Int)<(n:Int):=by omega
 have m1:m≤61:=by omega
 have n1:n≤61:=by omega
 unfold OA at HGA HGD
 unfold uC at *
 unfold RV at *
 clear hvl eO hQ h0 hs0 hL hR hC hm hn
 generalize ht1:tx C.ch=t1 at *
 generalize ht2:tx C.mi=t2 at *
 generalize ht3:tx C.ga=t3 at *
 generalize Us:tx C.re=t4 at *
 have Qy:=hid (And.intro ht1 (And.intro ht2 (And.intro ht3 Us)))
 clear ht1 ht2 ht3 Us
 obtain ⟨wA,aS⟩ : ∃ wA,wA=(w.alloc (Obj.cells #[.slice pl L.length cl,.slice pr R.length cr,.string t1,.string t2,.string t3,.string t4] 122)).alloc (kJ (.slice none 0 0) ⟨#[]⟩):=⟨_,rfl⟩
 obtain ⟨aP,hsA,hqA,vN⟩:=jJ aS
 unfold kJ at aS
 have eF:=hid aP
 have HQA:=hid hqA
 have yN:=hid vN
 have LF:=hid aS
 refine callsIn_of_wp_marks Tryz.func53 rfl trivial ?_ rfl
 simp only [Tryz.ntmps53,List.size_toArray,List.length_cons,List.length_nil,Nat.reduceAdd,Nat.reduceSub,Array.replicate_succ,Array.replicate_zero,List.push_toArray,List.append_toArray,List.nil_append,List.cons_append]
 obtain ⟨q0,q1,q2,q3,q4,q5⟩:=aW hqA
 clear aP hsA hqA vN aS
 gi_upto_region 1 with fail
 rw [←LF.out]
 gi_wp2_with fail
 refine ⟨trivial,?_⟩
 refine (callsIn_wide.2 (HCH.out wA eF.out)).mono ?_
 rintro e w1 ⟨rfl,hb1⟩
 have HB1:=hid (eF.out.trans (hb1.mono eF.out.size))
 have hq1:=(hb1.block _ (aa HQA.out)).trans HQA.out
 have HQ1:=hid hq1
 have HR1:=hid ((hb1.block _ (aa yN.out)).trans yN.out)
 obtain ⟨q0,q1,q2,q3,q4,q5⟩:=aW hq1
 clear hb1 hq1 LF
 gi_wp2_with fail
 refine ⟨trivial,?_⟩
 refine (callsIn_wide.2 (callsIn_wide.1 (HRE.out w1 HB1.out))).mono ?_
 rintro e w2 ⟨B,r,rfl,R3,hb2⟩
 have HB2:=hid (HB1.out.trans (hb2.mono HB1.out.size))
 have hq2:=(hb2.block _ (aa HQ1.out)).trans HQ1.out
 have HQ2:=hid hq2
 have HR2:=hid ((hb2.block _ (aa HR1.out)).trans HR1.out)
 have HT2:=hid R3
 have ea:=R3.outer.cell (i:=0) (by omega)
 have eb:w2.cell? ⟨r 0,0,none⟩=some (.string (tx (bI C L R 0 0))):=(R3.rows 0 (by omega)).cell (i:=0) (by omega)
 rw [←Uy.out] at eb
 clear hb2 hq2 R3 q0 q1 q2 q3 q4 q5
 gi_wp2_with fail
 refine ⟨trivial,?_⟩
 refine (callsIn_wide.2 (Zz.out w2 (hw.below HB2.out))).mono ?_
 rintro e wd ⟨rfl,hb3⟩
 have je:=hid (HB2.out.trans (hb3.mono HB2.out.size))
 have HQD:=hid ((hb3.block _ (aa HQ2.out)).trans HQ2.out)
 have HRD:=hid ((hb3.block _ (aa HR2.out)).trans HR2.out)
 have HTD:=hid (HT2.out.below hb3)
 obtain ⟨bo,gU⟩ : ∃ bo,bo=wd.heap.size:=⟨_,rfl⟩
 obtain ⟨wO,RY⟩ : ∃ wO,wO=wd.alloc (kJ (.slice none 0 0) s0):=⟨_,rfl⟩
 have ZJ:Below wd.heap.size wd wO:=by rw [RY];exact ae _ _
 have Uw:wO.heap[wd.heap.size]?=some (kJ (.slice none 0 0) s0):=by rw [RY];exact World.alloc_heap_new _ _
 have hsO:wO.heap.size=wd.heap.size+1:=by rw [RY];simp
 unfold kJ at RY
 have HWO:=hid RY
 have HSO:=hid hsO
 have uE:=hid ZJ
 have HOO:=hid Uw
 have HEO:=hid gU
 clear ea eb hb3 RY ZJ Uw gU hsO
 gi_upto_region 9 with fail
 rw [←HWO.out,←HEO.out]
 gi_upto_region 10 with fail
 obtain ⟨wI,Km⟩ : ∃ wI,wI=(wO.alloc (Obj.cells #[.int .i64 0] 3)).alloc (Obj.cells #[.int .i64 0] 3):=⟨_,rfl⟩
 obtain ⟨Qx,hsI,hiI,hjI⟩:=jJ Km
 rw [←Km]
 have Kr:=hid (show BInv wd bo s0 (.slice none 0 0) [] 0 0 wO.heap.size (wO.heap.size+1) [] wI from
  ⟨uE.out.trans (Qx.mono uE.out.size),by rw [HEO.out];exact (Qx.block _ (by have:=HSO.out;omega)).trans HOO.out,World.ownsRow_nil _ _ _ _,hiI,hjI,Marks.nil _ _,by have:=HEO.out;have:=HSO.out;omega⟩)
 clear Km Qx hsI hiI hjI HWO HSO uE HOO HEO
 refine dB (fun g a W=>∃ (i j bi bj:Nat) (vs:Value) (pre:List Stp) (ds:List Nat),Frm a [.k (.agg #[.slice pl L.length cl,.slice pr R.length cr,.string t1,.string t2,.string t3,.string t4]),.k (.pointer (some ⟨w.heap.size,0,none⟩)),.k (.pointer (some ⟨w.heap.size+1,0,none⟩)),.k (.int .i64 0),.k (.int .i64 0),.k (.slice (some ⟨B,0,none⟩) m m),.k (.string s0),.k (.int .i64 0),.k (.pointer (some ⟨bo,0,none⟩)),.k (.pointer (some ⟨bi,0,none⟩)),.k (.pointer (some ⟨bj,0,none⟩)),.n 56] ds∧BInv wd bo s0 vs pre i j bi bj ds W∧i≤L.length∧j≤R.length∧pre++kG C L R i j=kG C L R 0 0∧pre.length≤i+j∧g+(i+j)=L.length+R.length) (L.length+R.length) ?_ ?_
 ·exact ⟨0,0,_,_,_,[],[],.of rfl rfl,Kr.out,Nat.zero_le _,Nat.zero_le _,rfl,Nat.zero_le _,by omega⟩
 clear Kr
 intro g cc QQ hcc QA a W hI
 obtain ⟨i,hI⟩:=hI
 obtain ⟨j,hI⟩:=hI
 obtain ⟨bi,hI⟩:=hI
 obtain ⟨bj,hI⟩:=hI
 obtain ⟨vs,hI⟩:=hI
 obtain ⟨pre,hI⟩:=hI
 obtain ⟨ds,hI⟩:=hI
 obtain ⟨ha,hinv,hil,hjl,hpre,hpl,hg⟩:=hI
 obtain ⟨uu,ha⟩:=ha
 subst ha hcc QA
 simp only [frS,frU,Nat.reduceAdd]
 obtain ⟨pv,cv,rfl,hcv,MW⟩:=(uF hinv.own).slice
 unfold maxLen at MW
 have HI:=hid hinv
 have FB:=hid hpre
 have hqW:=(hinv.low.block _ (aa HQD.out)).trans HQD.out
 have HQW:=hid hqW
 obtain ⟨q0,q1,q2,q3,q4,q5⟩:=aW hqW
 have z0:=bL hinv.hbi
 have z1:=bL hinv.hbj
 have hlr:=Eu.out
 clear hinv hpre hqW
 by_cases hend:i=L.length∧j=R.length
 ·obtain ⟨rfl,rfl⟩:=hend
  have d1:decide ((L.length:Int)<(L.length:Int))=false:=decide_eq_false (by omega)
  have d2:decide ((R.length:Int)<(R.length:Int))=false:=decide_eq_false (by omega)
  have vM:=nk HI.out.ob
  have hrr:=(HI.out.low.block _ (aa HRD.out)).trans HRD.out
  have hrb:=nk hrr
  obtain ⟨o1,o2,_,_⟩:=vM
  obtain ⟨_,_,r3,r4⟩:=hrb
  have HRR:=hid hrr
  clear hrr
  gi_wp2
  have hz:=aV (.string s0) (aU (.slice pv pre.length cv) HRR.out)
  have hlt:w.heap.size+1<wd.heap.size:=aa HRD.out
  have hown:((W.setCell ⟨w.heap.size+1,0,none⟩ (.slice pv pre.length cv)).setCell ⟨w.heap.size+1,1,none⟩ (.string s0)).ownsRow wd.heap.size 57 3 (.slice pv pre.length cv) pre.length (fP pre):=by
   have hne:(Value.slice pv pre.length cv).ownBlock=none∨(Value.slice pv pre.length cv).ownBlock≠some (w.heap.size+1):=by
    cases h:(Value.slice pv pre.length cv).ownBlock with
    | none=>exact .inl rfl
    | some g =>
     right
     intro e
     have h1:=(HI.out.own.lt g h).1
     have h2:g=w.heap.size+1:=by cases e;rfl
     omega
   exact (HI.out.own.kept (bK _ _ _ _) hne).kept (bK _ _ _ _) hne
  have hms:Marks wd.heap.size ((W.setCell ⟨w.heap.size+1,0,none⟩ (.slice pv pre.length cv)).setCell ⟨w.heap.size+1,1,none⟩ (.string s0)) ds:=HI.out.ms.same fun D hD=>by
   have h1:=(HI.out.ms.all D hD).1
   rw [Below.heap_setCell _ _ _ _ (show D≠_ by intro e;simp at e;omega),Below.heap_setCell _ _ _ _ (show D≠_ by intro e;simp at e;omega)]
  have hlo:Below w.heap.size w ((W.setCell ⟨w.heap.size+1,0,none⟩ (.slice pv pre.length cv)).setCell ⟨w.heap.size+1,1,none⟩ (.string s0)):=
   ((je.out.trans (HI.out.low.mono je.out.size)).setCell (p:=⟨w.heap.size+1,0,none⟩) (Nat.le_succ _) _).setCell (p:=⟨w.heap.size+1,1,none⟩) (Nat.le_succ _) _
  generalize (W.setCell ⟨w.heap.size+1,0,none⟩ (.slice pv pre.length cv)).setCell ⟨w.heap.size+1,1,none⟩ (.string s0)=WZ at *
  refine ic ds WZ hms (fun W' hs=>?_)
  obtain ⟨q0,q1,_,_⟩:=aj (hs.2 _ _ hz rfl)
  have hpq:pre=kG C L R 0 0:=by have h:=FB.out;rwa [yu,List.append_nil] at h
  refine ⟨.tuple #[.agg #[.slice pv pre.length cv,.string s0],.int .i64 0],by simp [results,Tryz.results53,go_sem,q0,q1],_,rfl,?_,hlo.trans (hs.1.mono je.out.size)⟩
  rw [←hpq]
  refine uF (base:=wd.heap.size) ⟨hown.1,?_⟩
  rcases hown.2 with h2 | ⟨g,cap,cur,e1,e2,e3,r⟩
  ·exact .inl h2
  ·exact .inr ⟨g,cap,cur,e1,e2,hs.2 _ _ e3 rfl,r⟩
 ·gi_upto_region 10 with fail
  try dsimp only
  gi_cut [46] from 35 (fun s46 wx=>s46=.bool true∧wx=W)
  case first =>
   by_cases hi1:i<L.length
   ·have d1:decide ((i:Int)<(L.length:Int))=true:=decide_eq_true (by omega)
    have d2:decide (i<L.length)=true:=decide_eq_true hi1
    gi_wp2_with fail
    gi_meet
    exact ⟨rfl,rfl⟩
   ·have d1:decide ((i:Int)<(L.length:Int))=false:=decide_eq_false (by omega)
    have d2:decide (i<L.length)=false:=decide_eq_false hi1
    have d3:decide ((j:Int)<(R.length:Int))=true:=decide_eq_true (by omega)
    have d4:decide (j<R.length)=true:=decide_eq_true (by omega)
    gi_wp2_with fail
    gi_meet
    exact ⟨rfl,rfl⟩
  case rest =>
  obtain ⟨af4,hwx⟩:=hcut
  have af5:=hwx.symm
  clear hwx
  subst af4 af5
  gi_wp2_with fail
  refine ⟨trivial,?_⟩
  refine (HGD.out B m i j W (je.out.trans (HI.out.low.mono je.out.size))).mono ?_
  rintro e wS ⟨rfl,qV⟩
  obtain ⟨hbS,I5,k1,k2,k3,k4⟩:=MV qV
  have HK:=hid (And.intro k1 (And.intro k2 (And.intro k3 k4)))
  have HIS:=hid (HI.out.below hbS)
  have qE:=hid (HI.out.low.trans (hbS.mono HI.out.low.size))
  have QE:=hid (show ∀ D∈ds,D<wS.heap.size from fun D hD=>Nat.lt_of_lt_of_le (HI.out.ms.lt D hD) hbS.size)
  have tQ:=hid hend
  clear qV hbS I5 k1 k2 k3 k4 q0 q1 q2 q3 q4 q5 z0 z1 hend
  gi_wp2
  obtain ⟨hk1,hk2,_⟩:=lN (C:=C) hil hjl tQ.out
  obtain ⟨hn1,hn2,hn3⟩:=fU hk1 (lH hk2) hil hjl
  have HKN:=hid (And.intro hk1 (And.intro hn1 (And.intro hn2 hn3)))
  have HSQ:=hid (HGA.out W.heap.size (W.heap.size+1) (W.heap.size+2) (W.heap.size+3) B m r _ wd je.out i j hil hjl tQ.out HM.out.1 (by rw [←HM.out.2];exact HTD.out) wS qE.out HK.out.1 HK.out.2.1 HK.out.2.2.1 HK.out.2.2.2)
  obtain ⟨kk,hkk⟩ : ∃ kk,kk=eX C L R i j:=⟨_,rfl⟩
  have HKK:=hid hkk
  rw [←hkk] at HSQ HKN
  clear hk1 hk2 hn1 hn2 hn3 hkk
  refine vG (n:=10) 52 11 kk i j rfl (by decide) (gf:=191) (lb:=#[.pointer (some ⟨W.heap.size,0,none⟩),.pointer (some ⟨W.heap.size+2,0,none⟩),.pointer (some ⟨W.heap.size+3,0,none⟩),.pointer (some ⟨W.heap.size+1,0,none⟩)]) rfl trivial (enters_of Tryz.func191 (by kernel_rfl) rfl)
   HSQ.out (Below.refl _ _) rfl
   (fun _ W'=>BInv wd bo s0 (.slice pv pre.length cv) pre i j bi bj ds W'∧wS.heap.size≤W'.heap.size)
   (fun c _ W'=>c=.exit 2∧(∃ vz,BInv wd bo s0 vz (pre ++ [⟨kk,i,j⟩]) (gD kk i) (iD kk j) bi bj ds W')∧wS.heap.size≤W'.heap.size)
   (fun _ X Y row hs hg hr=>⟨hs.1.own' qE.out.size QE.out hg hr,Nat.le_trans hs.2 hg.size⟩)
   (fun c _ X Y row hs hg hr=>⟨hs.1,by obtain ⟨vz,h⟩:=hs.2.1;exact ⟨vz,h.own' qE.out.size QE.out hg hr⟩,Nat.le_trans hs.2.2 hg.size⟩)
   ⟨HIS.out,Nat.le_refl _⟩ ?assign ?body ?stop
  case assign =>
   rintro l W0 K ⟨hi0,hsz⟩ hK
   have HI0:=hid hi0
   have HKC:=hid hK
   simp only [oF]
   clear hi0 hK
   gi_wp2
   exact HKC.out _ _ (aM (ae _ _)) ⟨HI0.out.below (ae _ _),by simp;omega⟩ ⟨W0.heap.size,hsz,World.alloc_heap_new _ _,rfl⟩
  case body =>
   rintro l a' W0 hl ⟨hi0,hsz⟩ ⟨B6,hB6,hd6,rfl⟩
   simp only [List.setIfInBounds_toArray,List.set_cons_zero,List.set_cons_succ,oF]
   have HI0:=hid hi0
   have HD6:=hid hd6
   have vC:=hid (fun W'=>xz kk i j HKN.out.1 (by omega) (by omega) W')
   unfold oF RV at vC
   obtain ⟨g0,g1,g2⟩:=az hd6
   obtain ⟨o1,o2,o3,o4⟩:=nk hi0.ob
   have lo:=aa hi0.ob
   have l6:=aa hd6
   have hown0:=hi0.own
   obtain ⟨i0,hii,hz0,hz1,hz2⟩:=info_parts ZO.info
   have HIA:=hid (HI0.out.below (ae W0 (Obj.cells #[.int .i64 (kk:Int),.int .i64 (i:Int),.int .i64 (j:Int)] 57)))
   clear hi0 hd6
   gi_upto_region 14 with (gi_at_builtin;refine wpListIn_append_own _ rfl _ _ 52 rfl wd.heap.size 57 i0 (.agg #[.int .i64 0,.int .i64 0,.int .i64 0]) 3 24 ZO.ht hii hz0 hz1 hz2 ZO.hzs ZO.hsz _ pre.length _ rfl (hown0.alloc _) ⟨W0.heap.size,0,none⟩ 1 1 [.int .i64 (kk:Int),.int .i64 (i:Int),.int .i64 (j:Int)] rfl rfl (jw _ _ _ _ _) (by simp [Value.oneCell']) (by unfold maxLen;omega) (by omega) (by have:=HI0.out.low.size;simp;omega) ?_;intro vz l5 l7 hgrow _;obtain ⟨g9,rO,rfl⟩:=ownsRow_succ l7;have HGR:=hid hgrow;have Mj:=hid (HIA.out.push (st:=⟨kk,i,j⟩) hgrow l7);obtain ⟨c1,c2,f1,f2⟩:=nk ((HGR.out.block bo (aa HIA.out.ob) (fun e=>(HIA.out.rows bo e.symm).1 rfl)).trans HIA.out.ob);clear l7 hgrow o1 o2 o3 o4 g0 g1 g2 hown0)
   have hb6:B6≠bo:=fun e=>by
    have h:=HI0.out.ob
    rw [←e,HD6.out] at h
    unfold kJ at h
    cases h
   have hg6:(Value.slice pv pre.length cv).ownBlock≠some B6:=fun e=>by
    have:=(HIS.out.own.lt B6 e).2
    omega
   have hgN:∀ q,(Value.slice pv pre.length cv).ownBlock=some q→q<wS.heap.size:=fun q e=>(HIS.out.own.lt q e).2
   obtain ⟨w22,aco⟩ : ∃ w22,w22=l5.setCell ⟨bo,0,none⟩ (.slice (some ⟨g9,0,none⟩) (pre.length+1) rO):=⟨_,rfl⟩
   rw [←aco] at Mj ⊢
   have h6:=Mj.out.2 B6 _ (((ae _ _).block _ (aa HD6.out)).trans HD6.out) hg6 hb6
   have af6:=hid (show KeepsFrom wS.heap.size W0 w22 by
    rw [aco]
    exact ((aM (ae _ _)).trans (KeepsFrom.of_grownBy HGR.out hgN)).trans ((KeepsOthers.setCell _ _ _).from _))
   have H6:=hid h6
   obtain ⟨g0,g1,g2⟩:=az h6
   clear c1 c2 f1 f2 hb6 hg6 hgN aco h6
   gi_wp2_with fail
   refine ⟨trivial,?_⟩
   refine (CallsIn.inRound l (callsIn_wide.2 (vC.out w22))).mono ?_
   rintro e w23 ⟨rfl,acp⟩
   have acr:=hid (Mj.out.1.below acp)
   have af7:=hid (af6.out.trans (aM acp))
   obtain ⟨x0,y0⟩:=one_cell (show w23.heap[bi]?=some (.cells #[.int .i64 (i:Int)] 3 (0,0)) from acr.out.hbi)
   obtain ⟨x1,y1⟩:=one_cell (show w23.heap[bj]?=some (.cells #[.int .i64 (j:Int)] 3 (0,0)) from acr.out.hbj)
   have hij:=HI0.out.ge.2.2.2
   clear acp g0 g1 g2
   gi_wp2
   have hKF:=af7.out.trans (((KeepsOthers.setCell w23 ⟨bi,0,none⟩ (.int .i64 ((gD kk i:Nat):Int))).from wS.heap.size).trans ((KeepsOthers.setCell _ ⟨bj,0,none⟩ (.int .i64 ((iD kk j:Nat):Int))).from wS.heap.size))
   exact ⟨hKF,rfl,⟨_,acr.out.move _ _⟩,Nat.le_trans hsz hKF.size⟩
  case stop =>
   rintro Dk c W0 hD ⟨rfl,⟨vz,hiz⟩,hsz⟩ hK
   have z0:=bL hiz.hbi
   have z1:=bL hiz.hbj
   have HIZ:=hid hiz
   have HDK:=hid hK
   have HN:=hid HKN.out.2
   have ZI:=hid (show pre ++ [(⟨kk,i,j⟩ : Stp)]++kG C L R (gD kk i) (iD kk j)=kG C L R 0 0 by
    have h:=FB.out
    rw [BG hil hjl tQ.out,←HKK.out] at h
    rw [List.append_assoc]
    exact h)
   clear hiz hK
   generalize gD kk i=i2 at *
   generalize iD kk j=j2 at *
   gi_wp2
   obtain ⟨hb2,hs2,x2,y2⟩:=jJ (W:=W0) (a:=dO i2) (b:=dO j2) rfl
   have hz2:=HIZ.out.below hb2
   have hn:=HN.out
   refine ⟨L.length+R.length-(i2+j2),by omega,i2,j2,W0.heap.size,W0.heap.size+1,vz,pre ++ [Stp.mk kk i j],Dk :: ds,.of rfl rfl,⟨hz2.low,hz2.ob,hz2.own,x2,y2,?_,?_⟩,hn.1,hn.2.1,ZI.out,by rw [List.length_append,List.length_singleton];omega,by omega⟩
   ·exact Marks.cons hz2.ms (by have:=qE.out.size;omega) ((hb2.block _ (aa HDK.out)).trans HDK.out) (fun h=>by have:=QE.out Dk h;omega)
   ·have h1:=HIZ.out.ge.1
    have h2:=HIZ.out.low.size
    omega
end Go.Proofs.YtglncfkoohgdaaaGreatDoor
