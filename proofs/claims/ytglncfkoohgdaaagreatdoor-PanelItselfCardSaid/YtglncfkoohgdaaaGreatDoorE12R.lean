import Derived.Test.YtglncfkoohgdaaaGreatDoorE7R
import Derived.Sort.CutIn
set_option maxRecDepth 100000
set_option maxHeartbeats 8000000
namespace Go.Proofs.YtglncfkoohgdaaaGreatDoor
open Go.RowKit Go.Shelf
open Go.Lib (decDigits itoa nDigits)
open Go.Lib (hid)
attribute [local go_sem] Oper.semAt_some
structure QSz (C:Cs) (L R:List Iv):Prop where
 ok:QOk C L R
 rest:∀ i j,i≤L.length→j≤R.length→Fc 32768 4 (bI C L R i j)
 cost:∀ k i j,k∈kinds→bF L R k i j=true→Fc 2048 4 (bY C L R k i j)
theorem one_cell {W:World} {B:Nat} {t:TypeId} {a:Value} (h:W.heap[B]?=some (.cells #[a] t (0,0))):W.cell? ⟨B,0,none⟩=some a∧W.frozen? ⟨B,0,none⟩=false:=⟨by simp [World.cell?,h],by simp [World.frozen?,h]⟩
theorem dB {F:Fence} {n:Nat} {P:Program} {Q:Exit→Act→World→Prop} {a:Act} {w:World} {c:Code} (I:Nat→Act→World→Prop) (m:Nat) (h0:I m a w)
  (round:∀ g (c':Code) (Q':Exit→Act→World→Prop),c'=c→Q'=Exit.then (fun a' w'=>∃ g',g'<g∧I g' a' w') Q→∀ a w,I g a w→c'.wpIn F n P Q' a w):(Code.loop c).wpIn F n P Q a w:=
 wpIn_loop_ghost I m h0 (fun g a w h=>round g c _ rfl rfl a w h)
theorem dU {W wS:World} {q a b:Obj} (h:wS=((W.alloc q).alloc a).alloc b):Below W.heap.size W wS∧wS.heap.size=W.heap.size+3∧wS.heap[W.heap.size]?=some q∧wS.heap[W.heap.size+1]?=some a∧wS.heap[W.heap.size+2]?=some b:=by
 have e0:(W.alloc q).heap[W.heap.size]?=some q:=World.alloc_heap_new _ _
 have s1:(W.alloc q).heap.size=W.heap.size+1:=by simp
 have e1:((W.alloc q).alloc a).heap[W.heap.size+1]?=some a:=by rw [←s1];exact World.alloc_heap_new _ _
 have s2:((W.alloc q).alloc a).heap.size=W.heap.size+2:=by simp
 have b1:=ae W q
 have b2:=ae (W.alloc q) a
 have b3:=ae ((W.alloc q).alloc a) b
 rw [h]
 refine ⟨b1.trans ((b2.trans (b3.mono b2.size)).mono b1.size),by simp,?_,?_,by rw [←s2];exact World.alloc_heap_new _ _⟩
 ·exact (b3.block _ (by rw [s2];omega)).trans ((b2.block _ (by rw [s1];omega)).trans e0)
 ·exact (b3.block _ (by rw [s2];omega)).trans e1
theorem dX.put {n:Nat} {bs:List Nat} {w:World} (h1:n≤w.heap.size) (h2:∀ b∈bs,b<w.heap.size) (W:World) (l:Nat) (o o':Obj) (hl:w.heap.size≤l) (_:W.heap[l]?=some o) (_:o.isCells=false) (_:o.isWalk=false):dX n bs W (W.putObj l o'):=by
 refine ⟨E9 _ _ W o' (Nat.le_trans h1 hl),fun b hb=>?_⟩
 have:=h2 b hb
 simp only [World.putObj]
 rw [Array.getElem?_setIfInBounds,if_neg (by omega)]
structure CO (w:World) (qo:Obj) (B:Nat) (r:Nat→Nat) (m n bo:Nat) (C:Cs) (L R:List Iv) (i j bi bj:Nat) (ds:List Nat) (t0:Option Rat) (N:Nat) (p:Nat) (W:World):Prop where
 ri:RInv w qo B r m n bo (xC C L R i j (rH C L R i j t0 p)) ds W
 bi:W.heap[bi]?=some (Obj.cells #[.int .i64 (i:Int)] 3 (0,0))
 bj:W.heap[bj]?=some (Obj.cells #[.int .i64 (j:Int)] 3 (0,0))
 sz:N≤W.heap.size
theorem CO.own {T:TypeId} {w:World} {qo:Obj} {B:Nat} {r:Nat→Nat} {m n bo:Nat} {C:Cs} {L R:List Iv} {i j bi bj:Nat} {ds:List Nat} {t0:Option Rat} {N:Nat} (hl:RLt w B r m bo ds N) (h1:bi<N) (h2:bj<N):kQ T N (CO w qo B r m n bo C L R i j bi bj ds t0 N):=by
 intro k X Y row h hg hr
 have hb:Below N X Y:=⟨hg.os,hg.tape,hg.output,hg.size,fun k hk=>hg.block k (by have:=h.sz;omega) fun e=>by have:=(hr _ e.symm).1;omega⟩
 exact ⟨h.ri.keep hl hb,(hb.block _ h1).trans h.bi,(hb.block _ h2).trans h.bj,Nat.le_trans h.sz hg.size⟩
theorem dM (W:World) (o:Obj) {k:Nat} {x:Obj} (h:W.heap[k]?=some x):(W.alloc o).heap[k]?=some x:=((ae _ _).block _ (lt_of_some h)).trans h
theorem Fe {C:Cs} {L R:List Iv} {T:Nat→Nat→Option Rat} {i j:Nat} {Pr:Rat→Prop}:∀ (ks:List Nat) (t:Option Rat),(∀ k∈ks,k∈kinds→bF L R k i j=true→Pr ((T (gD k i) (iD k j)).getD 0+bY C L R k i j))→(∀ k∈ks,k∈kinds)→(∀ y,t=some y→Pr y)→∀ y,dP C L R T i j ks t=some y→Pr y
 | [],t,_,_,ht,y,h=>ht y h
 | k :: ks,t,hT,hks,ht,y,h=>by
  unfold dP at h
  refine Fe ks _ (fun k' hk'=>hT k' (List.mem_cons_of_mem _ hk')) (fun k' hk'=>hks k' (List.mem_cons_of_mem _ hk')) ?_ y h
  intro z hz
  by_cases hc:bF L R k i j=true
  ·rw [if_pos hc] at hz
   have hq:=hT k List.mem_cons_self (hks k List.mem_cons_self) hc
   cases t with
   | none=>unfold o9 at hz;simp only [Option.some.injEq] at hz;rw [←hz];exact hq
   | some z' =>
    unfold o9 at hz
    dsimp only at hz
    split at hz
    ·simp only [Option.some.injEq] at hz;rw [←hz];exact hq
    ·exact ht z hz
  ·rw [if_neg hc] at hz;exact ht z hz
theorem Uu {C:Cs} {L R:List Iv} (hQ:QSz C L R) {i j:Nat} (hi:i≤L.length) (hj:j≤R.length) {t0:Option Rat} (h0:∀ y,t0=some y→Sz 1000000 y) (p:Nat):∀ y,rH C L R i j t0 p=some y→Sz 1000000 y:=by
 unfold rH
 refine Fe _ _ (fun k _ hk hc=>?_) (fun k hk=>(rJ (List.mem_of_mem_take hk)).1) h0
 obtain ⟨h1,h2,_⟩:=fU hk hc hi hj
 exact ((hQ.rest _ _ h1 h2).add (hQ.cost k i j hk hc)).sm
theorem Uv {w:World} (vl vr:Value) (C:Cs) (L R:List Iv) (hQ:QSz C L R) (hvl:gm w vl L) (eO:gm w vr R) (hw:Good w) :
  CallsIn Fence.wide 9 Tryz.prog 120 #[uC vl vr C] w fun e w'=>∃ B r,e=.returned (.slice (some ⟨B,0,none⟩) (L.length+1) (L.length+1))∧TabAt w.heap.size w' B r (L.length+1) (R.length+1) (fun a b=>some (bI C L R a b))∧Below w.heap.size w w':=by
 have HTB:=hid (fun W' (hb:Below w.heap.size w W')=>Ut vl vr C L R hQ.ok.nl hQ.ok.nr (hvl.below hb) (eO.below hb))
 have HST:=hid (fun W' (hb:Below w.heap.size w W') (i j:Nat)=>Kg 8 vl vr C i j W' L R (hvl.below hb) (eO.below hb))
 have J7:=hid (fun (Bq Bi Bj i j:Nat) (hi:i≤L.length) (hj:j≤R.length) (W':World) (hb:Below w.heap.size w W') h1 h2 h3=>Kj 97 8 (by decide) Bq Bi Bj w C L R hQ.ok i j hi hj vl vr hvl eO hw W' hb h1 h2 h3)
 have Ff:=hQ.ok.nl
 have HNR:=hQ.ok.nr
 have HQ:=hid hQ
 obtain ⟨pl,cl,rfl,hcl,hcm⟩:=hvl.slice
 obtain ⟨pr,cr,rfl,gZ,hcm2⟩:=eO.slice
 unfold maxLen at hcm hcm2
 obtain ⟨m,hm1⟩ : ∃ m,m=L.length+1:=⟨_,rfl⟩
 obtain ⟨n,hn1⟩ : ∃ n,n=R.length+1:=⟨_,rfl⟩
 rw [←hm1,←hn1] at HTB ⊢
 have HM:=hid (And.intro hm1 hn1)
 have acg:m≤1000:=by omega
 have ach:n≤1000:=by omega
 clear hvl eO hQ hm1 hn1
 obtain ⟨qo,hqo⟩ : ∃ qo,qo=OA (.slice pl L.length cl) (.slice pr R.length cr) C:=⟨_,rfl⟩
 have HQO:=hid hqo
 obtain ⟨wP,bX⟩ : ∃ wP,wP=w.alloc qo:=⟨_,rfl⟩
 have hsP:wP.heap.size=w.heap.size+1:=by rw [bX];simp
 have eT:Below w.heap.size w wP:=by rw [bX];exact ae _ _
 have hpq:wP.heap[w.heap.size]?=some qo:=by rw [bX];exact World.alloc_heap_new _ _
 have RX:=hid (show w.alloc (OA (.slice pl L.length cl) (.slice pr R.length cr) C)=wP by rw [bX,hqo])
 rw [hqo] at hpq
 unfold OA at hpq RX
 unfold uC at *
 clear bX hqo
 obtain ⟨q0,q1,q2,q3,q4,q5⟩:=aW hpq
 refine callsIn_of_wp_marks Tryz.func120 rfl trivial ?_ rfl
 simp only [Tryz.ntmps120,List.size_toArray,List.length_cons,List.length_nil,Nat.reduceAdd,Nat.reduceSub,Array.replicate_succ,Array.replicate_zero,List.push_toArray,List.append_toArray,List.nil_append,List.cons_append]
 gi_wp2_with fail
 rw [RX.out]
 refine ⟨trivial,?_⟩
 refine (callsIn_wide.2 (HTB.out wP eT)).mono ?_
 rintro e w1 ⟨B,r,rfl,hT,hb1⟩
 have aci:=eT.trans (hb1.mono eT.size)
 have hp1:=(hb1.block _ (lt_of_some hpq)).trans hpq
 have HT:=hid (hT.tu eT.size)
 obtain ⟨bo,gU⟩ : ∃ bo,bo=w1.heap.size:=⟨_,rfl⟩
 obtain ⟨wO,RY⟩ : ∃ wO,wO=w1.alloc (Obj.cells #[.slice (some ⟨B,0,none⟩) m m] 185):=⟨_,rfl⟩
 have ZJ:Below w1.heap.size w1 wO:=by rw [RY];exact ae _ _
 have Uw:wO.heap[w1.heap.size]?=some (Fb B m):=by rw [RY];exact World.alloc_heap_new _ _
 have hpO:=(ZJ.block _ (lt_of_some hp1)).trans hp1
 have qA:=hid (aci.trans (ZJ.mono aci.size))
 have HTO:=hid (HT.out.below ZJ)
 clear hpq q0 q1 q2 q3 q4 q5 hsP HTB hT
 obtain ⟨q0,q1,q2,q3,q4,q5⟩:=aW hpO
 gi_upto_region 2 with fail
 rw [←RY]
 have HWO:=hid RY
 have HOO:=hid Uw
 rw [←gU]
 have uE:=hid gU
 clear RY gU hp1 hb1 aci ZJ Uw RX eT HT
 gi_upto_region 3 with fail
 obtain ⟨wI,Km⟩ : ∃ wI,wI=wO.alloc (Obj.cells #[.int .i64 (L.length:Int)] 3):=⟨_,rfl⟩
 have Qx:Below wO.heap.size wO wI:=by rw [Km];exact ae _ _
 have hiI:wI.heap[wO.heap.size]?=some (Obj.cells #[.int .i64 (L.length:Int)] 3 (0,0)):=by rw [Km];exact World.alloc_heap_new _ _
 rw [←Km]
 have G9:=hid (show RInv w (Obj.cells #[.slice pl L.length cl,.slice pr R.length cr,.string (tx C.ch),.string (tx C.mi),.string (tx C.ga),.string (tx C.re)] 122) B r m n bo (ni C L R m 0) [] wI from
  (RInv.below ⟨HTO.out,qA.out,hpO,by rw [uE.out];exact HOO.out,Marks.nil _ _⟩ Qx).congr (fun a b ha _=>by unfold ni;rw [if_neg (by omega)]))
 clear Km Qx hpO q0 q1 q2 q3 q4 q5 HWO HOO uE HTO qA
 generalize ht1:tx C.ch=t1 at *
 generalize ht2:tx C.mi=t2 at *
 generalize ht3:tx C.ga=t3 at *
 generalize Us:tx C.re=t4 at *
 have Qy:=hid (And.intro ht1 (And.intro ht2 (And.intro ht3 Us)))
 clear ht1 ht2 ht3 Us
 refine dB (fun g a W=>∃ (bi:Nat) (ds:List Nat),Frm a [.k (.agg #[.slice pl L.length cl,.slice pr R.length cr,.string t1,.string t2,.string t3,.string t4]),.k (.pointer (some ⟨w.heap.size,0,none⟩)),.k (.slice none 0 0),.k (.pointer (some ⟨bo,0,none⟩)),.k (.pointer (some ⟨bi,0,none⟩)),.n 66] ds∧W.heap[bi]?=some (Obj.cells #[.int .i64 ((g:Int)-1)] 3 (0,0))∧RInv w (Obj.cells #[.slice pl L.length cl,.slice pr R.length cr,.string t1,.string t2,.string t3,.string t4] 122) B r m n bo (ni C L R g 0) ds W∧g≤m) m ?_ ?_
 ·exact ⟨wO.heap.size,[],.of rfl rfl,by rw [hiI];congr 5;have:=HM.out.1;omega,G9.out,Nat.le_refl _⟩
 clear G9 hiI
 intro g cc QQ hcc QA a W hI
 obtain ⟨bi,hI⟩:=hI
 obtain ⟨ds,hI⟩:=hI
 obtain ⟨ha,hbi,qw,hgm⟩:=hI
 obtain ⟨uu,ha⟩:=ha
 subst ha hcc QA
 simp only [frS,frU,Nat.reduceAdd]
 cases g with
 | zero =>
  have z0:=(one_cell hbi).1
  have y0:W.cell? ⟨bo,0,none⟩=some (.slice (some ⟨B,0,none⟩) m m):=(one_cell qw.ob).1
  have G9:=hid qw
  clear hbi qw
  gi_wp2
  refine ic ds W G9.out.ms (fun W' hs=>⟨_,by simp [results,Tryz.results120,go_sem],B,r,rfl,(G9.out.tab.shut hs).congr (fun a b _ _=>by unfold ni;rw [if_pos (by omega)]),G9.out.low.trans hs.1⟩)
 | succ i =>
  have hci:((i+1:Nat):Int)-1=(i:Int):=by omega
  rw [hci] at hbi
  have z0:=(one_cell hbi).1
  have i0:decide ((0:Int)≤(i:Int))=true:=decide_eq_true (by omega)
  obtain ⟨q0,q1,q2,q3,q4,q5⟩:=aW qw.qb
  have G8:=hid hbi
  have G9:=hid qw
  have HLI:=hid (aa hbi)
  have ZK:=hid (aa hbi)
  clear hbi qw hci
  gi_upto_region 6 with fail
  obtain ⟨wJ,hwJ⟩ : ∃ wJ,wJ=W.alloc (Obj.cells #[.int .i64 (R.length:Int)] 3):=⟨_,rfl⟩
  have vF:Below W.heap.size W wJ:=by rw [hwJ];exact ae _ _
  have hjJ:wJ.heap[W.heap.size]?=some (Obj.cells #[.int .i64 (R.length:Int)] 3 (0,0)):=by rw [hwJ];exact World.alloc_heap_new _ _
  rw [←hwJ]
  have E8:=hid ((vF.block _ HLI.out).trans G8.out)
  have HRJ:=hid ((G9.out.below vF).congr (G:=ni C L R i n) (fun a b _ hb=>by
   unfold ni
   by_cases h:i<a
   ·rw [if_pos (by omega),if_pos (by omega)]
   ·rw [if_neg (by omega),if_neg (by omega)]))
  clear hwJ vF q0 q1 q2 q3 q4 q5 z0 G9 G8 HLI i0
  refine dB (fun g a W=>∃ (bj:Nat) (ds:List Nat),Frm a [.k (.agg #[.slice pl L.length cl,.slice pr R.length cr,.string t1,.string t2,.string t3,.string t4]),.k (.pointer (some ⟨w.heap.size,0,none⟩)),.k (.slice none 0 0),.k (.pointer (some ⟨bo,0,none⟩)),.k (.pointer (some ⟨bi,0,none⟩)),.k (.pointer (some ⟨bj,0,none⟩)),.n 65] ds∧W.heap[bj]?=some (Obj.cells #[.int .i64 ((g:Int)-1)] 3 (0,0))∧W.heap[bi]?=some (Obj.cells #[.int .i64 (i:Int)] 3 (0,0))∧RInv w (Obj.cells #[.slice pl L.length cl,.slice pr R.length cr,.string t1,.string t2,.string t3,.string t4] 122) B r m n bo (ni C L R i g) ds W∧g≤n∧bi≠bj) n ?_ ?_
  ·exact ⟨W.heap.size,ds,.of rfl rfl,by rw [hjJ];congr 5;have:=HM.out.2;omega,E8.out,HRJ.out,Nat.le_refl _,by have:=ZK.out;omega⟩
  clear HRJ hjJ E8 ZK
  intro g cc QQ hcc QA a W hI
  obtain ⟨bj,hI⟩:=hI
  obtain ⟨ds,hI⟩:=hI
  obtain ⟨ha,hbj,hbi,qw,hgn,hij⟩:=hI
  obtain ⟨uu,ha⟩:=ha
  subst ha hcc QA
  simp only [frS,frU,Nat.reduceAdd]
  cases g with
  | zero =>
   have z0:=(one_cell hbi).1
   have z1:=(one_cell hbj).1
   have t5:IntKind.i64.wrap ((i:Int)-1)=(i:Int)-1:=IntWalk.i64_in _ (by omega)
   have G9:=hid qw
   have G8:=hid hbi
   clear hbi qw hbj
   gi_wp2
   refine ⟨i,Nat.lt_succ_self _,W.heap.size,ds,.of rfl rfl,?_,?_,by omega⟩
   ·exact World.alloc_heap_new _ _
   ·exact G9.out.below (ae _ _)
  | succ j =>
   have hcj:((j+1:Nat):Int)-1=(j:Int):=by omega
   rw [hcj] at hbj
   have z0:=(one_cell hbi).1
   have z1:=(one_cell hbj).1
   have o0:W.cell? ⟨bo,0,none⟩=some (.slice (some ⟨B,0,none⟩) m m):=(one_cell qw.ob).1
   have j0:decide ((0:Int)≤(j:Int))=true:=decide_eq_true (by omega)
   obtain ⟨q0,q1,q2,q3,q4,q5⟩:=aW qw.qb
   have G8:=hid hbi
   have E8:=hid hbj
   rw [←Qw] at qw
   have G9:=hid qw
   clear hbi hbj qw hcj
   by_cases hei:i=L.length
   ·by_cases hej:j=R.length
    ·subst hei hej
     have n1:L.length<m:=by omega
     have n2:R.length<n:=by omega
     have ec:=(G9.out.tab.outer.cell (i:=L.length) (by omega))
     have lbi:=aa G8.out
     have lbj:=aa E8.out
     have lbo:=aa G9.out.ob
     have lB:=G9.out.tab.lt.1
     have i1:(0:Int)≤(L.length:Int):=by omega
     have i2:(L.length:Int)<(m:Int):=by omega
     have j1:(0:Int)≤(R.length:Int):=by omega
     have j2:(R.length:Int)<(n:Int):=by omega
     gi_wp2
     refine fJ bT (fun W'=>Below W.heap.size W W') (.take 0 (.take 1 (.take 2 (.take 3 (.take 4 (.take 5 .fin)))))) 6 (by kernel_rfl) (by kernel_rfl) (by kernel_rfl) ⟨rfl,rfl,rfl,Nat.le_refl _,fun _ _=>rfl⟩ ?_
     have bZ:Below W.heap.size W W.drew:=⟨rfl,rfl,rfl,Nat.le_refl _,fun _ _=>rfl⟩
     generalize W.drew=dW at *
     iterate 6
      refine bJ rfl ?_ rfl ?_ ?_
      rotate_left
      ·intro W' hS'
       have s0:=(hS'.cell (p:=⟨bi,0,none⟩) lbi).trans z0
       have s1:=(hS'.cell (p:=⟨bj,0,none⟩) lbj).trans z1
       have s2:=(hS'.cell (p:=⟨bo,0,none⟩) lbo).trans o0
       have s3:=(hS'.cell (p:=⟨B,L.length,none⟩) lB).trans ec
       go_simp
       try with_reducible rfl
      try simp only [zA,zB,zC,Act.put,zD,zE,zF]
     unfold gP
     simp only [List.drop_succ_cons,List.drop_zero]
     have hrD:=G9.out.below bZ
     have hc1:=(hrD.tab.rows L.length (by omega)).cell (i:=R.length) (by omega)
     have hc2:=(hrD.tab.rows L.length (by omega)).frozen R.length
     have h48:Value.string ⟨#[48]⟩=.string (ot (some 0)):=by show _=Value.string (tx 0);rw [tx0]
     have yJ:=hid (show RInv w _ B r m n bo (xC C L R L.length R.length (some 0)) ds (dW.setCell ⟨r L.length,R.length,none⟩ (.string ⟨#[48]⟩)) from by
      rw [h48]
      exact (hrD.row (by omega) (hrD.tab.put (by omega) (some 0)) (bK _ _ _ _) (by decide)).congr (fun a b _ _=>by rw [CL]))
     have tQ:∀ (k:Nat) (v:Int),W.heap[k]?=some (Obj.cells #[.int .i64 v] 3 (0,0))→k≠r L.length:=fun k v hk e=>by
      obtain ⟨c,hc,_⟩:=G9.out.tab.rows L.length (by omega)
      rw [←e,hk] at hc
      cases hc
     clear h48 q0 q1 q2 q3 q4 q5 z0 z1 o0 ec
     gi_upto_region 10 with fail
     obtain ⟨WX,hWX⟩ : ∃ q,q=dW.setCell ⟨r L.length,R.length,none⟩ (.string ⟨#[48]⟩):=⟨_,rfl⟩
     rw [←hWX] at yJ ⊢
     have hxi:WX.heap[bi]?=some (Obj.cells #[.int .i64 (L.length:Int)] 3 (0,0)):=by
      rw [hWX,Below.heap_setCell _ _ _ _ (tQ bi _ G8.out)]
      exact (bZ.block _ lbi).trans G8.out
     have hxj:WX.heap[bj]?=some (Obj.cells #[.int .i64 (R.length:Int)] 3 (0,0)):=by
      rw [hWX,Below.heap_setCell _ _ _ _ (tQ bj _ E8.out)]
      exact (bZ.block _ lbj).trans E8.out
     have OE:=hid (And.intro hxi hxj)
     have z0:=(one_cell hxi).1
     have z1:=(one_cell hxj).1
     obtain ⟨q0,q1,q2,q3,q4,q5⟩:=aW yJ.out.qb
     clear hxi hxj hWX hrD hc1 hc2 bZ
     gi_wp2_with fail
     refine ⟨trivial,?_⟩
     refine (HST.out WX yJ.out.low L.length R.length).mono ?_
     rintro e wS ⟨rfl,qV⟩
     obtain ⟨hbS,I5,k1,k2,k3⟩:=dU qV
     have HK:=hid (And.intro k1 (And.intro k2 k3))
     have qE:=hid hbS
     have mF:=hid I5
     have lxi:=aa OE.out.1
     have lxj:=aa OE.out.2
     have zW:=hid (yJ.out.rlt.mono (show WX.heap.size≤wS.heap.size by omega))
     have Uy:=hid (show CO w (Obj.cells #[.slice pl L.length cl,.slice pr R.length cr,.string t1,.string t2,.string t3,.string t4] 122) B r m n bo C L R L.length R.length bi bj ds (some 0) wS.heap.size 0 wS from
      ⟨yJ.out.below hbS,(hbS.block _ lxi).trans OE.out.1,(hbS.block _ lxj).trans OE.out.2,Nat.le_refl _⟩)
     have yM:=hid (yJ.out.low.trans (hbS.mono yJ.out.low.size))
     have LD:∀ b∈[WX.heap.size,WX.heap.size+1,WX.heap.size+2],b<wS.heap.size:=by
      intro b hb
      simp only [List.mem_cons,List.not_mem_nil,or_false] at hb
      omega
     clear qV hbS I5 k1 k2 k3 q0 q1 q2 q3 q4 q5 z0 z1
     gi_wp2
     refine eZ (n:=9) 48 49 6 7 C L R L.length R.length rfl (by decide) (gf:=237) (lb:=#[.pointer (some ⟨WX.heap.size+1,0,none⟩),.pointer (some ⟨WX.heap.size+2,0,none⟩),.pointer (some ⟨WX.heap.size,0,none⟩)]) rfl trivial (enters_of Tryz.func237 (by kernel_rfl) rfl)
      (J7.out WX.heap.size (WX.heap.size+1) (WX.heap.size+2) L.length R.length (Nat.le_refl _) (Nat.le_refl _) wS yM.out HK.out.1 HK.out.2.1 HK.out.2.2)
      dX.trans (dX.put yM.out.size LD) (Below.refl _ _) (fun _=>rfl)
      (CO w (Obj.cells #[.slice pl L.length cl,.slice pr R.length cr,.string t1,.string t2,.string t3,.string t4] 122) B r m n bo C L R L.length R.length bi bj ds (some 0) wS.heap.size) (fun _ _ _=>False) (CO.own zW.out (by have:=mF.out;omega) (by have:=mF.out;omega)) (fun _ _ _ _ _ hs _ _=>hs) Uy.out ?assign ?body ?done ?stop
     case assign =>
      intro l p k hp hk W0 K hi hK
      have hsz:=hi.sz
      have HI:=hid hi
      have HKK:=hid hK
      simp only [uD,oF]
      obtain ⟨tc,htc⟩ : ∃ t,t=tx (bY C L R k L.length R.length):=⟨_,rfl⟩
      rw [←htc]
      have YT:=hid htc
      clear hi hK htc
      gi_wp2
      refine HKK.out _ _ (aM (ae _ _)) (dX.of_below (ae _ _) (Nat.le_trans yM.out.size hsz) (fun b hb=>Nat.lt_of_lt_of_le (LD b hb) hsz)) ⟨HI.out.ri.below (ae _ _),dM _ _ HI.out.bi,dM _ _ HI.out.bj,by simp;omega⟩ ⟨W0.heap.size,hsz,World.alloc_heap_new _ _,?_⟩
      rw [←YT.out]
      rfl
     case body =>
      intro l p k hp
      rw [Kl] at hp
      exact absurd hp (Nat.not_lt_zero _)
     case done =>
      intro Dk W0 hD hi hK
      have hacc:rH C L R L.length R.length (some 0) (eU L R L.length R.length).length=some (bI C L R L.length R.length):=by
       have h:=CK (C:=C) (L:=L) (R:=R) (Nat.le_refl _) (Nat.le_refl _)
       unfold t0Q at h
       rwa [if_pos ⟨rfl,rfl⟩] at h
      have qw:=hi.ri
      rw [hacc,yL] at qw
      have hM:=Marks.cons qw.ms (show w.heap.size≤Dk by have:=yM.out.size;omega) hK (fun h=>by have:=zW.out.ds _ h;omega)
      have Uz:=hid (show RInv w (Obj.cells #[.slice pl L.length cl,.slice pr R.length cr,.string t1,.string t2,.string t3,.string t4] 122) B r m n bo (ni C L R L.length R.length) (Dk :: ds) W0 from ⟨qw.tab,qw.low,qw.qb,qw.ob,hM⟩)
      have HI:=hid hi
      have z1:=(one_cell hi.bj).1
      have t5:IntKind.i64.wrap ((R.length:Int)-1)=(R.length:Int)-1:=IntWalk.i64_in _ (by omega)
      clear hi qw hM hK hacc
      gi_wp2
      refine ⟨R.length,Nat.lt_succ_self _,W0.heap.size,Dk :: ds,.of rfl rfl,?_,?_,?_,by omega,?_⟩
      ·exact World.alloc_heap_new _ _
      ·exact dM _ _ HI.out.bi
      ·exact Uz.out.below (ae _ _)
      ·have:=aa HI.out.bi
       omega
     case stop =>
      rintro Dk c k W hD hk hf hK
      exact hf.elim
    ·subst hei
     gi_upto_region 10 with fail
     have yJ:=G9
     have OE:=hid (And.intro G8.out E8.out)
     gi_wp2_with fail
     refine ⟨trivial,?_⟩
     refine (HST.out W yJ.out.low L.length j).mono ?_
     rintro e wS ⟨rfl,qV⟩
     obtain ⟨hbS,I5,k1,k2,k3⟩:=dU qV
     have HK:=hid (And.intro k1 (And.intro k2 k3))
     have qE:=hid hbS
     have mF:=hid I5
     have lxi:=aa OE.out.1
     have lxj:=aa OE.out.2
     have zW:=hid (yJ.out.rlt.mono (show W.heap.size≤wS.heap.size by omega))
     have Uy:=hid (show CO w (Obj.cells #[.slice pl L.length cl,.slice pr R.length cr,.string t1,.string t2,.string t3,.string t4] 122) B r m n bo C L R L.length j bi bj ds none wS.heap.size 0 wS from
      ⟨yJ.out.below hbS,(hbS.block _ lxi).trans OE.out.1,(hbS.block _ lxj).trans OE.out.2,Nat.le_refl _⟩)
     have yM:=hid (yJ.out.low.trans (hbS.mono yJ.out.low.size))
     have LD:∀ b∈[W.heap.size,W.heap.size+1,W.heap.size+2],b<wS.heap.size:=by
      intro b hb
      simp only [List.mem_cons,List.not_mem_nil,or_false] at hb
      omega
     clear qV hbS I5 k1 k2 k3 q0 q1 q2 q3 q4 q5 z0 z1
     gi_wp2
     refine eZ (n:=9) 48 49 6 7 C L R L.length j rfl (by decide) (gf:=237) (lb:=#[.pointer (some ⟨W.heap.size+1,0,none⟩),.pointer (some ⟨W.heap.size+2,0,none⟩),.pointer (some ⟨W.heap.size,0,none⟩)]) rfl trivial (enters_of Tryz.func237 (by kernel_rfl) rfl)
      (J7.out W.heap.size (W.heap.size+1) (W.heap.size+2) L.length j (by have:=HM.out.1;omega) (by have:=HM.out.2;omega) wS yM.out HK.out.1 HK.out.2.1 HK.out.2.2)
      dX.trans (dX.put yM.out.size LD) (Below.refl _ _) (fun _=>rfl)
      (CO w (Obj.cells #[.slice pl L.length cl,.slice pr R.length cr,.string t1,.string t2,.string t3,.string t4] 122) B r m n bo C L R L.length j bi bj ds none wS.heap.size) (fun _ _ _=>False) (CO.own zW.out (by have:=mF.out;omega) (by have:=mF.out;omega)) (fun _ _ _ _ _ hs _ _=>hs) Uy.out ?assign ?body ?done ?stop
     case assign =>
      intro l p k hp hk W0 K hi hK
      have hsz:=hi.sz
      have HI:=hid hi
      have HKK:=hid hK
      simp only [uD,oF]
      obtain ⟨tc,htc⟩ : ∃ t,t=tx (bY C L R k L.length j):=⟨_,rfl⟩
      rw [←htc]
      have YT:=hid htc
      clear hi hK htc
      gi_wp2
      refine HKK.out _ _ (aM (ae _ _)) (dX.of_below (ae _ _) (Nat.le_trans yM.out.size hsz) (fun b hb=>Nat.lt_of_lt_of_le (LD b hb) hsz)) ⟨HI.out.ri.below (ae _ _),dM _ _ HI.out.bi,dM _ _ HI.out.bj,by simp;omega⟩ ⟨W0.heap.size,hsz,World.alloc_heap_new _ _,?_⟩
      rw [←YT.out]
      rfl
     case body =>
      rintro l p k hp hpk hk ym a' W0 hl hinv ⟨B6,hB6,hd6,rfl⟩
      simp only [List.setIfInBounds_toArray,List.set_cons_zero,List.set_cons_succ,oF]
      have eH:=hid hinv
      have vC:=hid (fun W'=>xz k L.length j hk (by have:=HM.out.1;omega) (by have:=HM.out.2;omega) W')
      unfold oF RV at vC
      obtain ⟨g0,g1,g2⟩:=az hd6
      clear hinv hd6
      gi_wp2_with fail
      refine ⟨trivial,?_⟩
      refine (CallsIn.inRound l (callsIn_wide.2 (vC.out W0))).mono ?_
      rintro e W1 ⟨rfl,hb1⟩
      obtain ⟨hA1,hA2,hA3⟩:=fU hk ym (show L.length≤L.length by have:=HM.out.1;omega) (show j≤R.length by have:=HM.out.2;omega)
      obtain ⟨hA4,hA5⟩:=Sr k L.length j
      have HI1:=hid (eH.out.ri.below hb1)
      have UA:=hid hb1
      have CP:=(hb1.block _ (aa eH.out.bi)).trans eH.out.bi
      have CQ:=(hb1.block _ (aa eH.out.bj)).trans eH.out.bj
      have o1:W1.cell? ⟨bo,0,none⟩=some (.slice (some ⟨B,0,none⟩) m m):=(one_cell HI1.out.ob).1
      have b1:=(one_cell CP).1
      have b2:=(one_cell CQ).1
      have lo:=aa HI1.out.ob
      have li:=aa CP
      have lj:=aa CQ
      have lB:=HI1.out.tab.lt.1
      have ea:=HI1.out.tab.outer.cell (i:=gD k L.length) (by have:=HM.out.1;omega)
      have eb:W1.cell? ⟨r (gD k L.length),iD k j,none⟩=some (.string (tx (bI C L R (gD k L.length) (iD k j)))):=by
       have h:=(HI1.out.tab.rows (gD k L.length) (by have:=HM.out.1;omega)).cell (i:=iD k j) (by have:=HM.out.2;omega)
       rw [zX C L R _ ⟨hA4,hA5,hA3⟩] at h
       exact h
      have lA:=HI1.out.tab.lt.2 (gD k L.length) (by have:=HM.out.1;omega)
      have HAD:=hid (fun W' (hg:Good W')=>uz (bI C L R (gD k L.length) (iD k j)) (bY C L R k L.length j) ((HQ.out.rest _ _ hA1 hA2).sm) ((HQ.out.cost k L.length j hk ym).sm) W' hg)
      have HIM:=hid (fun W' (hT:TabAt w.heap.size W' B r m n (xC C L R L.length j (rH C L R L.length j none p))) (hg:Good W')=>CG w.heap.size B r m n _ L.length j (by have:=HM.out.1;omega) (by have:=HM.out.2;omega) (bI C L R (gD k L.length) (iD k j)+bY C L R k L.length j) (((HQ.out.rest _ _ hA1 hA2).add (HQ.out.cost k L.length j hk ym)).sm) (fun y hy=>by rw [AU] at hy;exact Uu HQ.out (by have:=HM.out.1;omega) (by have:=HM.out.2;omega) (fun y hy=>by cases hy) p y hy) hT hg)
      have acj:=hid (show rH C L R L.length j none (p+1)=o9 (rH C L R L.length j none p) (bI C L R (gD k L.length) (iD k j)+bY C L R k L.length j) by have h:=Fa C L R L.length j none hp;rw [hpk] at h;exact h)
      unfold RV at HAD
      have a1:(0:Int)≤((gD k L.length:Nat):Int):=by omega
      have a2:((gD k L.length:Nat):Int)<(m:Int):=by have:=HM.out.1;omega
      have a3:(0:Int)≤((iD k j:Nat):Int):=by omega
      have a4:((iD k j:Nat):Int)<(n:Int):=by have:=HM.out.2;omega
      clear hA1 hA2 hA3 hA4 hA5 g0 g1 g2 hb1 CP CQ vC
      generalize gD k L.length=nA at *
      generalize iD k j=nB at *
      generalize vN:r nA=rA at *
      have yN:=hid vN
      clear vN
      obtain ⟨tc,htc⟩ : ∃ t,t=tx (bY C L R k L.length j):=⟨_,rfl⟩
      obtain ⟨tr,htr⟩ : ∃ t,t=tx (bI C L R nA nB):=⟨_,rfl⟩
      obtain ⟨ts,hts⟩ : ∃ t,t=tx (bI C L R nA nB+bY C L R k L.length j):=⟨_,rfl⟩
      rw [←htc,←htr,←hts] at HAD
      rw [←hts] at HIM
      rw [←htr] at eb
      rw [←htc]
      clear htc htr hts
      gi_upto_region 14 with fail
      refine fJ jU (fun W'=>Below W1.heap.size W1 W') (.take 0 (.take 1 (.take 2 (.take 3 (.take 4 (.take 5 (.take 6 (.take 7 (.take 8 (.take 9 (.take 10 (.one 11 .fin)))))))))))) 12 (by kernel_rfl) (by kernel_rfl) (by kernel_rfl) ⟨rfl,rfl,rfl,Nat.le_refl _,fun _ _=>rfl⟩ ?_
      have bZ:Below W1.heap.size W1 W1.drew:=⟨rfl,rfl,rfl,Nat.le_refl _,fun _ _=>rfl⟩
      generalize W1.drew=dW at *
      iterate 11
       refine bJ rfl ?_ rfl ?_ ?_
       rotate_left
       ·intro W' hS'
        have s0:=(hS'.cell (p:=⟨bo,0,none⟩) lo).trans o1
        have s1:=(hS'.cell (p:=⟨bi,0,none⟩) li).trans b1
        have s2:=(hS'.cell (p:=⟨bj,0,none⟩) lj).trans b2
        have s3:=(hS'.cell (p:=⟨B,nA,none⟩) lB).trans ea
        have s4:=(hS'.cell (p:=⟨rA,nB,none⟩) lA).trans eb
        go_simp
        try with_reducible rfl
       try simp only [zA,zB,zC,Act.put,zD,zE,zF]
      refine aK rfl rfl (fun K hK=>?_)
      go_simp
      refine (HAD.out _ (hw.below (HI1.out.low.trans (bZ.mono HI1.out.low.size)))).mono ?_
      rintro e gK ⟨rfl,cK⟩
      have hP1:=bZ.trans (cK.mono bZ.size)
      refine hK _ _ ⟨hP1,?_⟩
      clear hK K
      try simp only [zA,zB,zC,Act.put,zD,zE,zF]
      unfold gP
      simp only [List.drop_succ_cons,List.drop_zero]
      have HI2:=hid (HI1.out.below hP1)
      have HB2:=hid (UA.out.trans (hP1.mono UA.out.size))
      clear o1 b1 b2 ea eb
      gi_wp2_with fail
      refine ⟨trivial,?_⟩
      refine (CallsIn.inRound l (callsIn_wide.2 (HIM.out gK HI2.out.tab (hw.below HI2.out.low)))).mono ?_
      rintro e W3 ⟨⟨v3,rfl⟩,QB,hg3⟩
      have HI3:=hid (HI2.out.row (by have:=HM.out.1;omega) QB hg3 (by decide))
      have HT3:=hid (And.intro QB hg3)
      clear QB hg3
      have hKS:∀ b∈[W.heap.size,W.heap.size+1,W.heap.size+2],W3.heap[b]?=gK.heap[b]?:=fun b hb=>HT3.out.2.block b (Nat.lt_of_lt_of_le (LD b hb) (Nat.le_trans eH.out.sz HB2.out.size)) (fun e=>by
       have h1:=yJ.out.rlt.r L.length (by have:=HM.out.1;omega)
       have h2:b=r L.length:=by cases e;rfl
       simp only [List.mem_cons,List.not_mem_nil,or_false] at hb
       omega)
      have HKS:=hid hKS
      have hNE:∀ (b:Nat) (v:Int),gK.heap[b]?=some (Obj.cells #[.int .i64 v] 3 (0,0))→W3.heap[b]?=some (Obj.cells #[.int .i64 v] 3 (0,0)):=fun b v hb=>(HT3.out.2.block b (aa hb) (fun e=>by
       have h2:b=r L.length:=by cases e;rfl
       obtain ⟨c,hc,_⟩:=HI2.out.tab.rows L.length (by have:=HM.out.1;omega)
       rw [←h2,hb] at hc
       cases hc)).trans hb
      have tQ:=hid hNE
      clear hKS hNE
      gi_wp2
      refine ⟨(aM HB2.out).trans (KeepsFrom.of_grownBy HT3.out.2 (fun j e=>by cases e;exact zW.out.r L.length (by have:=HM.out.1;omega))),(dX.of_below HB2.out (Nat.le_trans yM.out.size eH.out.sz) (fun b hb=>Nat.lt_of_lt_of_le (LD b hb) eH.out.sz)).trans ⟨⟨HT3.out.2.os,HT3.out.2.tape,HT3.out.2.output,HT3.out.2.size,fun k hk=>HT3.out.2.block k (Nat.lt_of_lt_of_le hk HI2.out.low.size) (fun e=>by
        have h2:k=r L.length:=by cases e;rfl
        have h3:=HI2.out.tab.base.2 L.length (by have:=HM.out.1;omega)
        omega)⟩,HKS.out⟩,⟨HI3.out.congr (fun a b _ _=>by rw [CL,AU,acj.out]),tQ.out _ _ ((HB2.out.block _ (aa eH.out.bi)).trans eH.out.bi),tQ.out _ _ ((HB2.out.block _ (aa eH.out.bj)).trans eH.out.bj),Nat.le_trans eH.out.sz (Nat.le_trans HB2.out.size HT3.out.2.size)⟩⟩
     case done =>
      intro Dk W0 hD hi hK
      have hacc:rH C L R L.length j none (eU L R L.length j).length=some (bI C L R L.length j):=by
       have h:=CK (C:=C) (L:=L) (i:=L.length) (j:=j) (R:=R) (by have:=HM.out.1;omega) (by have:=HM.out.2;omega)
       unfold t0Q at h
       rwa [if_neg (fun h=>hej h.2)] at h
      have qw:=hi.ri
      rw [hacc,yL] at qw
      have hM:=Marks.cons qw.ms (show w.heap.size≤Dk by have:=yM.out.size;omega) hK (fun h=>by have:=zW.out.ds _ h;omega)
      have Uz:=hid (show RInv w (Obj.cells #[.slice pl L.length cl,.slice pr R.length cr,.string t1,.string t2,.string t3,.string t4] 122) B r m n bo (ni C L R L.length j) (Dk :: ds) W0 from ⟨qw.tab,qw.low,qw.qb,qw.ob,hM⟩)
      have HI:=hid hi
      have z1:=(one_cell hi.bj).1
      have t5:IntKind.i64.wrap ((j:Int)-1)=(j:Int)-1:=IntWalk.i64_in _ (by omega)
      clear hi qw hM hK hacc
      gi_wp2
      refine ⟨j,Nat.lt_succ_self _,W0.heap.size,Dk :: ds,.of rfl rfl,?_,?_,?_,by omega,?_⟩
      ·exact World.alloc_heap_new _ _
      ·exact dM _ _ HI.out.bi
      ·exact Uz.out.below (ae _ _)
      ·have:=aa HI.out.bi
       omega
     case stop =>
      rintro Dk c k W hD hk hf hK
      exact hf.elim
   ·gi_upto_region 10 with fail
    have yJ:=G9
    have OE:=hid (And.intro G8.out E8.out)
    gi_wp2_with fail
    refine ⟨trivial,?_⟩
    refine (HST.out W yJ.out.low i j).mono ?_
    rintro e wS ⟨rfl,qV⟩
    obtain ⟨hbS,I5,k1,k2,k3⟩:=dU qV
    have HK:=hid (And.intro k1 (And.intro k2 k3))
    have qE:=hid hbS
    have mF:=hid I5
    have lxi:=aa OE.out.1
    have lxj:=aa OE.out.2
    have zW:=hid (yJ.out.rlt.mono (show W.heap.size≤wS.heap.size by omega))
    have Uy:=hid (show CO w (Obj.cells #[.slice pl L.length cl,.slice pr R.length cr,.string t1,.string t2,.string t3,.string t4] 122) B r m n bo C L R i j bi bj ds none wS.heap.size 0 wS from
     ⟨yJ.out.below hbS,(hbS.block _ lxi).trans OE.out.1,(hbS.block _ lxj).trans OE.out.2,Nat.le_refl _⟩)
    have yM:=hid (yJ.out.low.trans (hbS.mono yJ.out.low.size))
    have LD:∀ b∈[W.heap.size,W.heap.size+1,W.heap.size+2],b<wS.heap.size:=by
     intro b hb
     simp only [List.mem_cons,List.not_mem_nil,or_false] at hb
     omega
    clear qV hbS I5 k1 k2 k3 q0 q1 q2 q3 q4 q5 z0 z1
    gi_wp2
    refine eZ (n:=9) 48 49 6 7 C L R i j rfl (by decide) (gf:=237) (lb:=#[.pointer (some ⟨W.heap.size+1,0,none⟩),.pointer (some ⟨W.heap.size+2,0,none⟩),.pointer (some ⟨W.heap.size,0,none⟩)]) rfl trivial (enters_of Tryz.func237 (by kernel_rfl) rfl)
     (J7.out W.heap.size (W.heap.size+1) (W.heap.size+2) i j (by have:=HM.out.1;omega) (by have:=HM.out.2;omega) wS yM.out HK.out.1 HK.out.2.1 HK.out.2.2)
     dX.trans (dX.put yM.out.size LD) (Below.refl _ _) (fun _=>rfl)
     (CO w (Obj.cells #[.slice pl L.length cl,.slice pr R.length cr,.string t1,.string t2,.string t3,.string t4] 122) B r m n bo C L R i j bi bj ds none wS.heap.size) (fun _ _ _=>False) (CO.own zW.out (by have:=mF.out;omega) (by have:=mF.out;omega)) (fun _ _ _ _ _ hs _ _=>hs) Uy.out ?assign ?body ?done ?stop
    case assign =>
     intro l p k hp hk W0 K hi hK
     have hsz:=hi.sz
     have HI:=hid hi
     have HKK:=hid hK
     simp only [uD,oF]
     obtain ⟨tc,htc⟩ : ∃ t,t=tx (bY C L R k i j):=⟨_,rfl⟩
     rw [←htc]
     have YT:=hid htc
     clear hi hK htc
     gi_wp2
     refine HKK.out _ _ (aM (ae _ _)) (dX.of_below (ae _ _) (Nat.le_trans yM.out.size hsz) (fun b hb=>Nat.lt_of_lt_of_le (LD b hb) hsz)) ⟨HI.out.ri.below (ae _ _),dM _ _ HI.out.bi,dM _ _ HI.out.bj,by simp;omega⟩ ⟨W0.heap.size,hsz,World.alloc_heap_new _ _,?_⟩
     rw [←YT.out]
     rfl
    case body =>
     rintro l p k hp hpk hk ym a' W0 hl hinv ⟨B6,hB6,hd6,rfl⟩
     simp only [List.setIfInBounds_toArray,List.set_cons_zero,List.set_cons_succ,oF]
     have eH:=hid hinv
     have vC:=hid (fun W'=>xz k i j hk (by have:=HM.out.1;omega) (by have:=HM.out.2;omega) W')
     unfold oF RV at vC
     obtain ⟨g0,g1,g2⟩:=az hd6
     clear hinv hd6
     gi_wp2_with fail
     refine ⟨trivial,?_⟩
     refine (CallsIn.inRound l (callsIn_wide.2 (vC.out W0))).mono ?_
     rintro e W1 ⟨rfl,hb1⟩
     obtain ⟨hA1,hA2,hA3⟩:=fU hk ym (show i≤L.length by have:=HM.out.1;omega) (show j≤R.length by have:=HM.out.2;omega)
     obtain ⟨hA4,hA5⟩:=Sr k i j
     have HI1:=hid (eH.out.ri.below hb1)
     have UA:=hid hb1
     have CP:=(hb1.block _ (aa eH.out.bi)).trans eH.out.bi
     have CQ:=(hb1.block _ (aa eH.out.bj)).trans eH.out.bj
     have o1:W1.cell? ⟨bo,0,none⟩=some (.slice (some ⟨B,0,none⟩) m m):=(one_cell HI1.out.ob).1
     have b1:=(one_cell CP).1
     have b2:=(one_cell CQ).1
     have lo:=aa HI1.out.ob
     have li:=aa CP
     have lj:=aa CQ
     have lB:=HI1.out.tab.lt.1
     have ea:=HI1.out.tab.outer.cell (i:=gD k i) (by have:=HM.out.1;omega)
     have eb:W1.cell? ⟨r (gD k i),iD k j,none⟩=some (.string (tx (bI C L R (gD k i) (iD k j)))):=by
      have h:=(HI1.out.tab.rows (gD k i) (by have:=HM.out.1;omega)).cell (i:=iD k j) (by have:=HM.out.2;omega)
      rw [zX C L R _ ⟨hA4,hA5,hA3⟩] at h
      exact h
     have lA:=HI1.out.tab.lt.2 (gD k i) (by have:=HM.out.1;omega)
     have HAD:=hid (fun W' (hg:Good W')=>uz (bI C L R (gD k i) (iD k j)) (bY C L R k i j) ((HQ.out.rest _ _ hA1 hA2).sm) ((HQ.out.cost k i j hk ym).sm) W' hg)
     have HIM:=hid (fun W' (hT:TabAt w.heap.size W' B r m n (xC C L R i j (rH C L R i j none p))) (hg:Good W')=>CG w.heap.size B r m n _ i j (by have:=HM.out.1;omega) (by have:=HM.out.2;omega) (bI C L R (gD k i) (iD k j)+bY C L R k i j) (((HQ.out.rest _ _ hA1 hA2).add (HQ.out.cost k i j hk ym)).sm) (fun y hy=>by rw [AU] at hy;exact Uu HQ.out (by have:=HM.out.1;omega) (by have:=HM.out.2;omega) (fun y hy=>by cases hy) p y hy) hT hg)
     have acj:=hid (show rH C L R i j none (p+1)=o9 (rH C L R i j none p) (bI C L R (gD k i) (iD k j)+bY C L R k i j) by have h:=Fa C L R i j none hp;rw [hpk] at h;exact h)
     unfold RV at HAD
     have a1:(0:Int)≤((gD k i:Nat):Int):=by omega
     have a2:((gD k i:Nat):Int)<(m:Int):=by have:=HM.out.1;omega
     have a3:(0:Int)≤((iD k j:Nat):Int):=by omega
     have a4:((iD k j:Nat):Int)<(n:Int):=by have:=HM.out.2;omega
     clear hA1 hA2 hA3 hA4 hA5 g0 g1 g2 hb1 CP CQ vC
     generalize gD k i=nA at *
     generalize iD k j=nB at *
     generalize vN:r nA=rA at *
     have yN:=hid vN
     clear vN
     obtain ⟨tc,htc⟩ : ∃ t,t=tx (bY C L R k i j):=⟨_,rfl⟩
     obtain ⟨tr,htr⟩ : ∃ t,t=tx (bI C L R nA nB):=⟨_,rfl⟩
     obtain ⟨ts,hts⟩ : ∃ t,t=tx (bI C L R nA nB+bY C L R k i j):=⟨_,rfl⟩
     rw [←htc,←htr,←hts] at HAD
     rw [←hts] at HIM
     rw [←htr] at eb
     rw [←htc]
     clear htc htr hts
     gi_upto_region 14 with fail
     refine fJ jU (fun W'=>Below W1.heap.size W1 W') (.take 0 (.take 1 (.take 2 (.take 3 (.take 4 (.take 5 (.take 6 (.take 7 (.take 8 (.take 9 (.take 10 (.one 11 .fin)))))))))))) 12 (by kernel_rfl) (by kernel_rfl) (by kernel_rfl) ⟨rfl,rfl,rfl,Nat.le_refl _,fun _ _=>rfl⟩ ?_
     have bZ:Below W1.heap.size W1 W1.drew:=⟨rfl,rfl,rfl,Nat.le_refl _,fun _ _=>rfl⟩
     generalize W1.drew=dW at *
     iterate 11
      refine bJ rfl ?_ rfl ?_ ?_
      rotate_left
      ·intro W' hS'
       have s0:=(hS'.cell (p:=⟨bo,0,none⟩) lo).trans o1
       have s1:=(hS'.cell (p:=⟨bi,0,none⟩) li).trans b1
       have s2:=(hS'.cell (p:=⟨bj,0,none⟩) lj).trans b2
       have s3:=(hS'.cell (p:=⟨B,nA,none⟩) lB).trans ea
       have s4:=(hS'.cell (p:=⟨rA,nB,none⟩) lA).trans eb
       go_simp
       try with_reducible rfl
      try simp only [zA,zB,zC,Act.put,zD,zE,zF]
     refine aK rfl rfl (fun K hK=>?_)
     go_simp
     refine (HAD.out _ (hw.below (HI1.out.low.trans (bZ.mono HI1.out.low.size)))).mono ?_
     rintro e gK ⟨rfl,cK⟩
     have hP1:=bZ.trans (cK.mono bZ.size)
     refine hK _ _ ⟨hP1,?_⟩
     clear hK K
     try simp only [zA,zB,zC,Act.put,zD,zE,zF]
     unfold gP
     simp only [List.drop_succ_cons,List.drop_zero]
     have HI2:=hid (HI1.out.below hP1)
     have HB2:=hid (UA.out.trans (hP1.mono UA.out.size))
     clear o1 b1 b2 ea eb
     gi_wp2_with fail
     refine ⟨trivial,?_⟩
     refine (CallsIn.inRound l (callsIn_wide.2 (HIM.out gK HI2.out.tab (hw.below HI2.out.low)))).mono ?_
     rintro e W3 ⟨⟨v3,rfl⟩,QB,hg3⟩
     have HI3:=hid (HI2.out.row (by have:=HM.out.1;omega) QB hg3 (by decide))
     have HT3:=hid (And.intro QB hg3)
     clear QB hg3
     have hKS:∀ b∈[W.heap.size,W.heap.size+1,W.heap.size+2],W3.heap[b]?=gK.heap[b]?:=fun b hb=>HT3.out.2.block b (Nat.lt_of_lt_of_le (LD b hb) (Nat.le_trans eH.out.sz HB2.out.size)) (fun e=>by
      have h1:=yJ.out.rlt.r i (by have:=HM.out.1;omega)
      have h2:b=r i:=by cases e;rfl
      simp only [List.mem_cons,List.not_mem_nil,or_false] at hb
      omega)
     have HKS:=hid hKS
     have hNE:∀ (b:Nat) (v:Int),gK.heap[b]?=some (Obj.cells #[.int .i64 v] 3 (0,0))→W3.heap[b]?=some (Obj.cells #[.int .i64 v] 3 (0,0)):=fun b v hb=>(HT3.out.2.block b (aa hb) (fun e=>by
      have h2:b=r i:=by cases e;rfl
      obtain ⟨c,hc,_⟩:=HI2.out.tab.rows i (by have:=HM.out.1;omega)
      rw [←h2,hb] at hc
      cases hc)).trans hb
     have tQ:=hid hNE
     clear hKS hNE
     gi_wp2
     refine ⟨(aM HB2.out).trans (KeepsFrom.of_grownBy HT3.out.2 (fun j e=>by cases e;exact zW.out.r i (by have:=HM.out.1;omega))),(dX.of_below HB2.out (Nat.le_trans yM.out.size eH.out.sz) (fun b hb=>Nat.lt_of_lt_of_le (LD b hb) eH.out.sz)).trans ⟨⟨HT3.out.2.os,HT3.out.2.tape,HT3.out.2.output,HT3.out.2.size,fun k hk=>HT3.out.2.block k (Nat.lt_of_lt_of_le hk HI2.out.low.size) (fun e=>by
       have h2:k=r i:=by cases e;rfl
       have h3:=HI2.out.tab.base.2 i (by have:=HM.out.1;omega)
       omega)⟩,HKS.out⟩,⟨HI3.out.congr (fun a b _ _=>by rw [CL,AU,acj.out]),tQ.out _ _ ((HB2.out.block _ (aa eH.out.bi)).trans eH.out.bi),tQ.out _ _ ((HB2.out.block _ (aa eH.out.bj)).trans eH.out.bj),Nat.le_trans eH.out.sz (Nat.le_trans HB2.out.size HT3.out.2.size)⟩⟩
    case done =>
     intro Dk W0 hD hi hK
     have hacc:rH C L R i j none (eU L R i j).length=some (bI C L R i j):=by
      have h:=CK (C:=C) (L:=L) (i:=i) (j:=j) (R:=R) (by have:=HM.out.1;omega) (by have:=HM.out.2;omega)
      unfold t0Q at h
      rwa [if_neg (fun h=>hei h.1)] at h
     have qw:=hi.ri
     rw [hacc,yL] at qw
     have hM:=Marks.cons qw.ms (show w.heap.size≤Dk by have:=yM.out.size;omega) hK (fun h=>by have:=zW.out.ds _ h;omega)
     have Uz:=hid (show RInv w (Obj.cells #[.slice pl L.length cl,.slice pr R.length cr,.string t1,.string t2,.string t3,.string t4] 122) B r m n bo (ni C L R i j) (Dk :: ds) W0 from ⟨qw.tab,qw.low,qw.qb,qw.ob,hM⟩)
     have HI:=hid hi
     have z1:=(one_cell hi.bj).1
     have t5:IntKind.i64.wrap ((j:Int)-1)=(j:Int)-1:=IntWalk.i64_in _ (by omega)
     clear hi qw hM hK hacc
     gi_wp2
     refine ⟨j,Nat.lt_succ_self _,W0.heap.size,Dk :: ds,.of rfl rfl,?_,?_,?_,by omega,?_⟩
     ·exact World.alloc_heap_new _ _
     ·exact dM _ _ HI.out.bi
     ·exact Uz.out.below (ae _ _)
     ·have:=aa HI.out.bi
      omega
    case stop =>
     rintro Dk c k W hD hk hf hK
     exact hf.elim
end Go.Proofs.YtglncfkoohgdaaaGreatDoor
