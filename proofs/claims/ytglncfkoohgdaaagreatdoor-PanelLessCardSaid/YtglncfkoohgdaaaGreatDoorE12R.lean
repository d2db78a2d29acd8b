import Derived.Test.YtglncfkoohgdaaaGreatDoorE7R
import Derived.Sort.CutIn
set_option maxRecDepth 100000
set_option maxHeartbeats 8000000
namespace Go.Proofs.YtglncfkoohgdaaaGreatDoor
open Go.RowKit Go.Shelf
open Go.Lib (decDigits itoa nDigits)
open Go.Lib (hid)
attribute [local go_sem] Oper.semAt_some
structure QSz (C:Cs) (L R:List Iv):Prop where
 ok:QOk C L R
 rest:∀ i j,i≤L.length→j≤R.length→Fc 32768 4 (bH C L R i j)
 cost:∀ k i j,k∈kinds→bG L R k i j=true→Fc 2048 4 (cK C L R k i j)
theorem one_cell {W:World} {B:Nat} {t:TypeId} {a:Value} (h:W.heap[B]?=some (.cells #[a] t (0,0))):W.cell? ⟨B,0,none⟩=some a∧W.frozen? ⟨B,0,none⟩=false:=⟨by simp [World.cell?,h],by simp [World.frozen?,h]⟩
theorem dz {F:Fence} {n:Nat} {P:Program} {Q:Exit→Act→World→Prop} {a:Act} {w:World} {c:Code} (I:Nat→Act→World→Prop) (m:Nat) (h0:I m a w)
  (round:∀ g (c':Code) (Q':Exit→Act→World→Prop),c'=c→Q'=Exit.then (fun a' w'=>∃ g',g'<g∧I g' a' w') Q→∀ a w,I g a w→c'.wpIn F n P Q' a w):(Code.loop c).wpIn F n P Q a w:=
 wpIn_loop_ghost I m h0 (fun g a w h=>round g c _ rfl rfl a w h)
theorem dW {W wS:World} {q a b:Obj} (h:wS=((W.alloc q).alloc a).alloc b):Below W.heap.size W wS∧wS.heap.size=W.heap.size+3∧wS.heap[W.heap.size]?=some q∧wS.heap[W.heap.size+1]?=some a∧wS.heap[W.heap.size+2]?=some b:=by
 have e0:(W.alloc q).heap[W.heap.size]?=some q:=World.alloc_heap_new _ _
 have s1:(W.alloc q).heap.size=W.heap.size+1:=by simp
 have e1:((W.alloc q).alloc a).heap[W.heap.size+1]?=some a:=by rw [←s1];exact World.alloc_heap_new _ _
 have s2:((W.alloc q).alloc a).heap.size=W.heap.size+2:=by simp
 have b1:=ae W q
 have b2:=ae (W.alloc q) a
 have b3:=ae ((W.alloc q).alloc a) b
 rw [h]
 refine ⟨b1.trans ((b2.trans (b3.mono b2.size)).mono b1.size),by simp,?_,?_,by rw [←s2];exact World.alloc_heap_new _ _⟩
 ·exact (b3.block _ (by rw [s2];omega)).trans ((b2.block _ (by rw [s1];omega)).trans e0)
 ·exact (b3.block _ (by rw [s2];omega)).trans e1
theorem ek.put {n:Nat} {bs:List Nat} {w:World} (h1:n≤w.heap.size) (h2:∀ b∈bs,b<w.heap.size) (W:World) (l:Nat) (o o':Obj) (hl:w.heap.size≤l) (_:W.heap[l]?=some o) (_:o.isCells=false) (_:o.isWalk=false):ek n bs W (W.putObj l o'):=by
 refine ⟨ES _ _ W o' (Nat.le_trans h1 hl),fun b hb=>?_⟩
 have:=h2 b hb
 simp only [World.putObj]
 rw [Array.getElem?_setIfInBounds,if_neg (by omega)]
structure CB (w:World) (qo:Obj) (B:Nat) (r:Nat→Nat) (m n bo:Nat) (C:Cs) (L R:List Iv) (i j bi bj:Nat) (ds:List Nat) (t0:Option Rat) (N:Nat) (p:Nat) (W:World):Prop where
 ri:RInv w qo B r m n bo (xh C L R i j (rq C L R i j t0 p)) ds W
 bi:W.heap[bi]?=some (Obj.cells #[.int .i64 (i:Int)] 3 (0,0))
 bj:W.heap[bj]?=some (Obj.cells #[.int .i64 (j:Int)] 3 (0,0))
 sz:N≤W.heap.size
theorem CB.own {T:TypeId} {w:World} {qo:Obj} {B:Nat} {r:Nat→Nat} {m n bo:Nat} {C:Cs} {L R:List Iv} {i j bi bj:Nat} {ds:List Nat} {t0:Option Rat} {N:Nat} (hl:RLt w B r m bo ds N) (h1:bi<N) (h2:bj<N):kP T N (CB w qo B r m n bo C L R i j bi bj ds t0 N):=by
 intro k X Y row h hg hr
 have hb:Below N X Y:=⟨hg.os,hg.tape,hg.output,hg.size,fun k hk=>hg.block k (by have:=h.sz;omega) fun e=>by have:=(hr _ e.symm).1;omega⟩
 exact ⟨h.ri.keep hl hb,(hb.block _ h1).trans h.bi,(hb.block _ h2).trans h.bj,Nat.le_trans h.sz hg.size⟩
theorem dN (W:World) (o:Obj) {k:Nat} {x:Obj} (h:W.heap[k]?=some x):(W.alloc o).heap[k]?=some x:=((ae _ _).block _ (lt_of_some h)).trans h
theorem EW {C:Cs} {L R:List Iv} {T:Nat→Nat→Option Rat} {i j:Nat} {Pr:Rat→Prop}:∀ (ks:List Nat) (t:Option Rat),(∀ k∈ks,k∈kinds→bG L R k i j=true→Pr ((T (gF k i) (iC k j)).getD 0+cK C L R k i j))→(∀ k∈ks,k∈kinds)→(∀ y,t=some y→Pr y)→∀ y,dR C L R T i j ks t=some y→Pr y
 | [],t,_,_,ht,y,h=>ht y h
 | k :: ks,t,hT,hks,ht,y,h=>by
  unfold dR at h
  refine EW ks _ (fun k' hk'=>hT k' (List.mem_cons_of_mem _ hk')) (fun k' hk'=>hks k' (List.mem_cons_of_mem _ hk')) ?_ y h
  intro z hz
  by_cases hc:bG L R k i j=true
  ·rw [if_pos hc] at hz
   have hq:=hT k List.mem_cons_self (hks k List.mem_cons_self) hc
   cases t with
   | none=>unfold o7 at hz;simp only [Option.some.injEq] at hz;rw [←hz];exact hq
   | some z' =>
    unfold o7 at hz
    dsimp only at hz
    split at hz
    ·simp only [Option.some.injEq] at hz;rw [←hz];exact hq
    ·exact ht z hz
  ·rw [if_neg hc] at hz;exact ht z hz
theorem Un {C:Cs} {L R:List Iv} (hQ:QSz C L R) {i j:Nat} (hi:i≤L.length) (hj:j≤R.length) {t0:Option Rat} (h0:∀ y,t0=some y→Sz 1000000 y) (p:Nat):∀ y,rq C L R i j t0 p=some y→Sz 1000000 y:=by
 unfold rq
 refine EW _ _ (fun k _ hk hc=>?_) (fun k hk=>(ru (List.mem_of_mem_take hk)).1) h0
 obtain ⟨h1,h2,_⟩:=fV hk hc hi hj
 exact ((hQ.rest _ _ h1 h2).add (hQ.cost k i j hk hc)).sm
theorem Uo {w:World} (vl vr:Value) (C:Cs) (L R:List Iv) (hQ:QSz C L R) (hvl:gq w vl L) (eT:gq w vr R) (hw:Good w) :
  CallsIn Fence.wide 9 Tryz.prog 120 #[uo vl vr C] w fun e w'=>∃ B r,e=.returned (.slice (some ⟨B,0,none⟩) (L.length+1) (L.length+1))∧TabAt w.heap.size w' B r (L.length+1) (R.length+1) (fun a b=>some (bH C L R a b))∧Below w.heap.size w w':=by
 have HTB:=hid (fun W' (hb:Below w.heap.size w W')=>Um vl vr C L R hQ.ok.nl hQ.ok.nr (hvl.below hb) (eT.below hb))
 have HST:=hid (fun W' (hb:Below w.heap.size w W') (i j:Nat)=>JZ 8 vl vr C i j W' L R (hvl.below hb) (eT.below hb))
 have EP:=hid (fun (Bq Bi Bj i j:Nat) (hi:i≤L.length) (hj:j≤R.length) (W':World) (hb:Below w.heap.size w W') h1 h2 h3=>J4 97 8 (by decide) Bq Bi Bj w C L R hQ.ok i j hi hj vl vr hvl eT hw W' hb h1 h2 h3)
 have IQ:=hQ.ok.nl
 have HNR:=hQ.ok.nr
 have HQ:=hid hQ
 obtain ⟨pl,cl,rfl,hcl,hcm⟩:=hvl.slice
 obtain ⟨pr,cr,rfl,gZ,hcm2⟩:=eT.slice
 unfold maxLen at hcm hcm2
 obtain ⟨m,hm1⟩ : ∃ m,m=L.length+1:=⟨_,rfl⟩
 obtain ⟨n,hn1⟩ : ∃ n,n=R.length+1:=⟨_,rfl⟩
 rw [←hm1,←hn1] at HTB ⊢
 have HM:=hid (And.intro hm1 hn1)
 have abR:m≤1000:=by omega
 have abS:n≤1000:=by omega
 clear hvl eT hQ hm1 hn1
 obtain ⟨qo,hqo⟩ : ∃ qo,qo=OA (.slice pl L.length cl) (.slice pr R.length cr) C:=⟨_,rfl⟩
 have HQO:=hid hqo
 obtain ⟨wP,dI⟩ : ∃ wP,wP=w.alloc qo:=⟨_,rfl⟩
 have hsP:wP.heap.size=w.heap.size+1:=by rw [dI];simp
 have gG:Below w.heap.size w wP:=by rw [dI];exact ae _ _
 have hpq:wP.heap[w.heap.size]?=some qo:=by rw [dI];exact World.alloc_heap_new _ _
 have HWP:=hid (show w.alloc (OA (.slice pl L.length cl) (.slice pr R.length cr) C)=wP by rw [dI,hqo])
 rw [hqo] at hpq
 unfold OA at hpq HWP
 unfold uo at *
 clear dI hqo
 obtain ⟨q0,q1,q2,q3,q4,q5⟩:=aU hpq
 refine callsIn_of_wp_marks Tryz.func120 rfl trivial ?_ rfl
 simp only [Tryz.ntmps120,List.size_toArray,List.length_cons,List.length_nil,Nat.reduceAdd,Nat.reduceSub,Array.replicate_succ,Array.replicate_zero,List.push_toArray,List.append_toArray,List.nil_append,List.cons_append]
 gi_wp2_with fail
 rw [HWP.out]
 refine ⟨trivial,?_⟩
 refine (callsIn_wide.2 (HTB.out wP gG)).mono ?_
 rintro e w1 ⟨B,r,rfl,hT,hb1⟩
 have Qx:=gG.trans (hb1.mono gG.size)
 have hp1:=(hb1.block _ (lt_of_some hpq)).trans hpq
 have HT:=hid (hT.sJ gG.size)
 obtain ⟨bo,iy⟩ : ∃ bo,bo=w1.heap.size:=⟨_,rfl⟩
 obtain ⟨wO,RJ⟩ : ∃ wO,wO=w1.alloc (Obj.cells #[.slice (some ⟨B,0,none⟩) m m] 185):=⟨_,rfl⟩
 have Za:Below w1.heap.size w1 wO:=by rw [RJ];exact ae _ _
 have Zb:wO.heap[w1.heap.size]?=some (EU B m):=by rw [RJ];exact World.alloc_heap_new _ _
 have hpO:=(Za.block _ (lt_of_some hp1)).trans hp1
 have sF:=hid (Qx.trans (Za.mono Qx.size))
 have RL:=hid (HT.out.below Za)
 clear hpq q0 q1 q2 q3 q4 q5 hsP HTB hT
 obtain ⟨q0,q1,q2,q3,q4,q5⟩:=aU hpO
 gi_upto_region 2 with fail
 rw [←RJ]
 have HWO:=hid RJ
 have HOO:=hid Zb
 rw [←iy]
 have IU:=hid iy
 clear RJ iy hp1 hb1 Qx Za Zb HWP gG HT
 gi_upto_region 3 with fail
 obtain ⟨wI,J7⟩ : ∃ wI,wI=wO.alloc (Obj.cells #[.int .i64 (L.length:Int)] 3):=⟨_,rfl⟩
 have Qy:Below wO.heap.size wO wI:=by rw [J7];exact ae _ _
 have hiI:wI.heap[wO.heap.size]?=some (Obj.cells #[.int .i64 (L.length:Int)] 3 (0,0)):=by rw [J7];exact World.alloc_heap_new _ _
 rw [←J7]
 have GR:=hid (show RInv w (Obj.cells #[.slice pl L.length cl,.slice pr R.length cr,.string (tx C.ch),.string (tx C.mi),.string (tx C.ga),.string (tx C.re)] 122) B r m n bo (nk C L R m 0) [] wI from
  (RInv.below ⟨RL.out,sF.out,hpO,by rw [IU.out];exact HOO.out,Marks.nil _ _⟩ Qy).congr (fun a b ha _=>by unfold nk;rw [if_neg (by omega)]))
 clear J7 Qy hpO q0 q1 q2 q3 q4 q5 HWO HOO IU RL sF
 generalize ht1:tx C.ch=t1 at *
 generalize ht2:tx C.mi=t2 at *
 generalize ht3:tx C.ga=t3 at *
 generalize Ul:tx C.re=t4 at *
 have QA:=hid (And.intro ht1 (And.intro ht2 (And.intro ht3 Ul)))
 clear ht1 ht2 ht3 Ul
 refine dz (fun g a W=>∃ (bi:Nat) (ds:List Nat) (u5 u6 u7 u8 u9 RN Ej El IV Em IW u16 EX EY EZ u20 u21 u22 u23 u24 u25 u26 u27 u28 u29 u30 u31 u32 u33 u34 u35 u36 u37 u38 E5 u40 E8 u42 E9 u44 u45 u46 Fa u48 u49 Fb u51 Fe u53 Ff u55 Fg Fh u58 u59 u60 J8 OE u63 u64 OG u66 Uq u68 u69 u70:Value),a={ tmps:=#[.agg #[.slice pl L.length cl,.slice pr R.length cr,.string t1,.string t2,.string t3,.string t4],.pointer (some ⟨w.heap.size,0,none⟩),.slice none 0 0,.pointer (some ⟨bo,0,none⟩),.pointer (some ⟨bi,0,none⟩),u5,u6,u7,u8,u9,RN,Ej,El,IV,Em,IW,u16,EX,EY,EZ,u20,u21,u22,u23,u24,u25,u26,u27,u28,u29,u30,u31,u32,u33,u34,u35,u36,u37,u38,E5,u40,E8,u42,E9,u44,u45,u46,Fa,u48,u49,Fb,u51,Fe,u53,Ff,u55,Fg,Fh,u58,u59,u60,J8,OE,u63,u64,OG,u66,Uq,u68,u69,u70],defers:=ds.map Cx }∧W.heap[bi]?=some (Obj.cells #[.int .i64 ((g:Int)-1)] 3 (0,0))∧RInv w (Obj.cells #[.slice pl L.length cl,.slice pr R.length cr,.string t1,.string t2,.string t3,.string t4] 122) B r m n bo (nk C L R g 0) ds W∧g≤m) m ?_ ?_
 ·exact ⟨wO.heap.size,[],_,_,_,_,_,_,_,_,_,_,_,_,_,_,_,_,_,_,_,_,_,_,_,_,_,_,_,_,_,_,_,_,_,_,_,_,_,_,_,_,_,_,_,_,_,_,_,_,_,_,_,_,_,_,_,_,_,_,_,_,_,_,_,_,_,_,rfl,by rw [hiI];congr 5;have:=HM.out.1;omega,GR.out,Nat.le_refl _⟩
 clear GR hiI
 intro g cc QQ hcc QB a W hI
 obtain ⟨bi,hI⟩:=hI
 obtain ⟨ds,hI⟩:=hI
 obtain ⟨u5,hI⟩:=hI
 obtain ⟨u6,hI⟩:=hI
 obtain ⟨u7,hI⟩:=hI
 obtain ⟨u8,hI⟩:=hI
 obtain ⟨u9,hI⟩:=hI
 obtain ⟨RN,hI⟩:=hI
 obtain ⟨Ej,hI⟩:=hI
 obtain ⟨El,hI⟩:=hI
 obtain ⟨IV,hI⟩:=hI
 obtain ⟨Em,hI⟩:=hI
 obtain ⟨IW,hI⟩:=hI
 obtain ⟨u16,hI⟩:=hI
 obtain ⟨EX,hI⟩:=hI
 obtain ⟨EY,hI⟩:=hI
 obtain ⟨EZ,hI⟩:=hI
 obtain ⟨u20,hI⟩:=hI
 obtain ⟨u21,hI⟩:=hI
 obtain ⟨u22,hI⟩:=hI
 obtain ⟨u23,hI⟩:=hI
 obtain ⟨u24,hI⟩:=hI
 obtain ⟨u25,hI⟩:=hI
 obtain ⟨u26,hI⟩:=hI
 obtain ⟨u27,hI⟩:=hI
 obtain ⟨u28,hI⟩:=hI
 obtain ⟨u29,hI⟩:=hI
 obtain ⟨u30,hI⟩:=hI
 obtain ⟨u31,hI⟩:=hI
 obtain ⟨u32,hI⟩:=hI
 obtain ⟨u33,hI⟩:=hI
 obtain ⟨u34,hI⟩:=hI
 obtain ⟨u35,hI⟩:=hI
 obtain ⟨u36,hI⟩:=hI
 obtain ⟨u37,hI⟩:=hI
 obtain ⟨u38,hI⟩:=hI
 obtain ⟨E5,hI⟩:=hI
 obtain ⟨u40,hI⟩:=hI
 obtain ⟨E8,hI⟩:=hI
 obtain ⟨u42,hI⟩:=hI
 obtain ⟨E9,hI⟩:=hI
 obtain ⟨u44,hI⟩:=hI
 obtain ⟨u45,hI⟩:=hI
 obtain ⟨u46,hI⟩:=hI
 obtain ⟨Fa,hI⟩:=hI
 obtain ⟨u48,hI⟩:=hI
 obtain ⟨u49,hI⟩:=hI
 obtain ⟨Fb,hI⟩:=hI
 obtain ⟨u51,hI⟩:=hI
 obtain ⟨Fe,hI⟩:=hI
 obtain ⟨u53,hI⟩:=hI
 obtain ⟨Ff,hI⟩:=hI
 obtain ⟨u55,hI⟩:=hI
 obtain ⟨Fg,hI⟩:=hI
 obtain ⟨Fh,hI⟩:=hI
 obtain ⟨u58,hI⟩:=hI
 obtain ⟨u59,hI⟩:=hI
 obtain ⟨u60,hI⟩:=hI
 obtain ⟨J8,hI⟩:=hI
 obtain ⟨OE,hI⟩:=hI
 obtain ⟨u63,hI⟩:=hI
 obtain ⟨u64,hI⟩:=hI
 obtain ⟨OG,hI⟩:=hI
 obtain ⟨u66,hI⟩:=hI
 obtain ⟨Uq,hI⟩:=hI
 obtain ⟨u68,hI⟩:=hI
 obtain ⟨u69,hI⟩:=hI
 obtain ⟨u70,hI⟩:=hI
 obtain ⟨ha,hbi,qj,hgm⟩:=hI
 subst ha hcc QB
 cases g with
 | zero =>
  have z0:=(one_cell hbi).1
  have y0:W.cell? ⟨bo,0,none⟩=some (.slice (some ⟨B,0,none⟩) m m):=(one_cell qj.ob).1
  have GR:=hid qj
  clear hbi qj
  gi_wp2
  refine ib ds W GR.out.ms (fun W' hs=>⟨_,by simp [results,Tryz.results120,go_sem],B,r,rfl,(GR.out.tab.shut hs).congr (fun a b _ _=>by unfold nk;rw [if_pos (by omega)]),GR.out.low.trans hs.1⟩)
 | succ i =>
  have hci:((i+1:Nat):Int)-1=(i:Int):=by omega
  rw [hci] at hbi
  have z0:=(one_cell hbi).1
  have i0:decide ((0:Int)≤(i:Int))=true:=decide_eq_true (by omega)
  obtain ⟨q0,q1,q2,q3,q4,q5⟩:=aU qj.qb
  have Uk:=hid hbi
  have GR:=hid qj
  have HLI:=hid (aa hbi)
  have Ur:=hid (aa hbi)
  clear hbi qj hci
  gi_upto_region 6 with fail
  obtain ⟨wJ,hwJ⟩ : ∃ wJ,wJ=W.alloc (Obj.cells #[.int .i64 (R.length:Int)] 3):=⟨_,rfl⟩
  have yz:Below W.heap.size W wJ:=by rw [hwJ];exact ae _ _
  have hjJ:wJ.heap[W.heap.size]?=some (Obj.cells #[.int .i64 (R.length:Int)] 3 (0,0)):=by rw [hwJ];exact World.alloc_heap_new _ _
  rw [←hwJ]
  have OC:=hid ((yz.block _ HLI.out).trans Uk.out)
  have HRJ:=hid ((GR.out.below yz).congr (G:=nk C L R i n) (fun a b _ hb=>by
   unfold nk
   by_cases h:i<a
   ·rw [if_pos (by omega),if_pos (by omega)]
   ·rw [if_neg (by omega),if_neg (by omega)]))
  clear hwJ yz q0 q1 q2 q3 q4 q5 z0 GR Uk HLI i0
  refine dz (fun g a W=>∃ (bj:Nat) (ds:List Nat) (u6 u7 u8 u9 RN Ej El IV Em IW u16 EX EY EZ u20 u21 u22 u23 u24 u25 u26 u27 u28 u29 u30 u31 u32 u33 u34 u35 u36 u37 u38 E5 u40 E8 u42 E9 u44 u45 u46 Fa u48 u49 Fb u51 Fe u53 Ff u55 Fg Fh u58 u59 u60 J8 OE u63 u64 OG u66 Uq u68 u69 u70:Value),a={ tmps:=#[.agg #[.slice pl L.length cl,.slice pr R.length cr,.string t1,.string t2,.string t3,.string t4],.pointer (some ⟨w.heap.size,0,none⟩),.slice none 0 0,.pointer (some ⟨bo,0,none⟩),.pointer (some ⟨bi,0,none⟩),.pointer (some ⟨bj,0,none⟩),u6,u7,u8,u9,RN,Ej,El,IV,Em,IW,u16,EX,EY,EZ,u20,u21,u22,u23,u24,u25,u26,u27,u28,u29,u30,u31,u32,u33,u34,u35,u36,u37,u38,E5,u40,E8,u42,E9,u44,u45,u46,Fa,u48,u49,Fb,u51,Fe,u53,Ff,u55,Fg,Fh,u58,u59,u60,J8,OE,u63,u64,OG,u66,Uq,u68,u69,u70],defers:=ds.map Cx }∧W.heap[bj]?=some (Obj.cells #[.int .i64 ((g:Int)-1)] 3 (0,0))∧W.heap[bi]?=some (Obj.cells #[.int .i64 (i:Int)] 3 (0,0))∧RInv w (Obj.cells #[.slice pl L.length cl,.slice pr R.length cr,.string t1,.string t2,.string t3,.string t4] 122) B r m n bo (nk C L R i g) ds W∧g≤n∧bi≠bj) n ?_ ?_
  ·exact ⟨W.heap.size,ds,_,_,_,_,_,_,_,_,_,_,_,_,_,_,_,_,_,_,_,_,_,_,_,_,_,_,_,_,_,_,_,_,_,_,_,_,_,_,_,_,_,_,_,_,_,_,_,_,_,_,_,_,_,_,_,_,_,_,_,_,_,_,_,_,_,rfl,by rw [hjJ];congr 5;have:=HM.out.2;omega,OC.out,HRJ.out,Nat.le_refl _,by have:=Ur.out;omega⟩
  clear HRJ hjJ OC Ur
  intro g cc QQ hcc QB a W hI
  obtain ⟨bj,hI⟩:=hI
  obtain ⟨ds,hI⟩:=hI
  obtain ⟨u6,hI⟩:=hI
  obtain ⟨u7,hI⟩:=hI
  obtain ⟨u8,hI⟩:=hI
  obtain ⟨u9,hI⟩:=hI
  obtain ⟨RN,hI⟩:=hI
  obtain ⟨Ej,hI⟩:=hI
  obtain ⟨El,hI⟩:=hI
  obtain ⟨IV,hI⟩:=hI
  obtain ⟨Em,hI⟩:=hI
  obtain ⟨IW,hI⟩:=hI
  obtain ⟨u16,hI⟩:=hI
  obtain ⟨EX,hI⟩:=hI
  obtain ⟨EY,hI⟩:=hI
  obtain ⟨EZ,hI⟩:=hI
  obtain ⟨u20,hI⟩:=hI
  obtain ⟨u21,hI⟩:=hI
  obtain ⟨u22,hI⟩:=hI
  obtain ⟨u23,hI⟩:=hI
  obtain ⟨u24,hI⟩:=hI
  obtain ⟨u25,hI⟩:=hI
  obtain ⟨u26,hI⟩:=hI
  obtain ⟨u27,hI⟩:=hI
  obtain ⟨u28,hI⟩:=hI
  obtain ⟨u29,hI⟩:=hI
  obtain ⟨u30,hI⟩:=hI
  obtain ⟨u31,hI⟩:=hI
  obtain ⟨u32,hI⟩:=hI
  obtain ⟨u33,hI⟩:=hI
  obtain ⟨u34,hI⟩:=hI
  obtain ⟨u35,hI⟩:=hI
  obtain ⟨u36,hI⟩:=hI
  obtain ⟨u37,hI⟩:=hI
  obtain ⟨u38,hI⟩:=hI
  obtain ⟨E5,hI⟩:=hI
  obtain ⟨u40,hI⟩:=hI
  obtain ⟨E8,hI⟩:=hI
  obtain ⟨u42,hI⟩:=hI
  obtain ⟨E9,hI⟩:=hI
  obtain ⟨u44,hI⟩:=hI
  obtain ⟨u45,hI⟩:=hI
  obtain ⟨u46,hI⟩:=hI
  obtain ⟨Fa,hI⟩:=hI
  obtain ⟨u48,hI⟩:=hI
  obtain ⟨u49,hI⟩:=hI
  obtain ⟨Fb,hI⟩:=hI
  obtain ⟨u51,hI⟩:=hI
  obtain ⟨Fe,hI⟩:=hI
  obtain ⟨u53,hI⟩:=hI
  obtain ⟨Ff,hI⟩:=hI
  obtain ⟨u55,hI⟩:=hI
  obtain ⟨Fg,hI⟩:=hI
  obtain ⟨Fh,hI⟩:=hI
  obtain ⟨u58,hI⟩:=hI
  obtain ⟨u59,hI⟩:=hI
  obtain ⟨u60,hI⟩:=hI
  obtain ⟨J8,hI⟩:=hI
  obtain ⟨OE,hI⟩:=hI
  obtain ⟨u63,hI⟩:=hI
  obtain ⟨u64,hI⟩:=hI
  obtain ⟨OG,hI⟩:=hI
  obtain ⟨u66,hI⟩:=hI
  obtain ⟨Uq,hI⟩:=hI
  obtain ⟨u68,hI⟩:=hI
  obtain ⟨u69,hI⟩:=hI
  obtain ⟨u70,hI⟩:=hI
  obtain ⟨ha,hbj,hbi,qj,hgn,hij⟩:=hI
  subst ha hcc QB
  cases g with
  | zero =>
   have z0:=(one_cell hbi).1
   have z1:=(one_cell hbj).1
   have t5:IntKind.i64.wrap ((i:Int)-1)=(i:Int)-1:=IntWalk.i64_in _ (by omega)
   have GR:=hid qj
   have Uk:=hid hbi
   clear hbi qj hbj
   gi_wp2
   refine ⟨i,Nat.lt_succ_self _,W.heap.size,ds,_,_,_,_,_,_,_,_,_,_,_,_,_,_,_,_,_,_,_,_,_,_,_,_,_,_,_,_,_,_,_,_,_,_,_,_,_,_,_,_,_,_,_,_,_,_,_,_,_,_,_,_,_,_,_,_,_,_,_,_,_,_,_,_,_,_,rfl,?_,?_,by omega⟩
   ·exact World.alloc_heap_new _ _
   ·exact GR.out.below (ae _ _)
  | succ j =>
   have hcj:((j+1:Nat):Int)-1=(j:Int):=by omega
   rw [hcj] at hbj
   have z0:=(one_cell hbi).1
   have z1:=(one_cell hbj).1
   have o0:W.cell? ⟨bo,0,none⟩=some (.slice (some ⟨B,0,none⟩) m m):=(one_cell qj.ob).1
   have j0:decide ((0:Int)≤(j:Int))=true:=decide_eq_true (by omega)
   obtain ⟨q0,q1,q2,q3,q4,q5⟩:=aU qj.qb
   have Uk:=hid hbi
   have OC:=hid hbj
   rw [←Qw] at qj
   have GR:=hid qj
   clear hbi hbj qj hcj
   by_cases hei:i=L.length
   ·by_cases hej:j=R.length
    ·subst hei hej
     have n1:L.length<m:=by omega
     have n2:R.length<n:=by omega
     have ec:=(GR.out.tab.outer.cell (i:=L.length) (by omega))
     have lbi:=aa Uk.out
     have lbj:=aa OC.out
     have lbo:=aa GR.out.ob
     have lB:=GR.out.tab.lt.1
     have i1:(0:Int)≤(L.length:Int):=by omega
     have i2:(L.length:Int)<(m:Int):=by omega
     have j1:(0:Int)≤(R.length:Int):=by omega
     have j2:(R.length:Int)<(n:Int):=by omega
     gi_wp2
     refine fM bW (fun W'=>Below W.heap.size W W') (.take 0 (.take 1 (.take 2 (.take 3 (.take 4 (.take 5 .fin)))))) 6 (by kernel_rfl) (by kernel_rfl) (by kernel_rfl) ⟨rfl,rfl,rfl,Nat.le_refl _,fun _ _=>rfl⟩ ?_
     have cO:Below W.heap.size W W.drew:=⟨rfl,rfl,rfl,Nat.le_refl _,fun _ _=>rfl⟩
     generalize W.drew=dP at *
     iterate 6
      refine bJ rfl ?_ rfl ?_ ?_
      rotate_left
      ·intro W' hS'
       have s0:=(hS'.cell (p:=⟨bi,0,none⟩) lbi).trans z0
       have s1:=(hS'.cell (p:=⟨bj,0,none⟩) lbj).trans z1
       have s2:=(hS'.cell (p:=⟨bo,0,none⟩) lbo).trans o0
       have s3:=(hS'.cell (p:=⟨B,L.length,none⟩) lB).trans ec
       go_simp
       try with_reducible rfl
      try simp only [zA,zB,zC,Act.put,zD,zE,zF]
     unfold gU
     simp only [List.drop_succ_cons,List.drop_zero]
     have hrD:=GR.out.below cO
     have hc1:=(hrD.tab.rows L.length (by omega)).cell (i:=R.length) (by omega)
     have hc2:=(hrD.tab.rows L.length (by omega)).frozen R.length
     have h48:Value.string ⟨#[48]⟩=.string (ot (some 0)):=by show _=Value.string (tx 0);rw [tx0]
     have yu:=hid (show RInv w _ B r m n bo (xh C L R L.length R.length (some 0)) ds (dP.setCell ⟨r L.length,R.length,none⟩ (.string ⟨#[48]⟩)) from by
      rw [h48]
      exact (hrD.row (by omega) (hrD.tab.put (by omega) (some 0)) (bQ _ _ _ _) (by decide)).congr (fun a b _ _=>by rw [Cz]))
     have sV:∀ (k:Nat) (v:Int),W.heap[k]?=some (Obj.cells #[.int .i64 v] 3 (0,0))→k≠r L.length:=fun k v hk e=>by
      obtain ⟨c,hc,_⟩:=GR.out.tab.rows L.length (by omega)
      rw [←e,hk] at hc
      cases hc
     clear h48 q0 q1 q2 q3 q4 q5 z0 z1 o0 ec
     gi_upto_region 10 with fail
     obtain ⟨WX,hWX⟩ : ∃ q,q=dP.setCell ⟨r L.length,R.length,none⟩ (.string ⟨#[48]⟩):=⟨_,rfl⟩
     rw [←hWX] at yu ⊢
     have hxi:WX.heap[bi]?=some (Obj.cells #[.int .i64 (L.length:Int)] 3 (0,0)):=by
      rw [hWX,Below.heap_setCell _ _ _ _ (sV bi _ Uk.out)]
      exact (cO.block _ lbi).trans Uk.out
     have hxj:WX.heap[bj]?=some (Obj.cells #[.int .i64 (R.length:Int)] 3 (0,0)):=by
      rw [hWX,Below.heap_setCell _ _ _ _ (sV bj _ OC.out)]
      exact (cO.block _ lbj).trans OC.out
     have OH:=hid (And.intro hxi hxj)
     have z0:=(one_cell hxi).1
     have z1:=(one_cell hxj).1
     obtain ⟨q0,q1,q2,q3,q4,q5⟩:=aU yu.out.qb
     clear hxi hxj hWX hrD hc1 hc2 cO
     gi_wp2_with fail
     refine ⟨trivial,?_⟩
     refine (HST.out WX yu.out.low L.length R.length).mono ?_
     rintro e wS ⟨rfl,qL⟩
     obtain ⟨hbS,II,k1,k2,k3⟩:=dW qL
     have HK:=hid (And.intro k1 (And.intro k2 k3))
     have tF:=hid hbS
     have mH:=hid II
     have lxi:=aa OH.out.1
     have lxj:=aa OH.out.2
     have zL:=hid (yu.out.rlt.mono (show WX.heap.size≤wS.heap.size by omega))
     have Us:=hid (show CB w (Obj.cells #[.slice pl L.length cl,.slice pr R.length cr,.string t1,.string t2,.string t3,.string t4] 122) B r m n bo C L R L.length R.length bi bj ds (some 0) wS.heap.size 0 wS from
      ⟨yu.out.below hbS,(hbS.block _ lxi).trans OH.out.1,(hbS.block _ lxj).trans OH.out.2,Nat.le_refl _⟩)
     have yA:=hid (yu.out.low.trans (hbS.mono yu.out.low.size))
     have Lu:∀ b∈[WX.heap.size,WX.heap.size+1,WX.heap.size+2],b<wS.heap.size:=by
      intro b hb
      simp only [List.mem_cons,List.not_mem_nil,or_false] at hb
      omega
     clear qL hbS II k1 k2 k3 q0 q1 q2 q3 q4 q5 z0 z1
     gi_wp2
     refine fu (n:=9) 48 49 6 7 C L R L.length R.length rfl (by decide) (gf:=237) (lb:=#[.pointer (some ⟨WX.heap.size+1,0,none⟩),.pointer (some ⟨WX.heap.size+2,0,none⟩),.pointer (some ⟨WX.heap.size,0,none⟩)]) rfl trivial (enters_of Tryz.func237 (by kernel_rfl) rfl)
      (EP.out WX.heap.size (WX.heap.size+1) (WX.heap.size+2) L.length R.length (Nat.le_refl _) (Nat.le_refl _) wS yA.out HK.out.1 HK.out.2.1 HK.out.2.2)
      ek.trans (ek.put yA.out.size Lu) (Below.refl _ _) (fun _=>rfl)
      (CB w (Obj.cells #[.slice pl L.length cl,.slice pr R.length cr,.string t1,.string t2,.string t3,.string t4] 122) B r m n bo C L R L.length R.length bi bj ds (some 0) wS.heap.size) (fun _ _ _=>False) (CB.own zL.out (by have:=mH.out;omega) (by have:=mH.out;omega)) (fun _ _ _ _ _ hs _ _=>hs) Us.out ?assign ?body ?done ?stop
     case assign =>
      intro l p k hp hk W0 K hi hK
      have hsz:=hi.sz
      have HI:=hid hi
      have HKK:=hid hK
      simp only [uq,ow]
      obtain ⟨tc,htc⟩ : ∃ t,t=tx (cK C L R k L.length R.length):=⟨_,rfl⟩
      rw [←htc]
      have Y8:=hid htc
      clear hi hK htc
      gi_wp2
      refine HKK.out _ _ (aN (ae _ _)) (ek.of_below (ae _ _) (Nat.le_trans yA.out.size hsz) (fun b hb=>Nat.lt_of_lt_of_le (Lu b hb) hsz)) ⟨HI.out.ri.below (ae _ _),dN _ _ HI.out.bi,dN _ _ HI.out.bj,by simp;omega⟩ ⟨W0.heap.size,hsz,World.alloc_heap_new _ _,?_⟩
      rw [←Y8.out]
      rfl
     case body =>
      intro l p k hp
      rw [J6] at hp
      exact absurd hp (Nat.not_lt_zero _)
     case done =>
      intro Dk W0 hD hi hK
      have hacc:rq C L R L.length R.length (some 0) (eX L R L.length R.length).length=some (bH C L R L.length R.length):=by
       have h:=Cy (C:=C) (L:=L) (R:=R) (Nat.le_refl _) (Nat.le_refl _)
       unfold t0Q at h
       rwa [if_pos ⟨rfl,rfl⟩] at h
      have qj:=hi.ri
      rw [hacc,yx] at qj
      have hM:=Marks.cons qj.ms (show w.heap.size≤Dk by have:=yA.out.size;omega) hK (fun h=>by have:=zL.out.ds _ h;omega)
      have Ut:=hid (show RInv w (Obj.cells #[.slice pl L.length cl,.slice pr R.length cr,.string t1,.string t2,.string t3,.string t4] 122) B r m n bo (nk C L R L.length R.length) (Dk :: ds) W0 from ⟨qj.tab,qj.low,qj.qb,qj.ob,hM⟩)
      have HI:=hid hi
      have z1:=(one_cell hi.bj).1
      have t5:IntKind.i64.wrap ((R.length:Int)-1)=(R.length:Int)-1:=IntWalk.i64_in _ (by omega)
      clear hi qj hM hK hacc
      gi_wp2
      refine ⟨R.length,Nat.lt_succ_self _,W0.heap.size,Dk :: ds,_,_,_,_,_,_,_,_,_,_,_,_,_,_,_,_,_,_,_,_,_,_,_,_,_,_,_,_,_,_,_,_,_,_,_,_,_,_,_,_,_,_,_,_,_,_,_,_,_,_,_,_,_,_,_,_,_,_,_,_,_,_,_,_,_,rfl,?_,?_,?_,by omega,?_⟩
      ·exact World.alloc_heap_new _ _
      ·exact dN _ _ HI.out.bi
      ·exact Ut.out.below (ae _ _)
      ·have:=aa HI.out.bi
       omega
     case stop =>
      rintro Dk c k W hD hk hf hK
      exact hf.elim
    ·subst hei
     gi_upto_region 10 with fail
     have yu:=GR
     have OH:=hid (And.intro Uk.out OC.out)
     gi_wp2_with fail
     refine ⟨trivial,?_⟩
     refine (HST.out W yu.out.low L.length j).mono ?_
     rintro e wS ⟨rfl,qL⟩
     obtain ⟨hbS,II,k1,k2,k3⟩:=dW qL
     have HK:=hid (And.intro k1 (And.intro k2 k3))
     have tF:=hid hbS
     have mH:=hid II
     have lxi:=aa OH.out.1
     have lxj:=aa OH.out.2
     have zL:=hid (yu.out.rlt.mono (show W.heap.size≤wS.heap.size by omega))
     have Us:=hid (show CB w (Obj.cells #[.slice pl L.length cl,.slice pr R.length cr,.string t1,.string t2,.string t3,.string t4] 122) B r m n bo C L R L.length j bi bj ds none wS.heap.size 0 wS from
      ⟨yu.out.below hbS,(hbS.block _ lxi).trans OH.out.1,(hbS.block _ lxj).trans OH.out.2,Nat.le_refl _⟩)
     have yA:=hid (yu.out.low.trans (hbS.mono yu.out.low.size))
     have Lu:∀ b∈[W.heap.size,W.heap.size+1,W.heap.size+2],b<wS.heap.size:=by
      intro b hb
      simp only [List.mem_cons,List.not_mem_nil,or_false] at hb
      omega
     clear qL hbS II k1 k2 k3 q0 q1 q2 q3 q4 q5 z0 z1
     gi_wp2
     refine fu (n:=9) 48 49 6 7 C L R L.length j rfl (by decide) (gf:=237) (lb:=#[.pointer (some ⟨W.heap.size+1,0,none⟩),.pointer (some ⟨W.heap.size+2,0,none⟩),.pointer (some ⟨W.heap.size,0,none⟩)]) rfl trivial (enters_of Tryz.func237 (by kernel_rfl) rfl)
      (EP.out W.heap.size (W.heap.size+1) (W.heap.size+2) L.length j (by have:=HM.out.1;omega) (by have:=HM.out.2;omega) wS yA.out HK.out.1 HK.out.2.1 HK.out.2.2)
      ek.trans (ek.put yA.out.size Lu) (Below.refl _ _) (fun _=>rfl)
      (CB w (Obj.cells #[.slice pl L.length cl,.slice pr R.length cr,.string t1,.string t2,.string t3,.string t4] 122) B r m n bo C L R L.length j bi bj ds none wS.heap.size) (fun _ _ _=>False) (CB.own zL.out (by have:=mH.out;omega) (by have:=mH.out;omega)) (fun _ _ _ _ _ hs _ _=>hs) Us.out ?assign ?body ?done ?stop
     case assign =>
      intro l p k hp hk W0 K hi hK
      have hsz:=hi.sz
      have HI:=hid hi
      have HKK:=hid hK
      simp only [uq,ow]
      obtain ⟨tc,htc⟩ : ∃ t,t=tx (cK C L R k L.length j):=⟨_,rfl⟩
      rw [←htc]
      have Y8:=hid htc
      clear hi hK htc
      gi_wp2
      refine HKK.out _ _ (aN (ae _ _)) (ek.of_below (ae _ _) (Nat.le_trans yA.out.size hsz) (fun b hb=>Nat.lt_of_lt_of_le (Lu b hb) hsz)) ⟨HI.out.ri.below (ae _ _),dN _ _ HI.out.bi,dN _ _ HI.out.bj,by simp;omega⟩ ⟨W0.heap.size,hsz,World.alloc_heap_new _ _,?_⟩
      rw [←Y8.out]
      rfl
     case body =>
      rintro l p k hp hpk hk xR a' W0 hl hinv ⟨B6,hB6,hd6,rfl⟩
      simp only [List.setIfInBounds_toArray,List.set_cons_zero,List.set_cons_succ,ow]
      have eQ:=hid hinv
      have uW:=hid (fun W'=>xc k L.length j hk (by have:=HM.out.1;omega) (by have:=HM.out.2;omega) W')
      unfold ow RV at uW
      obtain ⟨g0,g1,g2⟩:=av hd6
      clear hinv hd6
      gi_wp2_with fail
      refine ⟨trivial,?_⟩
      refine (CallsIn.inRound l (callsIn_wide.2 (uW.out W0))).mono ?_
      rintro e W1 ⟨rfl,hb1⟩
      obtain ⟨hA1,hA2,hA3⟩:=fV hk xR (show L.length≤L.length by have:=HM.out.1;omega) (show j≤R.length by have:=HM.out.2;omega)
      obtain ⟨hA4,hA5⟩:=Si k L.length j
      have HI1:=hid (eQ.out.ri.below hb1)
      have Uu:=hid hb1
      have CE:=(hb1.block _ (aa eQ.out.bi)).trans eQ.out.bi
      have CF:=(hb1.block _ (aa eQ.out.bj)).trans eQ.out.bj
      have o1:W1.cell? ⟨bo,0,none⟩=some (.slice (some ⟨B,0,none⟩) m m):=(one_cell HI1.out.ob).1
      have b1:=(one_cell CE).1
      have b2:=(one_cell CF).1
      have lo:=aa HI1.out.ob
      have li:=aa CE
      have lj:=aa CF
      have lB:=HI1.out.tab.lt.1
      have ea:=HI1.out.tab.outer.cell (i:=gF k L.length) (by have:=HM.out.1;omega)
      have eb:W1.cell? ⟨r (gF k L.length),iC k j,none⟩=some (.string (tx (bH C L R (gF k L.length) (iC k j)))):=by
       have h:=(HI1.out.tab.rows (gF k L.length) (by have:=HM.out.1;omega)).cell (i:=iC k j) (by have:=HM.out.2;omega)
       rw [zM C L R _ ⟨hA4,hA5,hA3⟩] at h
       exact h
      have lA:=HI1.out.tab.lt.2 (gF k L.length) (by have:=HM.out.1;omega)
      have HAD:=hid (fun W' (hg:Good W')=>uj (bH C L R (gF k L.length) (iC k j)) (cK C L R k L.length j) ((HQ.out.rest _ _ hA1 hA2).sm) ((HQ.out.cost k L.length j hk xR).sm) W' hg)
      have HIM:=hid (fun W' (hT:TabAt w.heap.size W' B r m n (xh C L R L.length j (rq C L R L.length j none p))) (hg:Good W')=>Cw w.heap.size B r m n _ L.length j (by have:=HM.out.1;omega) (by have:=HM.out.2;omega) (bH C L R (gF k L.length) (iC k j)+cK C L R k L.length j) (((HQ.out.rest _ _ hA1 hA2).add (HQ.out.cost k L.length j hk xR)).sm) (fun y hy=>by rw [AP] at hy;exact Un HQ.out (by have:=HM.out.1;omega) (by have:=HM.out.2;omega) (fun y hy=>by cases hy) p y hy) hT hg)
      have abT:=hid (show rq C L R L.length j none (p+1)=o7 (rq C L R L.length j none p) (bH C L R (gF k L.length) (iC k j)+cK C L R k L.length j) by have h:=ET C L R L.length j none hp;rw [hpk] at h;exact h)
      unfold RV at HAD
      have a1:(0:Int)≤((gF k L.length:Nat):Int):=by omega
      have a2:((gF k L.length:Nat):Int)<(m:Int):=by have:=HM.out.1;omega
      have a3:(0:Int)≤((iC k j:Nat):Int):=by omega
      have a4:((iC k j:Nat):Int)<(n:Int):=by have:=HM.out.2;omega
      clear hA1 hA2 hA3 hA4 hA5 g0 g1 g2 hb1 CE CF uW
      generalize gF k L.length=nA at *
      generalize iC k j=nB at *
      generalize DD:r nA=rA at *
      have J9:=hid DD
      clear DD
      obtain ⟨tc,htc⟩ : ∃ t,t=tx (cK C L R k L.length j):=⟨_,rfl⟩
      obtain ⟨tr,htr⟩ : ∃ t,t=tx (bH C L R nA nB):=⟨_,rfl⟩
      obtain ⟨ts,hts⟩ : ∃ t,t=tx (bH C L R nA nB+cK C L R k L.length j):=⟨_,rfl⟩
      rw [←htc,←htr,←hts] at HAD
      rw [←hts] at HIM
      rw [←htr] at eb
      rw [←htc]
      clear htc htr hts
      gi_upto_region 14 with fail
      refine fM jU (fun W'=>Below W1.heap.size W1 W') (.take 0 (.take 1 (.take 2 (.take 3 (.take 4 (.take 5 (.take 6 (.take 7 (.take 8 (.take 9 (.take 10 (.one 11 .fin)))))))))))) 12 (by kernel_rfl) (by kernel_rfl) (by kernel_rfl) ⟨rfl,rfl,rfl,Nat.le_refl _,fun _ _=>rfl⟩ ?_
      have cO:Below W1.heap.size W1 W1.drew:=⟨rfl,rfl,rfl,Nat.le_refl _,fun _ _=>rfl⟩
      generalize W1.drew=dP at *
      iterate 11
       refine bJ rfl ?_ rfl ?_ ?_
       rotate_left
       ·intro W' hS'
        have s0:=(hS'.cell (p:=⟨bo,0,none⟩) lo).trans o1
        have s1:=(hS'.cell (p:=⟨bi,0,none⟩) li).trans b1
        have s2:=(hS'.cell (p:=⟨bj,0,none⟩) lj).trans b2
        have s3:=(hS'.cell (p:=⟨B,nA,none⟩) lB).trans ea
        have s4:=(hS'.cell (p:=⟨rA,nB,none⟩) lA).trans eb
        go_simp
        try with_reducible rfl
       try simp only [zA,zB,zC,Act.put,zD,zE,zF]
      refine aM rfl rfl (fun K hK=>?_)
      go_simp
      refine (HAD.out _ (hw.below (HI1.out.low.trans (cO.mono HI1.out.low.size)))).mono ?_
      rintro e gy ⟨rfl,bR⟩
      have hP1:=cO.trans (bR.mono cO.size)
      refine hK _ _ ⟨hP1,?_⟩
      clear hK K
      try simp only [zA,zB,zC,Act.put,zD,zE,zF]
      unfold gU
      simp only [List.drop_succ_cons,List.drop_zero]
      have HI2:=hid (HI1.out.below hP1)
      have HB2:=hid (Uu.out.trans (hP1.mono Uu.out.size))
      clear o1 b1 b2 ea eb
      gi_wp2_with fail
      refine ⟨trivial,?_⟩
      refine (CallsIn.inRound l (callsIn_wide.2 (HIM.out gy HI2.out.tab (hw.below HI2.out.low)))).mono ?_
      rintro e W3 ⟨⟨v3,rfl⟩,QC,hg3⟩
      have HI3:=hid (HI2.out.row (by have:=HM.out.1;omega) QC hg3 (by decide))
      have HT3:=hid (And.intro QC hg3)
      clear QC hg3
      have hKS:∀ b∈[W.heap.size,W.heap.size+1,W.heap.size+2],W3.heap[b]?=gy.heap[b]?:=fun b hb=>HT3.out.2.block b (Nat.lt_of_lt_of_le (Lu b hb) (Nat.le_trans eQ.out.sz HB2.out.size)) (fun e=>by
       have h1:=yu.out.rlt.r L.length (by have:=HM.out.1;omega)
       have h2:b=r L.length:=by cases e;rfl
       simp only [List.mem_cons,List.not_mem_nil,or_false] at hb
       omega)
      have HKS:=hid hKS
      have hNE:∀ (b:Nat) (v:Int),gy.heap[b]?=some (Obj.cells #[.int .i64 v] 3 (0,0))→W3.heap[b]?=some (Obj.cells #[.int .i64 v] 3 (0,0)):=fun b v hb=>(HT3.out.2.block b (aa hb) (fun e=>by
       have h2:b=r L.length:=by cases e;rfl
       obtain ⟨c,hc,_⟩:=HI2.out.tab.rows L.length (by have:=HM.out.1;omega)
       rw [←h2,hb] at hc
       cases hc)).trans hb
      have sV:=hid hNE
      clear hKS hNE
      gi_wp2
      refine ⟨(aN HB2.out).trans (KeepsFrom.of_grownBy HT3.out.2 (fun j e=>by cases e;exact zL.out.r L.length (by have:=HM.out.1;omega))),(ek.of_below HB2.out (Nat.le_trans yA.out.size eQ.out.sz) (fun b hb=>Nat.lt_of_lt_of_le (Lu b hb) eQ.out.sz)).trans ⟨⟨HT3.out.2.os,HT3.out.2.tape,HT3.out.2.output,HT3.out.2.size,fun k hk=>HT3.out.2.block k (Nat.lt_of_lt_of_le hk HI2.out.low.size) (fun e=>by
        have h2:k=r L.length:=by cases e;rfl
        have h3:=HI2.out.tab.base.2 L.length (by have:=HM.out.1;omega)
        omega)⟩,HKS.out⟩,⟨HI3.out.congr (fun a b _ _=>by rw [Cz,AP,abT.out]),sV.out _ _ ((HB2.out.block _ (aa eQ.out.bi)).trans eQ.out.bi),sV.out _ _ ((HB2.out.block _ (aa eQ.out.bj)).trans eQ.out.bj),Nat.le_trans eQ.out.sz (Nat.le_trans HB2.out.size HT3.out.2.size)⟩⟩
     case done =>
      intro Dk W0 hD hi hK
      have hacc:rq C L R L.length j none (eX L R L.length j).length=some (bH C L R L.length j):=by
       have h:=Cy (C:=C) (L:=L) (i:=L.length) (j:=j) (R:=R) (by have:=HM.out.1;omega) (by have:=HM.out.2;omega)
       unfold t0Q at h
       rwa [if_neg (fun h=>hej h.2)] at h
      have qj:=hi.ri
      rw [hacc,yx] at qj
      have hM:=Marks.cons qj.ms (show w.heap.size≤Dk by have:=yA.out.size;omega) hK (fun h=>by have:=zL.out.ds _ h;omega)
      have Ut:=hid (show RInv w (Obj.cells #[.slice pl L.length cl,.slice pr R.length cr,.string t1,.string t2,.string t3,.string t4] 122) B r m n bo (nk C L R L.length j) (Dk :: ds) W0 from ⟨qj.tab,qj.low,qj.qb,qj.ob,hM⟩)
      have HI:=hid hi
      have z1:=(one_cell hi.bj).1
      have t5:IntKind.i64.wrap ((j:Int)-1)=(j:Int)-1:=IntWalk.i64_in _ (by omega)
      clear hi qj hM hK hacc
      gi_wp2
      refine ⟨j,Nat.lt_succ_self _,W0.heap.size,Dk :: ds,_,_,_,_,_,_,_,_,_,_,_,_,_,_,_,_,_,_,_,_,_,_,_,_,_,_,_,_,_,_,_,_,_,_,_,_,_,_,_,_,_,_,_,_,_,_,_,_,_,_,_,_,_,_,_,_,_,_,_,_,_,_,_,_,_,rfl,?_,?_,?_,by omega,?_⟩
      ·exact World.alloc_heap_new _ _
      ·exact dN _ _ HI.out.bi
      ·exact Ut.out.below (ae _ _)
      ·have:=aa HI.out.bi
       omega
     case stop =>
      rintro Dk c k W hD hk hf hK
      exact hf.elim
   ·gi_upto_region 10 with fail
    have yu:=GR
    have OH:=hid (And.intro Uk.out OC.out)
    gi_wp2_with fail
    refine ⟨trivial,?_⟩
    refine (HST.out W yu.out.low i j).mono ?_
    rintro e wS ⟨rfl,qL⟩
    obtain ⟨hbS,II,k1,k2,k3⟩:=dW qL
    have HK:=hid (And.intro k1 (And.intro k2 k3))
    have tF:=hid hbS
    have mH:=hid II
    have lxi:=aa OH.out.1
    have lxj:=aa OH.out.2
    have zL:=hid (yu.out.rlt.mono (show W.heap.size≤wS.heap.size by omega))
    have Us:=hid (show CB w (Obj.cells #[.slice pl L.length cl,.slice pr R.length cr,.string t1,.string t2,.string t3,.string t4] 122) B r m n bo C L R i j bi bj ds none wS.heap.size 0 wS from
     ⟨yu.out.below hbS,(hbS.block _ lxi).trans OH.out.1,(hbS.block _ lxj).trans OH.out.2,Nat.le_refl _⟩)
    have yA:=hid (yu.out.low.trans (hbS.mono yu.out.low.size))
    have Lu:∀ b∈[W.heap.size,W.heap.size+1,W.heap.size+2],b<wS.heap.size:=by
     intro b hb
     simp only [List.mem_cons,List.not_mem_nil,or_false] at hb
     omega
    clear qL hbS II k1 k2 k3 q0 q1 q2 q3 q4 q5 z0 z1
    gi_wp2
    refine fu (n:=9) 48 49 6 7 C L R i j rfl (by decide) (gf:=237) (lb:=#[.pointer (some ⟨W.heap.size+1,0,none⟩),.pointer (some ⟨W.heap.size+2,0,none⟩),.pointer (some ⟨W.heap.size,0,none⟩)]) rfl trivial (enters_of Tryz.func237 (by kernel_rfl) rfl)
     (EP.out W.heap.size (W.heap.size+1) (W.heap.size+2) i j (by have:=HM.out.1;omega) (by have:=HM.out.2;omega) wS yA.out HK.out.1 HK.out.2.1 HK.out.2.2)
     ek.trans (ek.put yA.out.size Lu) (Below.refl _ _) (fun _=>rfl)
     (CB w (Obj.cells #[.slice pl L.length cl,.slice pr R.length cr,.string t1,.string t2,.string t3,.string t4] 122) B r m n bo C L R i j bi bj ds none wS.heap.size) (fun _ _ _=>False) (CB.own zL.out (by have:=mH.out;omega) (by have:=mH.out;omega)) (fun _ _ _ _ _ hs _ _=>hs) Us.out ?assign ?body ?done ?stop
    case assign =>
     intro l p k hp hk W0 K hi hK
     have hsz:=hi.sz
     have HI:=hid hi
     have HKK:=hid hK
     simp only [uq,ow]
     obtain ⟨tc,htc⟩ : ∃ t,t=tx (cK C L R k i j):=⟨_,rfl⟩
     rw [←htc]
     have Y8:=hid htc
     clear hi hK htc
     gi_wp2
     refine HKK.out _ _ (aN (ae _ _)) (ek.of_below (ae _ _) (Nat.le_trans yA.out.size hsz) (fun b hb=>Nat.lt_of_lt_of_le (Lu b hb) hsz)) ⟨HI.out.ri.below (ae _ _),dN _ _ HI.out.bi,dN _ _ HI.out.bj,by simp;omega⟩ ⟨W0.heap.size,hsz,World.alloc_heap_new _ _,?_⟩
     rw [←Y8.out]
     rfl
    case body =>
     rintro l p k hp hpk hk xR a' W0 hl hinv ⟨B6,hB6,hd6,rfl⟩
     simp only [List.setIfInBounds_toArray,List.set_cons_zero,List.set_cons_succ,ow]
     have eQ:=hid hinv
     have uW:=hid (fun W'=>xc k i j hk (by have:=HM.out.1;omega) (by have:=HM.out.2;omega) W')
     unfold ow RV at uW
     obtain ⟨g0,g1,g2⟩:=av hd6
     clear hinv hd6
     gi_wp2_with fail
     refine ⟨trivial,?_⟩
     refine (CallsIn.inRound l (callsIn_wide.2 (uW.out W0))).mono ?_
     rintro e W1 ⟨rfl,hb1⟩
     obtain ⟨hA1,hA2,hA3⟩:=fV hk xR (show i≤L.length by have:=HM.out.1;omega) (show j≤R.length by have:=HM.out.2;omega)
     obtain ⟨hA4,hA5⟩:=Si k i j
     have HI1:=hid (eQ.out.ri.below hb1)
     have Uu:=hid hb1
     have CE:=(hb1.block _ (aa eQ.out.bi)).trans eQ.out.bi
     have CF:=(hb1.block _ (aa eQ.out.bj)).trans eQ.out.bj
     have o1:W1.cell? ⟨bo,0,none⟩=some (.slice (some ⟨B,0,none⟩) m m):=(one_cell HI1.out.ob).1
     have b1:=(one_cell CE).1
     have b2:=(one_cell CF).1
     have lo:=aa HI1.out.ob
     have li:=aa CE
     have lj:=aa CF
     have lB:=HI1.out.tab.lt.1
     have ea:=HI1.out.tab.outer.cell (i:=gF k i) (by have:=HM.out.1;omega)
     have eb:W1.cell? ⟨r (gF k i),iC k j,none⟩=some (.string (tx (bH C L R (gF k i) (iC k j)))):=by
      have h:=(HI1.out.tab.rows (gF k i) (by have:=HM.out.1;omega)).cell (i:=iC k j) (by have:=HM.out.2;omega)
      rw [zM C L R _ ⟨hA4,hA5,hA3⟩] at h
      exact h
     have lA:=HI1.out.tab.lt.2 (gF k i) (by have:=HM.out.1;omega)
     have HAD:=hid (fun W' (hg:Good W')=>uj (bH C L R (gF k i) (iC k j)) (cK C L R k i j) ((HQ.out.rest _ _ hA1 hA2).sm) ((HQ.out.cost k i j hk xR).sm) W' hg)
     have HIM:=hid (fun W' (hT:TabAt w.heap.size W' B r m n (xh C L R i j (rq C L R i j none p))) (hg:Good W')=>Cw w.heap.size B r m n _ i j (by have:=HM.out.1;omega) (by have:=HM.out.2;omega) (bH C L R (gF k i) (iC k j)+cK C L R k i j) (((HQ.out.rest _ _ hA1 hA2).add (HQ.out.cost k i j hk xR)).sm) (fun y hy=>by rw [AP] at hy;exact Un HQ.out (by have:=HM.out.1;omega) (by have:=HM.out.2;omega) (fun y hy=>by cases hy) p y hy) hT hg)
     have abT:=hid (show rq C L R i j none (p+1)=o7 (rq C L R i j none p) (bH C L R (gF k i) (iC k j)+cK C L R k i j) by have h:=ET C L R i j none hp;rw [hpk] at h;exact h)
     unfold RV at HAD
     have a1:(0:Int)≤((gF k i:Nat):Int):=by omega
     have a2:((gF k i:Nat):Int)<(m:Int):=by have:=HM.out.1;omega
     have a3:(0:Int)≤((iC k j:Nat):Int):=by omega
     have a4:((iC k j:Nat):Int)<(n:Int):=by have:=HM.out.2;omega
     clear hA1 hA2 hA3 hA4 hA5 g0 g1 g2 hb1 CE CF uW
     generalize gF k i=nA at *
     generalize iC k j=nB at *
     generalize DD:r nA=rA at *
     have J9:=hid DD
     clear DD
     obtain ⟨tc,htc⟩ : ∃ t,t=tx (cK C L R k i j):=⟨_,rfl⟩
     obtain ⟨tr,htr⟩ : ∃ t,t=tx (bH C L R nA nB):=⟨_,rfl⟩
     obtain ⟨ts,hts⟩ : ∃ t,t=tx (bH C L R nA nB+cK C L R k i j):=⟨_,rfl⟩
     rw [←htc,←htr,←hts] at HAD
     rw [←hts] at HIM
     rw [←htr] at eb
     rw [←htc]
     clear htc htr hts
     gi_upto_region 14 with fail
     refine fM jU (fun W'=>Below W1.heap.size W1 W') (.take 0 (.take 1 (.take 2 (.take 3 (.take 4 (.take 5 (.take 6 (.take 7 (.take 8 (.take 9 (.take 10 (.one 11 .fin)))))))))))) 12 (by kernel_rfl) (by kernel_rfl) (by kernel_rfl) ⟨rfl,rfl,rfl,Nat.le_refl _,fun _ _=>rfl⟩ ?_
     have cO:Below W1.heap.size W1 W1.drew:=⟨rfl,rfl,rfl,Nat.le_refl _,fun _ _=>rfl⟩
     generalize W1.drew=dP at *
     iterate 11
      refine bJ rfl ?_ rfl ?_ ?_
      rotate_left
      ·intro W' hS'
       have s0:=(hS'.cell (p:=⟨bo,0,none⟩) lo).trans o1
       have s1:=(hS'.cell (p:=⟨bi,0,none⟩) li).trans b1
       have s2:=(hS'.cell (p:=⟨bj,0,none⟩) lj).trans b2
       have s3:=(hS'.cell (p:=⟨B,nA,none⟩) lB).trans ea
       have s4:=(hS'.cell (p:=⟨rA,nB,none⟩) lA).trans eb
       go_simp
       try with_reducible rfl
      try simp only [zA,zB,zC,Act.put,zD,zE,zF]
     refine aM rfl rfl (fun K hK=>?_)
     go_simp
     refine (HAD.out _ (hw.below (HI1.out.low.trans (cO.mono HI1.out.low.size)))).mono ?_
     rintro e gy ⟨rfl,bR⟩
     have hP1:=cO.trans (bR.mono cO.size)
     refine hK _ _ ⟨hP1,?_⟩
     clear hK K
     try simp only [zA,zB,zC,Act.put,zD,zE,zF]
     unfold gU
     simp only [List.drop_succ_cons,List.drop_zero]
     have HI2:=hid (HI1.out.below hP1)
     have HB2:=hid (Uu.out.trans (hP1.mono Uu.out.size))
     clear o1 b1 b2 ea eb
     gi_wp2_with fail
     refine ⟨trivial,?_⟩
     refine (CallsIn.inRound l (callsIn_wide.2 (HIM.out gy HI2.out.tab (hw.below HI2.out.low)))).mono ?_
     rintro e W3 ⟨⟨v3,rfl⟩,QC,hg3⟩
     have HI3:=hid (HI2.out.row (by have:=HM.out.1;omega) QC hg3 (by decide))
     have HT3:=hid (And.intro QC hg3)
     clear QC hg3
     have hKS:∀ b∈[W.heap.size,W.heap.size+1,W.heap.size+2],W3.heap[b]?=gy.heap[b]?:=fun b hb=>HT3.out.2.block b (Nat.lt_of_lt_of_le (Lu b hb) (Nat.le_trans eQ.out.sz HB2.out.size)) (fun e=>by
      have h1:=yu.out.rlt.r i (by have:=HM.out.1;omega)
      have h2:b=r i:=by cases e;rfl
      simp only [List.mem_cons,List.not_mem_nil,or_false] at hb
      omega)
     have HKS:=hid hKS
     have hNE:∀ (b:Nat) (v:Int),gy.heap[b]?=some (Obj.cells #[.int .i64 v] 3 (0,0))→W3.heap[b]?=some (Obj.cells #[.int .i64 v] 3 (0,0)):=fun b v hb=>(HT3.out.2.block b (aa hb) (fun e=>by
      have h2:b=r i:=by cases e;rfl
      obtain ⟨c,hc,_⟩:=HI2.out.tab.rows i (by have:=HM.out.1;omega)
      rw [←h2,hb] at hc
      cases hc)).trans hb
     have sV:=hid hNE
     clear hKS hNE
     gi_wp2
     refine ⟨(aN HB2.out).trans (KeepsFrom.of_grownBy HT3.out.2 (fun j e=>by cases e;exact zL.out.r i (by have:=HM.out.1;omega))),(ek.of_below HB2.out (Nat.le_trans yA.out.size eQ.out.sz) (fun b hb=>Nat.lt_of_lt_of_le (Lu b hb) eQ.out.sz)).trans ⟨⟨HT3.out.2.os,HT3.out.2.tape,HT3.out.2.output,HT3.out.2.size,fun k hk=>HT3.out.2.block k (Nat.lt_of_lt_of_le hk HI2.out.low.size) (fun e=>by
       have h2:k=r i:=by cases e;rfl
       have h3:=HI2.out.tab.base.2 i (by have:=HM.out.1;omega)
       omega)⟩,HKS.out⟩,⟨HI3.out.congr (fun a b _ _=>by rw [Cz,AP,abT.out]),sV.out _ _ ((HB2.out.block _ (aa eQ.out.bi)).trans eQ.out.bi),sV.out _ _ ((HB2.out.block _ (aa eQ.out.bj)).trans eQ.out.bj),Nat.le_trans eQ.out.sz (Nat.le_trans HB2.out.size HT3.out.2.size)⟩⟩
    case done =>
     intro Dk W0 hD hi hK
     have hacc:rq C L R i j none (eX L R i j).length=some (bH C L R i j):=by
      have h:=Cy (C:=C) (L:=L) (i:=i) (j:=j) (R:=R) (by have:=HM.out.1;omega) (by have:=HM.out.2;omega)
      unfold t0Q at h
      rwa [if_neg (fun h=>hei h.1)] at h
     have qj:=hi.ri
     rw [hacc,yx] at qj
     have hM:=Marks.cons qj.ms (show w.heap.size≤Dk by have:=yA.out.size;omega) hK (fun h=>by have:=zL.out.ds _ h;omega)
     have Ut:=hid (show RInv w (Obj.cells #[.slice pl L.length cl,.slice pr R.length cr,.string t1,.string t2,.string t3,.string t4] 122) B r m n bo (nk C L R i j) (Dk :: ds) W0 from ⟨qj.tab,qj.low,qj.qb,qj.ob,hM⟩)
     have HI:=hid hi
     have z1:=(one_cell hi.bj).1
     have t5:IntKind.i64.wrap ((j:Int)-1)=(j:Int)-1:=IntWalk.i64_in _ (by omega)
     clear hi qj hM hK hacc
     gi_wp2
     refine ⟨j,Nat.lt_succ_self _,W0.heap.size,Dk :: ds,_,_,_,_,_,_,_,_,_,_,_,_,_,_,_,_,_,_,_,_,_,_,_,_,_,_,_,_,_,_,_,_,_,_,_,_,_,_,_,_,_,_,_,_,_,_,_,_,_,_,_,_,_,_,_,_,_,_,_,_,_,_,_,_,_,rfl,?_,?_,?_,by omega,?_⟩
     ·exact World.alloc_heap_new _ _
     ·exact dN _ _ HI.out.bi
     ·exact Ut.out.below (ae _ _)
     ·have:=aa HI.out.bi
      omega
    case stop =>
     rintro Dk c k W hD hk hf hK
     exact hf.elim
end Go.Proofs.YtglncfkoohgdaaaGreatDoor
