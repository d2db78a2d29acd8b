import Derived.Test.YtglncfkoohgdaaaGreatDoorG44R
import Derived.Test.YtglncfkoohgdaaaGreatDoorTxR
import Derived.Test.YtglncfkoohgdaaaGreatDoorStillR
set_option maxRecDepth 100000
set_option maxHeartbeats 16000000
namespace Go.Proofs.YtglncfkoohgdaaaGreatDoor
open Go.RowKit Go.Shelf
open Go.Lib (decDigits itoa nDigits)
open Go.Lib (hid)
attribute [local go_sem] Oper.semAt_some
theorem Wl (n:Nat) (_hn:n<256) (w:World) (hw:Good w):Calls Tryz.prog 46 #[.int .u8 (n:Int)] w (RV (.string (tx (hf ((n % 8:Nat):Int)))) w):=by
 have a1:Int.tmod (n:Int) 8=((n % 8:Nat):Int):=oP n 8
 have HOF:=hid (ab1 ((n % 8:Nat):Int) 2 (by decide) (by omega) (by decide) w hw)
 unfold RV at HOF
 have UG:n % 8<8:=Nat.mod_lt _ (by decide)
 generalize n % 8=m at *
 have hmw:IntKind.i64.wrap (m:Int)=(m:Int):=IntWalk.i64_in _ (by omega)
 go_enter Tryz.func46,Tryz.ntmps46
 go_wp2_with fail
 refine HOF.out.mono ?_
 rintro e w1 ⟨rfl,hb1⟩
 go_wp2
 go_ret
 exact ⟨rfl,hb1⟩
theorem qh {W:World} {B:Nat} {t:TypeId} {a b c d e f g:Value} (h:W.heap[B]?=some (.cells #[a,b,c,d,e,f,g] t (0,0))):W.frozen? ⟨B,0,none⟩=false∧W.frozen? ⟨B,1,none⟩=false∧W.frozen? ⟨B,2,none⟩=false:=by
 refine ⟨?_,?_,?_⟩ <;> simp [World.frozen?,h]
def Rs (vg va vt:Value):Array Value:=#[vg,va,vt,.string ⟨#[]⟩,.string ⟨#[]⟩,.string ⟨#[]⟩,.string ⟨#[]⟩]
structure Y5 (w:World) (base:Nat) (s:Nat→Value) (D:dD) (ig ia it:Nat) (vg va vt:Value) (U:List Value) (W:World):Prop where
 x:W.heap[w.heap.size]?=some (.cells (EB s D) 28 (0,0))
 r:W.heap[w.heap.size+1]?=some (.cells (Rs (.slice none 0 0) (.slice none 0 0) (.slice none 0 0)) 37 (0,0))
 p:W.heap[w.heap.size+1+1]?=some (.cells (Rs vg va vt) 37 (0,0))
 m:AJ base D ig ia it vg va vt U W
 low:Below w.heap.size w W
 b:base=w.heap.size+1+1+1
theorem Y5.tu {w:World} {base:Nat} {s:Nat→Value} {D:dD} {ig ia it:Nat} {vg va vt:Value} {U:List Value} {W:World} (h:Y5 w base s D ig ia it vg va vt U W):base≤W.heap.size:=by
 have:=aa h.p
 have:=h.b
 omega
theorem Y5.gr {w:World} {base:Nat} {s:Nat→Value} {D:dD} {ig ia it:Nat} {vg va vt:Value} {U:List Value} {W W':World} {row:Option Nat} (h:Y5 w base s D ig ia it vg va vt U W) (hg:W.grownBy W' row) (hr:∀ r,row=some r→base≤r) :
  W'.heap[w.heap.size]?=some (.cells (EB s D) 28 (0,0))∧W'.heap[w.heap.size+1]?=some (.cells (Rs (.slice none 0 0) (.slice none 0 0) (.slice none 0 0)) 37 (0,0))∧W'.heap[w.heap.size+1+1]?=some (.cells (Rs vg va vt) 37 (0,0))∧Below w.heap.size w W':=by
 have hb:=h.b
 have hk:∀ k,k<base→some k≠row:=fun k hk e=>by have:=hr k e.symm;omega
 exact ⟨(hg.block _ (aa h.x) (hk _ (by omega))).trans h.x,(hg.block _ (aa h.r) (hk _ (by omega))).trans h.r,(hg.block _ (aa h.p) (hk _ (by omega))).trans h.p,h.low.grown hg h.low.size (fun r e=>by have:=hr r e;omega)⟩
theorem Y5.below {w:World} {base:Nat} {s:Nat→Value} {D:dD} {ig ia it:Nat} {vg va vt:Value} {U:List Value} {W W':World} (h:Y5 w base s D ig ia it vg va vt U W) (hb:Below W.heap.size W W'):Y5 w base s D ig ia it vg va vt U W':=by
 obtain ⟨h1,h2,h3,h4⟩:=h.gr (jd none hb) (fun r e=>by cases e)
 exact ⟨h1,h2,h3,h.m.below hb,h4,h.b⟩
theorem DT {w:World} {base:Nat} {s:Nat→Value} {D:dD} {ig ia it:Nat} {vg va vt vg' va' vt' v':Value} {U:List Value} {W3:World} {j:Nat}
  (h1:W3.heap[w.heap.size]?=some (.cells (EB s D) 28 (0,0))) (h2:W3.heap[w.heap.size+1]?=some (.cells (Rs (.slice none 0 0) (.slice none 0 0) (.slice none 0 0)) 37 (0,0)))
  (h3:W3.heap[w.heap.size+1+1]?=some (.cells (Rs vg va vt) 37 (0,0))) (h4:Below w.heap.size w W3) (hm:AJ base D ig ia it vg' va' vt' U W3) (hb:base=w.heap.size+1+1+1) (hc:(Rs vg va vt).setIfInBounds j v'=Rs vg' va' vt') :
  Y5 w base s D ig ia it vg' va' vt' U (W3.setCell ⟨w.heap.size+1+1,j,none⟩ v'):=by
 have hne1:w.heap.size≠w.heap.size+1+1:=by omega
 have hne2:w.heap.size+1≠w.heap.size+1+1:=by omega
 refine ⟨(Below.heap_setCell W3 ⟨w.heap.size+1+1,j,none⟩ v' _ hne1).trans h1,(Below.heap_setCell W3 ⟨w.heap.size+1+1,j,none⟩ v' _ hne2).trans h2,?_,hm.set (by omega) v',h4.setCell (p:=⟨w.heap.size+1+1,j,none⟩) (by show w.heap.size≤w.heap.size+1+1;omega) v',hb⟩
 rw [←hc]
 exact aJ v' h3
theorem aaQ:SliceOf 31 66 (.slice none 0 0) 1 24:=⟨Tryz.underlying31,by kernel_rfl,rfl,by decide⟩
theorem Wm {W:World} {B:Nat} {t:TypeId} {a b c d e f g:Value} (a' b' c' d' e' f':Value) (h:W.heap[B]?=some (.cells #[a,b,c,d,e,f,g] t (0,0))) :
  ((((((W.setCell ⟨B,0,none⟩ a').setCell ⟨B,1,none⟩ b').setCell ⟨B,2,none⟩ c').setCell ⟨B,3,none⟩ d').setCell ⟨B,4,none⟩ e').setCell ⟨B,5,none⟩ f').heap[B]?=some (.cells #[a',b',c',d',e',f',g] t (0,0)):=by
 have h0:=aJ (i:=0) a' h
 have h1:=aJ (i:=1) b' h0
 have h2:=aJ (i:=2) c' h1
 have h3:=aJ (i:=3) d' h2
 have h4:=aJ (i:=4) e' h3
 have h5:=aJ (i:=5) f' h4
 simpa using h5
theorem Rt {W:World} {B:Nat} {t:TypeId} {a b c d e f g:Value} (a' b' c' d' e' f' g':Value) (h:W.heap[B]?=some (.cells #[a,b,c,d,e,f,g] t (0,0))) :
  (((((((W.setCell ⟨B,0,none⟩ a').setCell ⟨B,1,none⟩ b').setCell ⟨B,2,none⟩ c').setCell ⟨B,3,none⟩ d').setCell ⟨B,4,none⟩ e').setCell ⟨B,5,none⟩ f').setCell ⟨B,6,none⟩ g').heap[B]?=some (.cells #[a',b',c',d',e',f',g'] t (0,0)):=by
 have h5:=Wm a' b' c' d' e' f' h
 have h6:=aJ (i:=6) g' h5
 simpa using h6
theorem Gj {W:World} {B:Nat} {t:TypeId} {a b c d e f g:Value} (h:W.heap[B]?=some (.cells #[a,b,c,d,e,f,g] t (0,0))):W.frozen? ⟨B,3,none⟩=false∧W.frozen? ⟨B,4,none⟩=false∧W.frozen? ⟨B,5,none⟩=false∧W.frozen? ⟨B,6,none⟩=false:=by
 refine ⟨?_,?_,?_,?_⟩ <;> simp [World.frozen?,h]
theorem Wn {W:World} {B:Nat} {t:TypeId} {a b c d e f g:Value} (d' e' f' g':Value) (h:W.heap[B]?=some (.cells #[a,b,c,d,e,f,g] t (0,0))) :
  ((((W.setCell ⟨B,3,none⟩ d').setCell ⟨B,4,none⟩ e').setCell ⟨B,5,none⟩ f').setCell ⟨B,6,none⟩ g').heap[B]?=some (.cells #[a,b,c,d',e',f',g'] t (0,0)):=by
 have h0:=aJ (i:=3) d' h
 have h1:=aJ (i:=4) e' h0
 have h2:=aJ (i:=5) f' h1
 have h3:=aJ (i:=6) g' h2
 simpa using h3
theorem gB {W W':World} {B:Nat} (h:W.grownBy W' (some B)) (j:Nat) (v:Value):W.grownBy (W'.setCell ⟨B,j,none⟩ v) (some B):=by
 have k:=bK W' B j v
 exact ⟨k.os.trans h.os,k.tape.trans h.tape,k.output.trans h.output,Nat.le_trans h.size k.size,fun i hi hn=>(k.block i (Nat.lt_of_lt_of_le hi h.size) hn).trans (h.block i hi hn)⟩
theorem NP {W:World} {B:Nat} (a b c d:Value):W.grownBy ((((W.setCell ⟨B,3,none⟩ a).setCell ⟨B,4,none⟩ b).setCell ⟨B,5,none⟩ c).setCell ⟨B,6,none⟩ d) (some B):=gB (gB (gB (bK W B 3 a) 4 b) 5 c) 6 d
theorem Wo {W:World} {B:Nat} (x y z a b c d:Value):W.grownBy (((((((W.setCell ⟨B,0,none⟩ x).setCell ⟨B,1,none⟩ y).setCell ⟨B,2,none⟩ z).setCell ⟨B,3,none⟩ a).setCell ⟨B,4,none⟩ b).setCell ⟨B,5,none⟩ c).setCell ⟨B,6,none⟩ d) (some B):=gB (gB (gB (gB (gB (gB (bK W B 0 x) 1 y) 2 z) 3 a) 4 b) 5 c) 6 d
theorem Wp {w:World} (s:Nat→Value) (D:dD) (h4:∀ i,i<4→(D.lg i).length≤4) (hP:DN w s D) (hw:Good w) :
  Calls Tryz.prog 14 #[.agg (EB s D)] w fun e w'=>∃ vg va vt,e=.returned (iX vg va vt (Y3 D))∧l9 w' vg va vt (iq D)∧Below w.heap.size w w':=by
 have HP:=hid hP
 have H4:=hid h4
 have Kh:∀ j,j<4→Go.RowKit.Hid (∀ w',Good w'→Calls Tryz.prog 46 #[.int .u8 (D.co j:Int)] w' (RV (.string (tx (hf ((D.co j % 8:Nat):Int)))) w')):=fun j hj=>hid (fun w' hg=>Wl (D.co j) (hP.co j hj) w' hg)
 have HC0:=Kh 0 (by decide)
 have Ep:=Kh 1 (by decide)
 have YZ:=Kh 2 (by decide)
 have YO:=Kh 3 (by decide)
 unfold RV at HC0 Ep YZ YO
 have CB:=hid (show Y3 D=⟨hf (D.co 0 % 8:Nat),hf (D.co 1 % 8:Nat),hf (D.co 2 % 8:Nat),hf (D.co 3 % 8:Nat)⟩ from rfl)
 obtain ⟨wM,hwM⟩ : ∃ wM,wM=((w.alloc (Obj.cells (EB s D) 28)).alloc (Obj.cells (Rs (.slice none 0 0) (.slice none 0 0) (.slice none 0 0)) 37)).alloc (Obj.cells (Rs (.slice none 0 0) (.slice none 0 0) (.slice none 0 0)) 37):=⟨_,rfl⟩
 obtain ⟨O7,hsM,hx0,hr0,hp0⟩:=dU hwM
 obtain ⟨base,hbase⟩ : ∃ b,b=w.heap.size+1+1+1:=⟨_,rfl⟩
 have Sg:=hid (show Y5 w base s D 0 0 0 (.slice none 0 0) (.slice none 0 0) (.slice none 0 0) [] wM from ⟨hx0,hr0,hp0,AJ.nil _ _ _,O7,hbase⟩)
 have HWM:=hid hwM
 have hcnt:=hP.cnt
 have a3:Int.tmod (D.cnt:Int) 3=((D.cnt % 3:Nat):Int):=oP D.cnt 3
 obtain ⟨n,hn⟩ : ∃ n,n=nP D:=⟨_,rfl⟩
 have hn4:n≤4∧2≤n:=by rw [hn];unfold nP;omega
 have a4:IntKind.i64.wrap (2+(D.cnt:Int) % 3)=(n:Int):=by rw [IntWalk.i64_in _ (by omega),hn];unfold nP;omega
 have HN:=hid hn
 have HDL:=hid (NL D)
 have QE:=hid (fun i=>show LJ D (i+1)=LJ D i+(1+D.st i % 6) from rfl)
 have HD0:=hid (show (0:Int)=(LJ D 0:Int) from rfl)
 obtain ⟨iA,hiA,agL,agM,agN⟩:=info_parts aaQ.info
 obtain ⟨iB,hiB,ae3,ae4,ae5⟩:=info_parts yD.info
 clear hwM O7 hsM hx0 hr0 hp0 hn hP h4 Kh hbase
 have hcn:=(mD Sg.out.x).2.1
 unfold EB at HWM ⊢
 unfold Rs at HWM
 go_enter Tryz.func14,Tryz.ntmps14
 go_upto_region 2 with fail
 rw [←HWM.out]
 clear hcn
 go_wp2_with fail
 go_loopw [4,5] (fun dv iv wr=>∃ (i:Nat) (vg va vt:Value) (U:List Value),i≤n∧iv=.int .i64 (i:Int)∧dv=.int .i64 (LJ D i:Int)∧Y5 w base s D i i i vg va vt U wr) (fun _ iv _=>n-(intOf iv).toNat)
 case atStart=>exact ⟨0,_,_,_,_,Nat.zero_le _,rfl,rfl,Sg.out⟩
 case round =>
  clear Sg
  obtain ⟨i,vg,va,vt,U,hin,rfl,rfl,hM⟩:=hrel
  have HM:=hid hM
  have hlx:=aa hM.x
  have hlp:=aa hM.p
  obtain ⟨x0',x4,x5',x9',Ru⟩:=mD hM.x
  obtain ⟨p0,p1,p2,_,_,_,_⟩:=au hM.p
  have HGR:=hid (hw.below hM.low)
  by_cases hi:i<n
  ·have kn:decide ((i:Int)<(n:Int))=true:=decide_eq_true (by omega)
   have Jc:decide (i<n)=true:=decide_eq_true hi
   have i1:(0:Int)≤(i:Int):=by omega
   have i2:(i:Int)<4:=by omega
   have i4:i<4:=by omega
   have i5:IntKind.i64.wrap ((i:Int)+1)=(i:Int)+1:=IntWalk.i64_in _ (by omega)
   have x0:=x0' i i4
   have x9:=x9' i i4
   have X5:=hid (x5' i i4)
   obtain ⟨ahD,ahE⟩:=HP.out.tp i i4
   have hst:=HP.out.st i i4
   have HMK:=hid (fun W' (hb:Below wr.heap.size wr W')=>Wh (s i) (D.lg i) (by have:=H4.out i i4;omega) ((HP.out.bts i i4).below (hM.low.trans (hb.mono hM.low.size))) (hw.below (hM.low.trans (hb.mono hM.low.size))))
   have hd6:=HDL.out i
   have HOA:=hid (fun W' (hg:Good W')=>ab1 (LJ D i:Int) 2 (by decide) (by omega) (by decide) W' hg)
   have hr1:=Int.tmod_lt_of_pos (D.tp i) (show (0:Int)<8 by decide)
   have hr2:=Int.lt_tmod_of_pos (D.tp i) (show (0:Int)<8 by decide)
   have HOT:=hid (fun W' (hg:Good W')=>ab1 ((D.tp i).tmod 8) 2 (by decide) (by omega) (by decide) W' hg)
   have J7:=hid (Rq D i)
   have HST:=hid (NN D i)
   have h10:IntKind.i64.wrap (D.tp i)=D.tp i:=IntWalk.i64_in _ (by omega)
   have hds:=QE.out i
   unfold RV at HOA HOT
   change Go.RowKit.Hid (∀ W' (hg:Good W'),Calls _ _ _ W' fun e w'=>e=.returned (.string (tx (hf _)))∧_) at HOA HOT
   generalize RH:tx (hf (LJ D i:Int))=ta at *
   generalize OJ:tx (hf ((D.tp i).tmod 8))=tt at *
   have HTA:=hid RH
   have Qy:=hid OJ
   obtain ⟨nl,hnl⟩ : ∃ nl,nl=(D.lg i).length:=⟨_,rfl⟩
   rw [←hnl] at HMK
   have Ff:=hid hnl.symm
   have a6:Int.tmod (D.st i:Int) 6=((D.st i % 6:Nat):Int):=oP (D.st i) 6
   obtain ⟨sq,hsq⟩ : ∃ q,q=1+D.st i % 6:=⟨_,rfl⟩
   have a7:IntKind.i64.wrap (1+(D.st i:Int) % 6)=(sq:Int):=by rw [IntWalk.i64_in _ (by omega)];omega
   have a8:IntKind.i64.wrap ((LJ D i:Int)+(sq:Int))=(LJ D (i+1):Int):=by rw [IntWalk.i64_in _ (by omega),hds];omega
   clear RH OJ hnl hM x0' x5' x9' Ru hds hsq
   go_wp2_with fail
   refine fK (fun W'=>W'.heap[w.heap.size]?=wr.heap[w.heap.size]?∧W'.heap[w.heap.size+1+1]?=wr.heap[w.heap.size+1+1]?) (.take 0 (.take 1 (.take 2 (.take 3 (.take 4 (.take 5 (.one 6 (.one 7 (.one 8 (.take 9 .fin)))))))))) 10 (by kernel_rfl) (by kernel_rfl) ⟨rfl,rfl⟩ ?_
   have hd:Below wr.heap.size wr wr.drew:=⟨rfl,rfl,rfl,Nat.le_refl _,fun _ _=>rfl⟩
   generalize wr.drew=dW at *
   iterate 6
    refine aF rfl ?_ rfl ?_ ?_
    rotate_left
    ·intro W' hS'
     have s0:=(World.cell?_of_block (a:=⟨w.heap.size+1+1,0,none⟩) hS'.2).trans p0
     have s1:=(World.cell?_of_block (a:=⟨w.heap.size,i,none⟩) hS'.1).trans x0
     go_simp
     try with_reducible rfl
    try simp only [zA,zB,zC,Act.put,zD,zE,zF]
   refine af rfl rfl (fun K hK=>?_)
   go_simp
   refine (HMK.out dW hd).mono ?_
   rintro e w1 ⟨u,rfl,hu,hb1⟩
   obtain ⟨_,pu,cu,rfl,_,_,_⟩:=Reads.bu hu
   have hbk:=hd.trans (hb1.mono hd.size)
   have hul:=nD hu (Nat.le_trans HM.out.tu hd.size)
   refine hK _ _ ⟨⟨hbk.block _ hlx,hbk.block _ hlp⟩,?_⟩
   clear hK K
   try simp only [zA,zB,zC,Act.put,zD,zE,zF]
   refine af rfl rfl (fun K hK=>?_)
   go_simp
   obtain ⟨w2,hw2⟩ : ∃ q,q=w1.alloc (Obj.cells #[.slice pu nl cu] 66):=⟨_,rfl⟩
   have hb2:Below w1.heap.size w1 w2:=by rw [hw2];exact ae _ _
   have hbk2:=hbk.trans (hb2.mono hbk.size)
   have hcn:∀ (j:Nat) (u:Value),[.slice pu nl cu][j]?=some u→w2.cell? ((⟨w1.heap.size,0,none⟩ : Addr).add j)=some u:=by rw [hw2];exact cell_one_new _ _ _
   rw [←hw2]
   clear hw2
   have mE:=hid (HM.out.below hbk2)
   have hrow:=mE.out.m.g
   have hsz2:=mE.out.low.size
   have hbase:=mE.out.tu
   refine hK _ _ ⟨⟨hbk2.block _ hlx,hbk2.block _ hlp⟩,?_⟩
   clear hK K
   try simp only [zA,zB,zC,Act.put,zD,zE,zF]
   refine af rfl rfl (fun K hK=>?_)
   refine jR _ (.tmp 17) (.tmp 23) 31 rfl base 66 iA (.slice none 0 0) 1 24 aaQ.ht hiA agL agM agN aaQ.hzs aaQ.hsz _ i U rfl hrow ⟨w1.heap.size,0,none⟩ 1 1 [.slice pu nl cu] rfl rfl hcn (by simp [Value.oneCell']) (by unfold maxLen;omega) (by omega) (by omega) ?_
   intro v' w3 hown hgr hloc
   obtain ⟨g9,rO,rfl⟩:=ownsRow_succ hown
   obtain ⟨hx3,hr3,hp3,hl3⟩:=mE.out.gr hgr (fun r e=>(hrow.lt r e).1)
   refine hK _ _ ⟨⟨hx3.trans HM.out.x.symm,hp3.trans HM.out.p.symm⟩,?_⟩
   clear hK K
   try simp only [zA,zB,zC,Act.put,zD,zE,zF]
   refine aF rfl ?_ rfl ?_ ?_
   rotate_left
   ·intro W' hS'
    go_simp
    try with_reducible rfl
   try simp only [zA,zB,zC,Act.put,zD,zE,zF]
   unfold bR
   simp only [List.drop_succ_cons,List.drop_zero]
   obtain ⟨_,_,_,_,_,_,_⟩:=au hp3
   obtain ⟨_,_,_⟩:=qh hp3
   have HN:=hid (DT (j:=0) (v':=.slice (some ⟨g9,0,none⟩) (i+1) rO) hx3 hr3 hp3 hl3 (mE.out.m.ae0 (by rw [Ff.out];exact lZ hul hb2) hgr hown) HM.out.b rfl)
   go_wp2
   refine ag.mk ?_
   obtain ⟨w4,adk⟩ : ∃ q,q=w3.setCell ⟨w.heap.size+1+1,0,none⟩ (.slice (some ⟨g9,0,none⟩) (i+1) rO):=⟨_,rfl⟩
   rw [←adk] at HN
   rw [←adk]
   clear adk hx3 hr3 hp3 hl3 hgr hown hloc hrow hcn hb2 hbk hbk2 hd mE HM hsz2 hbase
   have HM:=HN
   clear HN
   have hlx:=aa HM.out.x
   have hlp:=aa HM.out.p
   obtain ⟨p0,p1,p2,_,_,_,_⟩:=au HM.out.p
   have HG4:=hid (hw.below HM.out.low)
   go_wp2_with fail
   refine fK (fun W'=>W'.heap[w.heap.size]?=w4.heap[w.heap.size]?∧W'.heap[w.heap.size+1+1]?=w4.heap[w.heap.size+1+1]?) (.take 0 (.take 1 (.take 2 (.one 3 (.one 4 (.one 5 (.take 6 .fin))))))) 7 (by kernel_rfl) (by kernel_rfl) ⟨rfl,rfl⟩ ?_
   have hd:Below w4.heap.size w4 w4.drew:=⟨rfl,rfl,rfl,Nat.le_refl _,fun _ _=>rfl⟩
   generalize w4.drew=dW at *
   iterate 3
    refine aF rfl ?_ rfl ?_ ?_
    rotate_left
    ·intro W' hS'
     have s0:=(World.cell?_of_block (a:=⟨w.heap.size+1+1,1,none⟩) hS'.2).trans p1
     go_simp
     try with_reducible rfl
    try simp only [zA,zB,zC,Act.put,zD,zE,zF]
   refine af rfl rfl (fun K hK=>?_)
   go_simp
   refine (HOA.out dW (HG4.out.below hd)).mono ?_
   rintro e w1 ⟨rfl,hb1⟩
   have hbk:=hd.trans (hb1.mono hd.size)
   refine hK _ _ ⟨⟨hbk.block _ hlx,hbk.block _ hlp⟩,?_⟩
   clear hK K
   try simp only [zA,zB,zC,Act.put,zD,zE,zF]
   refine af rfl rfl (fun K hK=>?_)
   go_simp
   obtain ⟨w2,hw2⟩ : ∃ q,q=w1.alloc (Obj.cells #[.string ta] 33):=⟨_,rfl⟩
   have hb2:Below w1.heap.size w1 w2:=by rw [hw2];exact ae _ _
   have hbk2:=hbk.trans (hb2.mono hbk.size)
   have hcn:∀ (j:Nat) (u:Value),[.string ta][j]?=some u→w2.cell? ((⟨w1.heap.size,0,none⟩ : Addr).add j)=some u:=by rw [hw2];exact cell_one_new _ _ _
   rw [←hw2]
   clear hw2
   have mE:=hid (HM.out.below hbk2)
   have hrow:=mE.out.m.a
   have hsz2:=mE.out.low.size
   have hbase:=mE.out.tu
   refine hK _ _ ⟨⟨hbk2.block _ hlx,hbk2.block _ hlp⟩,?_⟩
   clear hK K
   try simp only [zA,zB,zC,Act.put,zD,zE,zF]
   refine af rfl rfl (fun K hK=>?_)
   refine jR _ (.tmp 27) (.tmp 30) 32 rfl base 33 iB (.string ⟨#[]⟩) 1 16 yD.ht hiB ae3 ae4 ae5 yD.hzs yD.hsz _ i (NM (DL D i)) rfl hrow ⟨w1.heap.size,0,none⟩ 1 1 [.string ta] rfl rfl hcn (by simp [Value.oneCell']) (by unfold maxLen;omega) (by omega) (by omega) ?_
   intro v' w3 hown hgr hloc
   obtain ⟨g9,rO,rfl⟩:=ownsRow_succ hown
   obtain ⟨hx3,hr3,hp3,hl3⟩:=mE.out.gr hgr (fun r e=>(hrow.lt r e).1)
   refine hK _ _ ⟨⟨hx3.trans HM.out.x.symm,hp3.trans HM.out.p.symm⟩,?_⟩
   clear hK K
   try simp only [zA,zB,zC,Act.put,zD,zE,zF]
   refine aF rfl ?_ rfl ?_ ?_
   rotate_left
   ·intro W' hS'
    go_simp
    try with_reducible rfl
   try simp only [zA,zB,zC,Act.put,zD,zE,zF]
   unfold bR
   simp only [List.drop_succ_cons,List.drop_zero]
   obtain ⟨_,_,_,_,_,_,_⟩:=au hp3
   obtain ⟨_,_,_⟩:=qh hp3
   have HN:=hid (DT (j:=1) (v':=.slice (some ⟨g9,0,none⟩) (i+1) rO) hx3 hr3 hp3 hl3 (mE.out.m.ae1 hgr (by rw [J7.out];exact hown) hloc) HM.out.b rfl)
   go_wp2
   refine ag.mk ?_
   obtain ⟨w5,adl⟩ : ∃ q,q=w3.setCell ⟨w.heap.size+1+1,1,none⟩ (.slice (some ⟨g9,0,none⟩) (i+1) rO):=⟨_,rfl⟩
   rw [←adl] at HN
   rw [←adl]
   clear adl hx3 hr3 hp3 hl3 hgr hown hloc hrow hcn hb2 hbk hbk2 hd mE HM hsz2 hbase
   have HM:=HN
   clear HN
   have hlx:=aa HM.out.x
   have hlp:=aa HM.out.p
   obtain ⟨p0,p1,p2,_,_,_,_⟩:=au HM.out.p
   have Wi:=hid (hw.below HM.out.low)
   have x9:=(mD HM.out.x).2.2.2.1 i i4
   go_wp2_with fail
   refine fK (fun W'=>W'.heap[w.heap.size]?=w5.heap[w.heap.size]?∧W'.heap[w.heap.size+1+1]?=w5.heap[w.heap.size+1+1]?) (.take 0 (.take 1 (.take 2 (.take 3 (.take 4 (.take 5 (.take 6 (.take 7 (.one 8 (.one 9 (.one 10 (.take 11 .fin)))))))))))) 12 (by kernel_rfl) (by kernel_rfl) ⟨rfl,rfl⟩ ?_
   have hd:Below w5.heap.size w5 w5.drew:=⟨rfl,rfl,rfl,Nat.le_refl _,fun _ _=>rfl⟩
   generalize w5.drew=dW at *
   iterate 8
    refine aF rfl ?_ rfl ?_ ?_
    rotate_left
    ·intro W' hS'
     have s0:=(World.cell?_of_block (a:=⟨w.heap.size+1+1,2,none⟩) hS'.2).trans p2
     have s1:=(World.cell?_of_block (a:=⟨w.heap.size,9+i,none⟩) hS'.1).trans x9
     go_simp
     try with_reducible rfl
    try simp only [zA,zB,zC,Act.put,zD,zE,zF]
   refine af rfl rfl (fun K hK=>?_)
   go_simp
   refine (HOT.out dW (Wi.out.below hd)).mono ?_
   rintro e w1 ⟨rfl,hb1⟩
   have hbk:=hd.trans (hb1.mono hd.size)
   refine hK _ _ ⟨⟨hbk.block _ hlx,hbk.block _ hlp⟩,?_⟩
   clear hK K
   try simp only [zA,zB,zC,Act.put,zD,zE,zF]
   refine af rfl rfl (fun K hK=>?_)
   go_simp
   obtain ⟨w2,hw2⟩ : ∃ q,q=w1.alloc (Obj.cells #[.string tt] 33):=⟨_,rfl⟩
   have hb2:Below w1.heap.size w1 w2:=by rw [hw2];exact ae _ _
   have hbk2:=hbk.trans (hb2.mono hbk.size)
   have hcn:∀ (j:Nat) (u:Value),[.string tt][j]?=some u→w2.cell? ((⟨w1.heap.size,0,none⟩ : Addr).add j)=some u:=by rw [hw2];exact cell_one_new _ _ _
   rw [←hw2]
   clear hw2
   have mE:=hid (HM.out.below hbk2)
   have hrow:=mE.out.m.t
   have hsz2:=mE.out.low.size
   have hbase:=mE.out.tu
   refine hK _ _ ⟨⟨hbk2.block _ hlx,hbk2.block _ hlp⟩,?_⟩
   clear hK K
   try simp only [zA,zB,zC,Act.put,zD,zE,zF]
   refine af rfl rfl (fun K hK=>?_)
   refine jR _ (.tmp 34) (.tmp 42) 32 rfl base 33 iB (.string ⟨#[]⟩) 1 16 yD.ht hiB ae3 ae4 ae5 yD.hzs yD.hsz _ i (NM (rZ D i)) rfl hrow ⟨w1.heap.size,0,none⟩ 1 1 [.string tt] rfl rfl hcn (by simp [Value.oneCell']) (by unfold maxLen;omega) (by omega) (by omega) ?_
   intro v' w3 hown hgr hloc
   obtain ⟨g9,rO,rfl⟩:=ownsRow_succ hown
   obtain ⟨hx3,hr3,hp3,hl3⟩:=mE.out.gr hgr (fun r e=>(hrow.lt r e).1)
   refine hK _ _ ⟨⟨hx3.trans HM.out.x.symm,hp3.trans HM.out.p.symm⟩,?_⟩
   clear hK K
   try simp only [zA,zB,zC,Act.put,zD,zE,zF]
   refine aF rfl ?_ rfl ?_ ?_
   rotate_left
   ·intro W' hS'
    go_simp
    try with_reducible rfl
   try simp only [zA,zB,zC,Act.put,zD,zE,zF]
   unfold bR
   simp only [List.drop_succ_cons,List.drop_zero]
   obtain ⟨_,_,_,_,_,_,_⟩:=au hp3
   obtain ⟨_,_,_⟩:=qh hp3
   have HN:=hid (DT (j:=2) (v':=.slice (some ⟨g9,0,none⟩) (i+1) rO) hx3 hr3 hp3 hl3 (mE.out.m.ae2 hgr (by rw [HST.out];exact hown) hloc) HM.out.b rfl)
   go_wp2
   refine ag.mk ?_
   obtain ⟨w6,adm⟩ : ∃ q,q=w3.setCell ⟨w.heap.size+1+1,2,none⟩ (.slice (some ⟨g9,0,none⟩) (i+1) rO):=⟨_,rfl⟩
   rw [←adm] at HN
   rw [←adm]
   clear adm hx3 hr3 hp3 hl3 hgr hown hloc hrow hcn hb2 hbk hbk2 hd mE HM hsz2 hbase
   have HM:=HN
   clear HN
   have hlx:=aa HM.out.x
   have hlp:=aa HM.out.p
   obtain ⟨p0,p1,p2,_,_,_,_⟩:=au HM.out.p
   have x5:=(mD HM.out.x).2.2.1 i i4
   go_wp2
   refine ⟨⟨i+1,_,_,_,_,hi,aA i,rfl,HM.out⟩,?_⟩
   show n-((i:Int)+1).toNat<n-((i:Int)).toNat
   omega
  ·obtain rfl:n=i:=by omega
   have kn:decide ((n:Int)<(n:Int))=false:=decide_eq_false (by omega)
   have y0:=Ru 0 (by decide)
   have y1:=Ru 1 (by decide)
   have y2:=Ru 2 (by decide)
   have y3:=Ru 3 (by decide)
   obtain ⟨_,pg1,cg1,rfl,_,_,_⟩:=Reads.bu hM.m.g
   obtain ⟨_,pa1,ca1,rfl,_,_,_⟩:=Reads.bu hM.m.a
   obtain ⟨_,pt1,ct1,rfl,_,_,_⟩:=Reads.bu hM.m.t
   clear hM x0' x5' x9' Ru
   generalize hk0:tx (hf ((D.co 0 % 8:Nat):Int))=k0 at *
   generalize hk1:tx (hf ((D.co 1 % 8:Nat):Int))=k1 at *
   generalize hk2:tx (hf ((D.co 2 % 8:Nat):Int))=k2 at *
   generalize hk3:tx (hf ((D.co 3 % 8:Nat):Int))=k3 at *
   have HKK:=hid (And.intro hk0 (And.intro hk1 (And.intro hk2 hk3)))
   clear hk0 hk1 hk2 hk3
   go_wp2_with fail
   refine fK (fun W'=>Below wr.heap.size wr W') (.take 0 (.take 1 (.take 2 (.take 3 (.take 5 (.take 6 (.take 7 (.take 8 (.take 10 (.take 11 (.take 12 (.take 13 (.take 15 (.take 16 (.take 17 (.take 18 (.one 4 (.one 9 (.one 14 (.one 19 (.take 20 (.take 21 .fin)))))))))))))))))))))) 22 (by kernel_rfl) (by kernel_rfl) ⟨rfl,rfl,rfl,Nat.le_refl _,fun _ _=>rfl⟩ ?_
   have bZ:Below wr.heap.size wr wr.drew:=⟨rfl,rfl,rfl,Nat.le_refl _,fun _ _=>rfl⟩
   generalize wr.drew=dW at *
   iterate 16
    refine aF rfl ?_ rfl ?_ ?_
    rotate_left
    ·intro W' hS'
     have s0:=(hS'.cell (p:=⟨w.heap.size,13,none⟩) hlx).trans y0
     have s1:=(hS'.cell (p:=⟨w.heap.size,14,none⟩) hlx).trans y1
     have s2:=(hS'.cell (p:=⟨w.heap.size,15,none⟩) hlx).trans y2
     have s3:=(hS'.cell (p:=⟨w.heap.size,16,none⟩) hlx).trans y3
     go_simp
     try with_reducible rfl
    try simp only [zA,zB,zC,Act.put,zD,zE,zF]
   refine af rfl rfl (fun K hK=>?_)
   go_simp
   refine (HC0.out _ (HGR.out.below bZ)).mono ?_
   rintro e gK ⟨rfl,cK⟩
   have hP1:=bZ.trans (cK.mono bZ.size)
   refine hK _ _ ⟨hP1,?_⟩
   clear hK K
   try simp only [zA,zB,zC,Act.put,zD,zE,zF]
   refine af rfl rfl (fun K hK=>?_)
   go_simp
   refine (Ep.out _ (HGR.out.below hP1)).mono ?_
   rintro e sW ⟨rfl,dK⟩
   have hP2:=hP1.trans (dK.mono hP1.size)
   refine hK _ _ ⟨hP2,?_⟩
   clear hK K
   try simp only [zA,zB,zC,Act.put,zD,zE,zF]
   refine af rfl rfl (fun K hK=>?_)
   go_simp
   refine (YZ.out _ (HGR.out.below hP2)).mono ?_
   rintro e YX ⟨rfl,rU⟩
   have hP3:=hP2.trans (rU.mono hP2.size)
   refine hK _ _ ⟨hP3,?_⟩
   clear hK K
   try simp only [zA,zB,zC,Act.put,zD,zE,zF]
   refine af rfl rfl (fun K hK=>?_)
   go_simp
   refine (YO.out _ (HGR.out.below hP3)).mono ?_
   rintro e iW ⟨rfl,jq⟩
   have lY:=hP3.trans (jq.mono hP3.size)
   refine hK _ _ ⟨lY,?_⟩
   clear hK K
   try simp only [zA,zB,zC,Act.put,zD,zE,zF]
   iterate 2
    refine aF rfl ?_ rfl ?_ ?_
    rotate_left
    ·intro W' hS'
     have s0:=(hS'.cell (p:=⟨w.heap.size,13,none⟩) hlx).trans y0
     have s1:=(hS'.cell (p:=⟨w.heap.size,14,none⟩) hlx).trans y1
     have s2:=(hS'.cell (p:=⟨w.heap.size,15,none⟩) hlx).trans y2
     have s3:=(hS'.cell (p:=⟨w.heap.size,16,none⟩) hlx).trans y3
     go_simp
     try with_reducible rfl
    try simp only [zA,zB,zC,Act.put,zD,zE,zF]
   unfold bR
   simp only [List.drop_succ_cons,List.drop_zero]
   have mE:=hid (HM.out.below lY)
   clear lY
   have hp3:=mE.out.p
   unfold Rs at hp3
   obtain ⟨_,_,_,_,_,_,_⟩:=au hp3
   have MP:=hid (mE.out.m.kept (NP (B:=w.heap.size+1+1) (.string k0) (.string k1) (.string k2) (.string k3)) (fun r e=>by have:=mE.out.b;cases e;omega))
   have yJ:=hid (((NP (B:=w.heap.size+1+1) (.string k0) (.string k1) (.string k2) (.string k3)).block (w.heap.size+1) (aa mE.out.r) (fun e=>by have:=Option.some.inj e;omega)).trans mE.out.r)
   have zW:=hid (mE.out.low.grown (NP (B:=w.heap.size+1+1) (.string k0) (.string k1) (.string k2) (.string k3)) mE.out.low.size (fun r e=>by cases e;omega))
   have qE:=hid mE.out.b
   obtain ⟨_,_,_,_⟩:=Gj hp3
   have ZI:=hid (Wn (.string k0) (.string k1) (.string k2) (.string k3) hp3)
   go_wp2
   refine ag.mk ?_
   obtain ⟨wF,hwF⟩ : ∃ q,q=(((iW.setCell ⟨w.heap.size+1+1,3,none⟩ (.string k0)).setCell ⟨w.heap.size+1+1,4,none⟩ (.string k1)).setCell ⟨w.heap.size+1+1,5,none⟩ (.string k2)).setCell ⟨w.heap.size+1+1,6,none⟩ (.string k3):=⟨_,rfl⟩
   rw [←hwF] at ZI MP yJ zW
   rw [←hwF]
   clear hwF hp3 mE
   obtain ⟨d0,d1,d2,d3,d4,d5,d6⟩:=au ZI.out
   have hrs:=yJ.out
   unfold Rs at hrs
   obtain ⟨_,_,_,_,_,_,_⟩:=au hrs
   obtain ⟨_,_,_⟩:=qh hrs
   obtain ⟨_,_,_,_⟩:=Gj hrs
   have HRR:=hid (Rt (.slice pg1 n cg1) (.slice pa1 n ca1) (.slice pt1 n ct1) (.string k0) (.string k1) (.string k2) (.string k3) hrs)
   have HMR:=hid (MP.out.kept (Wo (B:=w.heap.size+1) (.slice pg1 n cg1) (.slice pa1 n ca1) (.slice pt1 n ct1) (.string k0) (.string k1) (.string k2) (.string k3)) (fun r e=>by have:=qE.out;cases e;omega))
   have HLR:=hid (zW.out.grown (Wo (B:=w.heap.size+1) (.slice pg1 n cg1) (.slice pa1 n ca1) (.slice pt1 n ct1) (.string k0) (.string k1) (.string k2) (.string k3)) zW.out.size (fun r e=>by cases e;omega))
   clear hrs
   go_wp2
   obtain ⟨q0,q1,q2,q3,q4,q5,q6⟩:=au HRR.out
   refine bodyPost_ret (v:=.agg #[.slice pg1 n cg1,.slice pa1 n ca1,.slice pt1 n ct1,.string k0,.string k1,.string k2,.string k3]) (by simp [results,Tryz.results14,go_sem,q0,q1,q2,q3,q4,q5,q6]) rfl ?_
   refine ⟨_,_,_,?_,HMR.out.agK HN.out,HLR.out⟩
   unfold iX
   rw [CB.out]
   dsimp only
   rw [HKK.out.1,HKK.out.2.1,HKK.out.2.2.1,HKK.out.2.2.2]
end Go.Proofs.YtglncfkoohgdaaaGreatDoor
