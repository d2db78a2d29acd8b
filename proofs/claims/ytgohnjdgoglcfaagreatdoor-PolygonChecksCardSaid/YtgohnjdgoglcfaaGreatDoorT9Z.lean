import Derived.Test.YtgohnjdgoglcfaaGreatDoorTwoRowZ
import Derived.Lib.AppendZerosOnto
import Derived.Lib.SliceRun
set_option maxRecDepth 100000
set_option maxHeartbeats 8000000
namespace Go.Proofs.YtgohnjdgoglcfaaGreatDoor
open Go.RowKit Go.Shelf Go.Lib
open Go.Lib (hid)
theorem grow_nil (n:Nat) (h0:0<n) (hn:n≤1000000) (w:World) :
  Calls Tryz.prog 151 #[.slice none 0 0,.int .i64 (n:Int)] w fun e w'=>∃ v,e=.returned v∧w'.ownsRow w.heap.size 31 2 v 0 []∧Below w.heap.size w w':=by
 obtain ⟨i0,hi,hz0,hz1,hz2⟩:=info_parts slPt.info
 have hold:(Builtin.firstCells i0.size 0 (.slice none 0 0)).run Tryz.prog w.drew=.ok (([]:List Value).toArray) w.drew:=run_firstCells_none w.drew i0.size 0 0 0
 have hg0:grownCap w (0+n) 0 31≤maxLen:=grownCap_le_maxLen w _ _ _ (by unfold maxLen;omega)
 have hgn:0+n≤grownCap w (0+n) 0 31:=grownCap_ge w _ _ _
 have hrz:∀ ty,(Builtin.append_ #[22,3] ty #[.slice none 0 0,.int .i64 (n:Int)]).run Tryz.prog w =
   .ok (.slice (some ⟨w.heap.size,0,none⟩) (0+n) (grownCap w (0+n) 0 31)) (w.drew.alloc (.cells (([]:List Value).toArray++Builtin.zeroCells (Value.cells (.agg #[.string ⟨#[]⟩,.string ⟨#[]⟩])) n++Builtin.zeroCells (Value.cells (.agg #[.string ⟨#[]⟩,.string ⟨#[]⟩])) (grownCap w (0+n) 0 31-(0+n))) 31)):=fun ty =>
  Lib.run_append_grow_zeros w 22 3 ty 31 i0 (.agg #[.string ⟨#[]⟩,.string ⟨#[]⟩]) .i64 .i64 Tryz.underlying22 Tryz.underlying3 hi hz0 none 0 0 [] hold n h0 (by rw [hz1];decide) (by omega) (by omega) (by rw [hz2];omega)
   (by rw [hz2];exact growslice_fits (by omega) (by omega))
 generalize hG:grownCap w (0+n) 0 31=G at *
 have hsz:(([]:List Value).toArray++Builtin.zeroCells (Value.cells (.agg #[.string ⟨#[]⟩,.string ⟨#[]⟩])) n++Builtin.zeroCells (Value.cells (.agg #[.string ⟨#[]⟩,.string ⟨#[]⟩])) (G-(0+n))).size=G*2:=by
  rw [Array.size_append,Array.size_append,size_zeroCells,size_zeroCells,slPt.hzs]
  show 0+n*2+(G-(0+n))*2=G*2
  omega
 generalize (([]:List Value).toArray++Builtin.zeroCells (Value.cells (.agg #[.string ⟨#[]⟩,.string ⟨#[]⟩])) n++Builtin.zeroCells (Value.cells (.agg #[.string ⟨#[]⟩,.string ⟨#[]⟩])) (G-(0+n)))=Z at *
 have hown:=World.ownsRow_made (e:=31) (size:=2) (base:=w.heap.size) w.drew Z G (by simp) hg0 hsz
 have hb:Below w.heap.size w (w.drew.alloc (.cells Z 31)):=(Below.refl _ _).drew.alloc (by simp) _
 have HOWN:=hid hown
 have HB:=hid hb
 have h1:decide ((n:Int)<0)=false:=decide_eq_false (by omega)
 have h2:decide ((0:Int)<(n:Int))=true:=decide_eq_true (by omega)
 have h3:IntKind.i64.wrap (n:Int)=(n:Int):=IntWalk.i64_in _ (by omega)
 have hGm:G≤9223372036854775807:=by unfold maxLen at hg0;omega
 rw [Nat.zero_add] at hrz hgn
 clear hold hown hb hsz hG hg0
 go_enter Tryz.func151,Tryz.ntmps151
 go_wp2_with (at_builtin;refine Lib.wpList_append_run _ rfl _ _ _ _ rfl _ _ rfl rfl _ _ (hrz _) ?_)
 go_ret
 exact ⟨_,rfl,HOWN.out,HB.out⟩
def preP (LA LB:List Pair):Nat→List Pair
 | 0=>[]
 | 1=>LA
 | _=>LA++LB
theorem pairs_news {w:World} {b off:Nat} {L:List Pair} (h:∀ i (h:i<L.length),w.cell? ⟨b,off+i*2,none⟩=some (.string L[i].1)∧w.cell? ⟨b,off+i*2+1,none⟩=some (.string L[i].2)) :
  ∀ (j:Nat) (u:Value),(cellsS L)[j]?=some u→w.cell? ((⟨b,off,none⟩ : Addr).add j)=some u:=by
 intro j u hj
 have hjl:j<(cellsS L).length:=(List.getElem?_eq_some_iff.1 hj).1
 rw [cellsS_len] at hjl
 have hi:j/2<L.length:=by omega
 obtain ⟨c0,c1⟩:=h (j/2) hi
 rw [show (⟨b,off,none⟩ : Addr).add j=⟨b,off+j,none⟩ by unfold Addr.add;split;(rename_i h0;rw [h0];rfl);rfl]
 rcases Nat.mod_two_eq_zero_or_one j with hm | hm
 ·have h0:=cellsS_get L (j/2) hi 0 (by decide)
  have e:j=j/2*2+0:=by omega
  rw [←e,hj] at h0
  rw [show off+j=off+j/2*2 by omega,c0]
  exact h0.symm
 ·have h0:=cellsS_get L (j/2) hi 1 (by decide)
  have e:j=j/2*2+1:=by omega
  rw [←e,hj] at h0
  rw [show off+j=off+j/2*2+1 by omega,c1]
  exact h0.symm
def CatSt (L:List Pair) (w:World) (ov:Value) (wr:World):Prop:=wr.ownsRow w.heap.size 31 2 ov L.length (cellsS L)∧Below w.heap.size w wr
theorem cellsS_append (A B:List Pair):cellsS (A++B)=cellsS A++cellsS B:=by unfold cellsS;rw [List.flatMap_append]
def PairsP (w:World) (v:Value) (L:List Pair):Prop:=∃ b off c,v=.slice (some ⟨b,off,none⟩) L.length c∧L.length≤c∧c≤maxLen∧b<w.heap.size∧∀ i (h:i<L.length),w.cell? ⟨b,off+i*2,none⟩=some (.string L[i].1)∧w.cell? ⟨b,off+i*2+1,none⟩=some (.string L[i].2)
theorem PairsP.below {w w':World} {v:Value} {L:List Pair} (h:PairsP w v L) (hb:Below w.heap.size w w'):PairsP w' v L:=by
 obtain ⟨b,off,c,hv,hc,hm,hbl,hcell⟩:=h
 refine ⟨b,off,c,hv,hc,hm,Nat.lt_of_lt_of_le hbl hb.size,fun i hi=>?_⟩
 rw [hb.cell (p:=⟨b,off+i*2,none⟩) hbl,hb.cell (p:=⟨b,off+i*2+1,none⟩) hbl]
 exact hcell i hi
theorem preP_step {LA LB:List Pair} {va vb:Value} {w:World} {B k:Nat} (hk:k<2) (h0:w.cell? ⟨B,0,none⟩=some va) (h1:w.cell? ⟨B,1,none⟩=some vb) (hA:PairsP w va LA) (hB:PairsP w vb LB) (la:LA.length≤1000) (lb:LB.length≤1000) :
  ∃ (u:Value) (R:List Pair),w.cell? ⟨B,k,none⟩=some u∧PairsP w u R∧R.length≤1000∧(preP LA LB k).length≤1000∧preP LA LB (k+1)=preP LA LB k++R:=by
 match k,hk with
 | 0,_=>exact ⟨va,LA,h0,hA,la,Nat.zero_le _,rfl⟩
 | 1,_=>exact ⟨vb,LB,h1,hB,lb,la,rfl⟩
def CatPost (L:List Pair) (w:World) (e:Ending) (w':World):Prop:=∃ v,e=.returned v∧Pairs w' v L∧Below w.heap.size w w'
theorem slices_concat (B cap:Nat) (va vb:Value) (LA LB:List Pair) (w:World) (hBl:B<w.heap.size) (h0:w.cell? ⟨B,0,none⟩=some va) (h1:w.cell? ⟨B,1,none⟩=some vb)
  (hA:PairsP w va LA) (hB:PairsP w vb LB) (pa:0<LA.length) (la:LA.length≤1000) (lb:LB.length≤1000) :
  Calls Tryz.prog 105 #[.slice (some ⟨B,0,none⟩) 2 cap] w (CatPost (LA++LB) w):=by
 have HSTEP:=hid (fun k (hk:k<2)=>preP_step hk h0 h1 hA hB la lb)
 obtain ⟨nt,hnt⟩ : ∃ nt,(LA++LB).length=nt:=⟨_,rfl⟩
 have hnt':nt=LA.length+LB.length:=by rw [←hnt,List.length_append]
 have HG:=hid (grow_nil nt (by omega) (by omega))
 have hbw:=Below.refl w.heap.size w
 have HNT:=hid hnt
 clear h0 h1 hA hB hnt hnt'
 go_enter Tryz.func105,Tryz.ntmps105
 go_wp2_with fail
 go_loopw [3,5,11] (fun sv _ iv wr=>∃ k:Nat,k≤2∧sv=.int .i64 ((preP LA LB k).length:Int)∧iv=.int .i64 (k:Int)∧w=wr) (fun _ _ iv _=>2-(RowKit.intOf iv).toNat)
 case atStart=>exact ⟨0,Nat.zero_le _,rfl,rfl,rfl⟩
 case round =>
  obtain ⟨k,hk2,rfl,rfl,rfl⟩:=hrel
  by_cases hk:k<2
  ·obtain ⟨u,R,hu,hR,hRl,hpl,hnx⟩:=HSTEP.out k hk
   have hnl:(preP LA LB (k+1)).length=(preP LA LB k).length+R.length:=by rw [hnx,List.length_append]
   have HNL:=hid hnl
   obtain ⟨b,off,c,rfl,hc,hm,hbl,hxx⟩:=hR
   clear hxx hnx
   have hkn:decide ((k:Int)<(2:Int))=true:=decide_eq_true (by omega)
   have i1:(0:Int)≤(k:Int):=by omega
   have i2:(k:Int)<(2:Int):=by omega
   generalize (preP LA LB k).length=n1 at *
   generalize R.length=n2 at *
   have i3:IntKind.i64.wrap ((n1:Int)+(n2:Int))=(n1:Int)+(n2:Int):=IntWalk.i64_in _ (by omega)
   have i4:decide ((n1:Int)+(n2:Int)<0)=false:=decide_eq_false (by omega)
   clear hnl
   go_wp2
   refine ⟨⟨k+1,hk,by rw [HNL.out];push_cast;rfl,int_succ k,by first | rfl | trivial⟩,?_⟩
   show 2-((k:Int)+1).toNat<2-((k:Int)).toNat
   omega
  ·obtain rfl:k=2:=by omega
   have hkn:decide ((2:Int)<(2:Int))=false:=by decide
   have e2:(preP LA LB 2).length=nt:=HNT.out
   rw [e2]
   clear e2
   go_wp2_with fail
   refine (HG.out _).mono ?_
   rintro e w1 ⟨v1,rfl,hown,hb1⟩
   have HST0:=hid (show CatSt (preP LA LB 0) w v1 w1 from ⟨hown,hb1⟩)
   clear hown
   go_wp2_with fail
   go_loopw [6,8,27] (fun ov _ iv wr=>∃ (k:Nat) (vv:Value),k≤2∧CatSt (preP LA LB k) w vv wr∧vv=ov∧iv=.int .i64 (k:Int)) (fun _ _ iv _=>2-(RowKit.intOf iv).toNat)
   case atStart=>exact ⟨0,_,Nat.zero_le _,HST0.out,rfl,rfl⟩
   case round =>
    obtain ⟨k,ov,hk2,hst,rfl,rfl⟩:=hrel
    have HST:=hid hst
    have hbr:=hst.2
    clear hst
    by_cases hk:k<2
    ·obtain ⟨u,R,hu,hR,hRl,hpl,hnx⟩:=HSTEP.out k hk
     have HNX:=hid hnx
     rw [←hbr.cell (p:=⟨B,k,none⟩) hBl] at hu
     have hR':=hR.below hbr
     obtain ⟨b,off,c,rfl,hc,hm,hbl,hcell⟩:=hR'
     have HNW:=hid (pairs_news hcell)
     have hkn:decide ((k:Int)<(2:Int))=true:=decide_eq_true (by omega)
     have i1:(0:Int)≤(k:Int):=by omega
     have i2:(k:Int)<(2:Int):=by omega
     obtain ⟨i0,hi,hz0,hz1,hz2⟩:=info_parts slPt.info
     obtain ⟨xs,hxs⟩ : ∃ xs,xs=cellsS (preP LA LB k):=⟨_,rfl⟩
     obtain ⟨n8,hn8⟩ : ∃ n8,n8=(preP LA LB k).length:=⟨_,rfl⟩
     obtain ⟨ys,hys⟩ : ∃ ys,ys=cellsS R:=⟨_,rfl⟩
     obtain ⟨m8,hm8⟩ : ∃ m8,m8=R.length:=⟨_,rfl⟩
     have hown:wr.ownsRow w.heap.size 31 2 ov n8 xs:=by rw [hn8,hxs];exact HST.out.1
     have hyl:ys.length=m8*2:=by rw [hys,hm8,cellsS_len]
     have HONE:=hid (show ∀ u∈ys,u.oneCell'=true by rw [hys];exact cellsS_one R)
     rw [←hys] at HNW
     have HPUT:=hid (fun (v':Value) (w':World) (ho:w'.ownsRow w.heap.size 31 2 v' (n8+m8) (xs++ys)) (hb:Below w.heap.size w w')=>show CatSt (preP LA LB (k+1)) w v' w' by
      unfold CatSt
      rw [HNX.out,cellsS_append,List.length_append,←hn8,←hm8,←hxs,←hys]
      exact ⟨ho,hb⟩)
     rw [←hm8] at hu hc hRl
     rw [←hn8] at hpl
     have HOWN:=hid hown
     have hszq:=hbr.size
     clear hcell hnx hxs hn8 hys hm8 hR hown
     go_wp2_with (at_builtin;refine wpList_append_own _ rfl (.tmp 31) (.tmp 32) 22 rfl w.heap.size 31 i0 (.agg #[.string ⟨#[]⟩,.string ⟨#[]⟩]) 2 32 slPt.ht hi hz0 hz1 hz2 slPt.hzs slPt.hsz _ n8 xs rfl HOWN.out ⟨b,off,none⟩ m8 c ys rfl hyl HNW.out HONE.out (by unfold maxLen;omega) (by omega) hszq ?_;intro v' w9 hown2 hgrow _)
     have hb9:=hbr.grown hgrow (by omega) (fun g hg=>(HOWN.out.lt g hg).1)
     have HO2:=hid hown2
     clear hown2 hgrow
     go_wp2
     refine ⟨⟨k+1,v',hk,HPUT.out _ _ HO2.out hb9,rfl,int_succ k⟩,?_⟩
     show 2-((k:Int)+1).toNat<2-((k:Int)).toNat
     omega
    ·obtain rfl:k=2:=by omega
     have hkn:decide ((2:Int)<(2:Int))=false:=by decide
     go_wp2
     go_ret
     exact ⟨_,rfl,pairs_of_cells HST.out.1,hbr⟩
end Go.Proofs.YtgohnjdgoglcfaaGreatDoor
namespace Go.Proofs.YtgohnjdgoglcfaaGreatDoor
open Go.RowKit Go.Shelf
open Go.Lib (decDigits itoa nDigits)
open Go.Lib (hid)
structure LeastZ (P:List QP) (k t:Nat):Prop where
 lt:t<P.length
 least:∀ j,j<k→¬ lssP (pt P j) (pt P t)
theorem LeastZ.zero {P:List QP} (h:0<P.length):LeastZ P 0 0:=⟨h,fun _ hj=>absurd hj (Nat.not_lt_zero _)⟩
theorem LeastZ.less {P:List QP} {k t:Nat} (h:LeastZ P k t) (hk:k<P.length) (hl:lssP (pt P k) (pt P t)):LeastZ P (k+1) k:=⟨hk,fun j hj hx=>by
 rcases (show j<k∨j=k by omega) with e | e
 ·exact h.least j e (lssP_trans hx hl)
 ·rw [e] at hx;exact lssP_irrefl hx⟩
theorem LeastZ.more {P:List QP} {k t:Nat} (h:LeastZ P k t) (hl:¬ lssP (pt P k) (pt P t)):LeastZ P (k+1) t:=⟨h.lt,fun j hj=>by
 rcases (show j<k∨j=k by omega) with e | e
 ·exact h.least j e
 ·rw [e];exact hl⟩
theorem LeastZ.all {P:List QP} {t:Nat} (h:LeastZ P P.length t):LeastAt P t:=⟨h.lt,h.least⟩
def okQ (p:QP):Prop:=okPr (tx p.1,tx p.2)=true
open Classical in
def FinPost (P:List QP) (w:World) (e:Ending) (w':World):Prop:=
 ((∃ r t,(∀ p∈P,okQ p)∧e=.returned (.tuple #[r,.int .i64 0])∧LeastAt P t∧Pts w' r (rotL P t))∨((∃ p∈P,¬ okQ p)∧e=.returned (.tuple #[.slice none 0 0,.int .i64 4])))∧Below w.heap.size w w'
theorem two_slices {w wA:World} {a b:Value} {t:TypeId} (hwA:wA=(w.alloc (Obj.cells #[a,b] t)).drew):Below w.heap.size w wA∧w.heap.size<wA.heap.size∧wA.cell? ⟨w.heap.size,0,none⟩=some a∧wA.cell? ⟨w.heap.size,1,none⟩=some b:=by
 obtain ⟨h1,h2,h3,h4⟩:=box_new (w:=w) (wA:=w.alloc (Obj.cells #[a,b] t)) rfl
 rw [hwA]
 exact ⟨h1.drew,h2,h3,h4⟩
theorem pg_finish (v:Value) (P:List QP) (h0:0<P.length) (h60:P.length≤60) (hz:∀ p∈P,Sz2 100000 p) (w:World) (hw:Good w) (hv:Pts w v P) :
  Calls Tryz.prog 59 #[v] w (FinPost P w):=by
 have HPT:=hid (fun i (hi:i<P.length) w' (hg:Good w')=>pg_point (tx (pt P i).1) (tx (pt P i).2) (Nat.le_trans (hz _ (pt_mem hi)).1 (by decide)) (Nat.le_trans (hz _ (pt_mem hi)).2 (by decide)) w' hg)
 have HLS:=hid (fun i (hi:i<P.length) j (hj:j<P.length) w' (hg:Good w')=>pg_less (pt P i) (pt P j) ((hz _ (pt_mem hi)).mono (by decide)) ((hz _ (pt_mem hj)).mono (by decide)) w' hg)
 unfold RV at HPT HLS
 unfold ptV at HLS
 obtain ⟨p,c,rfl,hcl,hcm⟩:=hv.slice
 unfold maxLen at hcm
 obtain ⟨B,off,rfl,hbl,hcell⟩:=Pts.cells hv h0
 have hraw:∀ i (hi:i<(P.map textP).length),w.cell? ⟨B,off+i*2,none⟩=some (.string (P.map textP)[i].1)∧w.cell? ⟨B,off+i*2+1,none⟩=some (.string (P.map textP)[i].2):=fun i hi=>by
  rw [List.length_map] at hi
  have:=hcell i hi
  rw [pt_eq hi] at this
  simpa [textP] using this
 have HRAW:=hid hraw
 have HCL:=hid (fun i (hi:i<P.length) wx (h:Below w.heap.size w wx)=>And.intro ((h.cell (p:=⟨B,off+i*2,none⟩) hbl).trans (hcell i hi).1) ((h.cell (p:=⟨B,off+i*2+1,none⟩) hbl).trans (hcell i hi).2))
 have q2:decide ((P.length:Int)>60)=false:=decide_eq_false (by omega)
 have q3:decide ((60:Int)<(P.length:Int))=false:=decide_eq_false (by omega)
 have hbw:=Below.refl w.heap.size w
 clear hz hv hcell hraw
 go_enter Tryz.func59,Tryz.ntmps59
 go_wp2_with fail
 go_loopw [4,13] (fun tv iv wr=>∃ t k:Nat,k≤P.length∧tv=.int .i64 (t:Int)∧iv=.int .i64 (k:Int)∧LeastZ P k t∧(∀ i,i<k→okQ (pt P i))∧Below w.heap.size w wr) (fun _ iv _=>P.length-(intOf iv).toNat)
 case atStart=>exact ⟨0,0,Nat.zero_le _,rfl,rfl,LeastZ.zero h0,fun _ hi=>absurd hi (Nat.not_lt_zero _),hbw⟩
 case round =>
  obtain ⟨t,k,hkl,rfl,rfl,hLZ,hOK,hbr⟩:=hrel
  have HLZ:=hid hLZ
  have HOK:=hid hOK
  have htl:=hLZ.lt
  clear hLZ hOK
  by_cases hk:k<P.length
  ·have hkn:decide ((k:Int)<(P.length:Int))=true:=decide_eq_true (by omega)
   have i1:(0:Int)≤(k:Int):=by omega
   have i2:(k:Int)<(P.length:Int):=by omega
   have i3:(0:Int)≤(t:Int):=by omega
   have i4:(t:Int)<(P.length:Int):=by omega
   obtain ⟨e0,e1⟩:=HCL.out k hk wr hbr
   obtain ⟨f0,f1⟩:=HCL.out t htl wr hbr
   have hblr:B<wr.heap.size:=Nat.lt_of_lt_of_le hbl hbr.size
   have H1:=hid (HPT.out k hk)
   have H2:=hid (HLS.out k hk t htl)
   have HLX:=hid (@lexI_neg (pt P k) (pt P t))
   have HQ:=hid (show okQ (pt P k)↔okPr (tx (pt P k).1,tx (pt P k).2)=true from Iff.rfl)
   generalize okPr (tx (pt P k).1,tx (pt P k).2)=bq at *
   generalize tx (pt P k).1=y1 at *
   generalize tx (pt P k).2=y2 at *
   generalize tx (pt P t).1=x1 at *
   generalize tx (pt P t).2=x2 at *
   generalize lexI (pt P k) (pt P t)=g at *
   cases bq
   ·have HB:=hid (show ∃ p∈P,¬ okQ p from ⟨_,pt_mem hk,fun h=>Bool.noConfusion (HQ.out.1 h)⟩)
    simp only [Bool.false_eq_true,if_false] at H1
    clear HQ HLX
    go_upto_region 7 with fail
    obtain ⟨wC,hwwC⟩ : ∃ wC,wC=wr.alloc (Obj.cells #[.string y1,.string y2] 31):=⟨_,rfl⟩
    obtain ⟨hbwC,lwC,z0,z1⟩:=box_new hwwC
    rw [←hwwC]
    clear hwwC
    have hbC:=hbr.trans (hbwC.mono hbr.size)
    go_wp2_with fail
    refine (H1.out _ (hw.below hbC)).mono ?_
    rintro e w1 ⟨rfl,h1⟩
    have hb1:=hbC.trans (h1.mono hbC.size)
    go_wp2
    go_ret2
    exact ⟨.inr ⟨HB.out,rfl⟩,hb1⟩
   ·have HOK2:=hid (show ∀ i,i<k+1→okQ (pt P i) from fun i hi=>by
     rcases (show i<k∨i=k by omega) with e | e
     ·exact HOK.out i e
     ·rw [e];exact HQ.out.2 rfl)
    simp only [if_true] at H1
    clear HQ
    go_upto_region 7 with fail
    obtain ⟨wC,hwwC⟩ : ∃ wC,wC=wr.alloc (Obj.cells #[.string y1,.string y2] 31):=⟨_,rfl⟩
    obtain ⟨hbwC,lwC,z0,z1⟩:=box_new hwwC
    rw [←hwwC]
    clear hwwC
    have hbC:=hbr.trans (hbwC.mono hbr.size)
    have d0:=(hbwC.cell (p:=⟨B,off+t*2,none⟩) hblr).trans f0
    have d1:=(hbwC.cell (p:=⟨B,off+t*2+1,none⟩) hblr).trans f1
    have hblC:=Nat.lt_of_lt_of_le hblr hbwC.size
    clear e0 e1 f0 f1
    go_wp2_with fail
    refine (H1.out _ (hw.below hbC)).mono ?_
    rintro e w1 ⟨rfl,h1⟩
    have hb1:=hbC.trans (h1.mono hbC.size)
    have ly:=Nat.lt_of_lt_of_le lwC h1.size
    have hbl1:=Nat.lt_of_lt_of_le hblC h1.size
    have y0:=(h1.cell (p:=⟨wr.heap.size,0,none⟩) lwC).trans z0
    have y1:=(h1.cell (p:=⟨wr.heap.size,1,none⟩) lwC).trans z1
    replace d0:=(h1.cell (p:=⟨B,off+t*2,none⟩) hblC).trans d0
    replace d1:=(h1.cell (p:=⟨B,off+t*2+1,none⟩) hblC).trans d1
    clear z0 z1
    by_cases hg:g<0
    ·have HN:=hid (HLZ.out.less hk (HLX.out.1 hg))
     have n1:decide (g<0)=true:=decide_eq_true hg
     clear hg HLX
     go_wp2_with fail
     refine wp_held_list (fun W'=>Below w1.heap.size w1 W') [0,1,2,3,4] [5] 6 (by kernel_rfl) (by kernel_rfl) ⟨rfl,rfl,rfl,Nat.le_refl _,fun _ _=>rfl⟩ ?_
     iterate 5
      refine wpTakeL_step rfl ?_ rfl ?_ ?_
      rotate_left
      ·intro W' hS'
       have s0:=(hS'.cell (p:=⟨wr.heap.size,0,none⟩) ly).trans y0
       have s1:=(hS'.cell (p:=⟨wr.heap.size,1,none⟩) ly).trans y1
       have s2:=(hS'.cell (p:=⟨B,off+t*2,none⟩) hbl1).trans d0
       have s3:=(hS'.cell (p:=⟨B,off+t*2+1,none⟩) hbl1).trans d1
       go_simp
       try with_reducible rfl
      try simp only [zA,zB,zC,Act.put,zD,zE,zF]
     have hR0:Below w1.heap.size w1 w1.drew:=⟨rfl,rfl,rfl,Nat.le_refl _,fun _ _=>rfl⟩
     refine wpKeepL_step rfl rfl (fun K hK=>?_)
     go_simp
     refine (H2.out _ (hw.below (hb1.trans (hR0.mono hb1.size)))).mono ?_
     rintro e u1 ⟨rfl,hbu1⟩
     have hR1:=hR0.trans (hbu1.mono hR0.size)
     refine hK _ _ ⟨hR1,?_⟩
     clear hK K
     try simp only [zA,zB,zC,Act.put,zD,zE,zF]
     unfold wpKeepL
     simp only [List.drop_succ_cons,List.drop_zero]
     try simp only [zA,zB,zC,Act.put,zD,zE,zF]
     refine wpKeep_step rfl (fun K hK=>?_)
     go_simp
     refine hK _ _ ⟨trivial,wpKeep_nil ?_⟩
     clear hK K
     try simp only [zA,zB,zC,Act.put,zD,zE,zF]
     refine NormalOnly.mk ?_
     have HBZ:=hb1.trans (hR1.mono hb1.size)
     go_wp2
     refine ⟨⟨k,k+1,hk,rfl,int_succ k,HN.out,HOK2.out,HBZ⟩,?_⟩
     show P.length-((k:Int)+1).toNat<P.length-((k:Int)).toNat
     omega
    ·have HN:=hid (HLZ.out.more (fun h=>hg (HLX.out.2 h)))
     have n1:decide (g<0)=false:=decide_eq_false hg
     clear hg HLX
     go_wp2_with fail
     refine wp_held_list (fun W'=>Below w1.heap.size w1 W') [0,1,2,3,4] [5] 6 (by kernel_rfl) (by kernel_rfl) ⟨rfl,rfl,rfl,Nat.le_refl _,fun _ _=>rfl⟩ ?_
     iterate 5
      refine wpTakeL_step rfl ?_ rfl ?_ ?_
      rotate_left
      ·intro W' hS'
       have s0:=(hS'.cell (p:=⟨wr.heap.size,0,none⟩) ly).trans y0
       have s1:=(hS'.cell (p:=⟨wr.heap.size,1,none⟩) ly).trans y1
       have s2:=(hS'.cell (p:=⟨B,off+t*2,none⟩) hbl1).trans d0
       have s3:=(hS'.cell (p:=⟨B,off+t*2+1,none⟩) hbl1).trans d1
       go_simp
       try with_reducible rfl
      try simp only [zA,zB,zC,Act.put,zD,zE,zF]
     have hR0:Below w1.heap.size w1 w1.drew:=⟨rfl,rfl,rfl,Nat.le_refl _,fun _ _=>rfl⟩
     refine wpKeepL_step rfl rfl (fun K hK=>?_)
     go_simp
     refine (H2.out _ (hw.below (hb1.trans (hR0.mono hb1.size)))).mono ?_
     rintro e u1 ⟨rfl,hbu1⟩
     have hR1:=hR0.trans (hbu1.mono hR0.size)
     refine hK _ _ ⟨hR1,?_⟩
     clear hK K
     try simp only [zA,zB,zC,Act.put,zD,zE,zF]
     unfold wpKeepL
     simp only [List.drop_succ_cons,List.drop_zero]
     try simp only [zA,zB,zC,Act.put,zD,zE,zF]
     refine wpKeep_step rfl (fun K hK=>?_)
     go_simp
     refine hK _ _ ⟨trivial,wpKeep_nil ?_⟩
     clear hK K
     try simp only [zA,zB,zC,Act.put,zD,zE,zF]
     refine NormalOnly.mk ?_
     have HBZ:=hb1.trans (hR1.mono hb1.size)
     go_wp2
     refine ⟨⟨t,k+1,hk,rfl,int_succ k,HN.out,HOK2.out,HBZ⟩,?_⟩
     show P.length-((k:Int)+1).toNat<P.length-((k:Int)).toNat
     omega
  ·have hkn:decide ((k:Int)<(P.length:Int))=false:=decide_eq_false (by omega)
   have HLA:=hid (show LeastAt P t by have:=HLZ.out;rw [show k=P.length by omega] at this;exact this.all)
   have HAL:=hid (show ∀ p∈P,okQ p from fun p hp=>by
    obtain ⟨i,hi,rfl⟩:=mem_pt hp
    exact HOK.out i (by omega))
   have hlm:(P.map textP).length=P.length:=List.length_map ..
   have hblr:B<wr.heap.size:=Nat.lt_of_lt_of_le hbl hbr.size
   have i3:(0:Int)≤(t:Int):=by omega
   have i4:(t:Int)≤(P.length:Int):=by omega
   have i5:(t:Int)≤(c:Int):=by omega
   have hct:¬ c=t:=by omega
   have HPP:=hid (fun W' (hS:Below wr.heap.size wr W')=>show PairsP W' (.slice (some ⟨B,off+t*2,none⟩) (P.length-t) (c-t)) ((P.map textP).drop t)∧PairsP W' (.slice (some ⟨B,off,none⟩) t c) ((P.map textP).take t) by
    have hb':=hbr.trans (hS.mono hbr.size)
    have cl:∀ i (hi:i<(P.map textP).length),W'.cell? ⟨B,off+i*2,none⟩=some (.string (P.map textP)[i].1)∧W'.cell? ⟨B,off+i*2+1,none⟩=some (.string (P.map textP)[i].2):=fun i hi=>⟨(hb'.cell (p:=⟨B,off+i*2,none⟩) hbl).trans (HRAW.out i hi).1,(hb'.cell (p:=⟨B,off+i*2+1,none⟩) hbl).trans (HRAW.out i hi).2⟩
    refine ⟨⟨B,off+t*2,c-t,by rw [List.length_drop,hlm],by rw [List.length_drop,hlm];omega,by unfold maxLen;omega,Nat.lt_of_lt_of_le hbl hb'.size,fun i hi=>?_⟩,⟨B,off,c,by rw [List.length_take,hlm,Nat.min_eq_left (by omega)],by rw [List.length_take,hlm];omega,by unfold maxLen;omega,Nat.lt_of_lt_of_le hbl hb'.size,fun i hi=>?_⟩⟩
    ·rw [List.length_drop] at hi
     have:=cl (t+i) (by omega)
     rw [List.getElem_drop,show off+t*2+i*2=off+(t+i)*2 by omega]
     exact this
    ·rw [List.length_take] at hi
     have:=cl i (by omega)
     rw [List.getElem_take]
     exact this)
   have hrl:=rotL_len P (show t≤P.length by omega)
   have HROT:=hid (show (P.map textP).drop t++(P.map textP).take t=(rotL P t).map textP by unfold rotL;rw [List.map_append,List.map_drop,List.map_take])
   have hdl:0<((P.map textP).drop t).length:=by rw [List.length_drop,hlm];omega
   have hd1:((P.map textP).drop t).length≤1000:=by rw [List.length_drop,hlm];omega
   have ht1:((P.map textP).take t).length≤1000:=by rw [List.length_take,hlm];omega
   have HDL:=hid (And.intro hdl (And.intro hd1 ht1))
   clear HLZ HOK hdl hd1 ht1 hrl
   go_wp2_with fail
   refine wp_held_list (fun W'=>Below wr.heap.size wr W') [0,1,2,3,4,5] [6,7] 8 (by kernel_rfl) (by kernel_rfl) ⟨rfl,rfl,rfl,Nat.le_refl _,fun _ _=>rfl⟩ ?_
   iterate 6
    refine wpTakeL_step rfl ?_ rfl ?_ ?_
    rotate_left
    ·intro W' hS'
     go_simp
     try with_reducible rfl
    try simp only [zA,zB,zC,Act.put,zD,zE,zF]
   have hH0:Below wr.heap.size wr wr.drew:=⟨rfl,rfl,rfl,Nat.le_refl _,fun _ _=>rfl⟩
   refine wpKeepL_step rfl rfl (fun K hK=>?_)
   go_simp
   obtain ⟨wa,hwa⟩ : ∃ wa,wa=(wr.alloc (Obj.cells #[.slice (some ⟨B,off+t*2,none⟩) (P.length-t) (c-t),.slice (some ⟨B,off,none⟩) t c] 22)).drew:=⟨_,rfl⟩
   obtain ⟨hba,la,v0,v1⟩:=two_slices hwa
   rw [←hwa]
   refine hK _ _ ⟨hba,?_⟩
   clear hK K hwa
   try simp only [zA,zB,zC,Act.put,zD,zE,zF]
   obtain ⟨hPA,hPB⟩:=HPP.out wa hba
   refine wpKeepL_step rfl rfl (fun K hK=>?_)
   go_simp
   refine (slices_concat wr.heap.size 2 _ _ _ _ wa la v0 v1 hPA hPB HDL.out.1 HDL.out.2.1 HDL.out.2.2).mono ?_
   rintro e u1 ⟨r,rfl,hr,hu1⟩
   have hRR:=hba.trans (hu1.mono hba.size)
   have HRP:=hid (show Pts u1 r (rotL P t) by rw [HROT.out] at hr;exact hr)
   refine hK _ _ ⟨hRR,?_⟩
   clear hK K hr hPA hPB
   try simp only [zA,zB,zC,Act.put,zD,zE,zF]
   unfold wpKeepL
   simp only [List.drop_succ_cons,List.drop_zero]
   try simp only [zA,zB,zC,Act.put,zD,zE,zF]
   iterate 2
    refine wpKeep_step rfl (fun K hK=>?_)
    go_simp
    refine hK _ _ ⟨trivial,?_⟩
    clear hK K
    try simp only [zA,zB,zC,Act.put,zD,zE,zF]
   refine wpKeep_nil ?_
   refine NormalOnly.mk ?_
   go_wp2
   go_ret2
   exact ⟨.inl ⟨r,t,HAL.out,rfl,HLA.out,HRP.out⟩,hbr.trans (hRR.mono hbr.size)⟩
end Go.Proofs.YtgohnjdgoglcfaaGreatDoor
