import Derived.Test.YtglncfkoohgdaaaGreatDoorT3R
import Derived.Lib.AppendZerosOnto
import Derived.Lib.SliceRun
import Derived.Shelf.SlGeneric
import Derived.Shelf.SlSortCmp.WholeK
import Derived.Shelf.SlicesQ.Reverse
import Derived.Shelf.SlicesE.Clone
import Derived.Calls
import Derived.Below
import Derived.Sort.Grow
import Derived.Deep.Draws
set_option maxRecDepth 100000
set_option maxHeartbeats 8000000
namespace Go.Proofs.YtglncfkoohgdaaaGreatDoor
open Go.RowKit Go.Shelf Go.Lib
open Go.Lib (hid)
theorem UN (n:Nat) (h0:0<n) (hn:n≤1000000) (w:World) :
  Calls Tryz.prog 236 #[.slice none 0 0,.int .i64 (n:Int)] w fun e w'=>∃ v,e=.returned v∧w'.ownsRow w.heap.size 113 2 v 0 []∧Below w.heap.size w w':=by
 obtain ⟨i0,hi,hz0,hz1,hz2⟩:=info_parts rE.info
 have hold:(Builtin.firstCells i0.size 0 (.slice none 0 0)).run Tryz.prog w.drew=.ok (([]:List Value).toArray) w.drew:=run_firstCells_none w.drew i0.size 0 0 0
 have hg0:grownCap w (0+n) 0 113≤maxLen:=grownCap_le_maxLen w _ _ _ (by unfold maxLen;omega)
 have hgn:0+n≤grownCap w (0+n) 0 113:=grownCap_ge w _ _ _
 have hrz:∀ ty,(Builtin.append_ #[44,3] ty #[.slice none 0 0,.int .i64 (n:Int)]).run Tryz.prog w =
   .ok (.slice (some ⟨w.heap.size,0,none⟩) (0+n) (grownCap w (0+n) 0 113)) (w.drew.alloc (.cells (([]:List Value).toArray++Builtin.zeroCells (Value.cells (.agg #[.string ⟨#[]⟩,.string ⟨#[]⟩])) n++Builtin.zeroCells (Value.cells (.agg #[.string ⟨#[]⟩,.string ⟨#[]⟩])) (grownCap w (0+n) 0 113-(0+n))) 113)):=fun ty =>
  Lib.run_append_grow_zeros w 44 3 ty 113 i0 (.agg #[.string ⟨#[]⟩,.string ⟨#[]⟩]) .i64 .i64 Tryz.underlying44 Tryz.underlying3 hi hz0 none 0 0 [] hold n h0 (by rw [hz1];decide) (by omega) (by omega) (by rw [hz2];omega)
   (by rw [hz2];exact growslice_fits (by omega) (by omega))
 generalize hG:grownCap w (0+n) 0 113=G at *
 have hsz:(([]:List Value).toArray++Builtin.zeroCells (Value.cells (.agg #[.string ⟨#[]⟩,.string ⟨#[]⟩])) n++Builtin.zeroCells (Value.cells (.agg #[.string ⟨#[]⟩,.string ⟨#[]⟩])) (G-(0+n))).size=G*2:=by
  rw [Array.size_append,Array.size_append,size_zeroCells,size_zeroCells,rE.hzs]
  show 0+n*2+(G-(0+n))*2=G*2
  omega
 generalize (([]:List Value).toArray++Builtin.zeroCells (Value.cells (.agg #[.string ⟨#[]⟩,.string ⟨#[]⟩])) n++Builtin.zeroCells (Value.cells (.agg #[.string ⟨#[]⟩,.string ⟨#[]⟩])) (G-(0+n)))=Z at *
 have hown:=World.ownsRow_made (e:=113) (size:=2) (base:=w.heap.size) w.drew Z G (by simp) hg0 hsz
 have hb:Below w.heap.size w (w.drew.alloc (.cells Z 113)):=(Below.refl _ _).drew.alloc (by simp) _
 have HOWN:=hid hown
 have HB:=hid hb
 have h1:decide ((n:Int)<0)=false:=decide_eq_false (by omega)
 have h2:decide ((0:Int)<(n:Int))=true:=decide_eq_true (by omega)
 have h3:IntKind.i64.wrap (n:Int)=(n:Int):=IntWalk.i64_in _ (by omega)
 have hGm:G≤9223372036854775807:=by unfold maxLen at hg0;omega
 rw [Nat.zero_add] at hrz hgn
 clear hold hown hb hsz hG hg0
 go_enter Tryz.func236,Tryz.ntmps236
 go_wp2_with (at_builtin;refine Lib.wpList_append_run _ rfl _ _ _ _ rfl _ _ rfl rfl _ _ (hrz _) ?_)
 go_ret
 exact ⟨_,rfl,HOWN.out,HB.out⟩
def yQ (LA LB:List jh):Nat→List jh
 | 0=>[]
 | 1=>LA
 | _=>LA++LB
theorem M0 {w:World} {b off:Nat} {L:List jh} (h:∀ i (h:i<L.length),w.cell? ⟨b,off+i*2,none⟩=some (.string L[i].1)∧w.cell? ⟨b,off+i*2+1,none⟩=some (.string L[i].2)) :
  ∀ (j:Nat) (u:Value),(cellsS L)[j]?=some u→w.cell? ((⟨b,off,none⟩ : Addr).add j)=some u:=by
 intro j u hj
 have hjl:j<(cellsS L).length:=(List.getElem?_eq_some_iff.1 hj).1
 rw [jI] at hjl
 have hi:j/2<L.length:=by omega
 obtain ⟨c0,c1⟩:=h (j/2) hi
 rw [show (⟨b,off,none⟩ : Addr).add j=⟨b,off+j,none⟩ by unfold Addr.add;split;(rename_i h0;rw [h0];rfl);rfl]
 rcases Nat.mod_two_eq_zero_or_one j with hm | hm
 ·have h0:=eQ L (j/2) hi 0 (by decide)
  have e:j=j/2*2+0:=by omega
  rw [←e,hj] at h0
  rw [show off+j=off+j/2*2 by omega,c0]
  exact h0.symm
 ·have h0:=eQ L (j/2) hi 1 (by decide)
  have e:j=j/2*2+1:=by omega
  rw [←e,hj] at h0
  rw [show off+j=off+j/2*2+1 by omega,c1]
  exact h0.symm
def OL (L:List jh) (w:World) (ov:Value) (wr:World):Prop:=wr.ownsRow w.heap.size 113 2 ov L.length (cellsS L)∧Below w.heap.size w wr
theorem Ex (A B:List jh):cellsS (A++B)=cellsS A++cellsS B:=by unfold cellsS;rw [List.flatMap_append]
def nO (w:World) (v:Value) (L:List jh):Prop:=∃ b off c,v=.slice (some ⟨b,off,none⟩) L.length c∧L.length≤c∧c≤maxLen∧b<w.heap.size∧∀ i (h:i<L.length),w.cell? ⟨b,off+i*2,none⟩=some (.string L[i].1)∧w.cell? ⟨b,off+i*2+1,none⟩=some (.string L[i].2)
theorem nO.below {w w':World} {v:Value} {L:List jh} (h:nO w v L) (hb:Below w.heap.size w w'):nO w' v L:=by
 obtain ⟨b,off,c,hv,hc,hm,hbl,hcell⟩:=h
 refine ⟨b,off,c,hv,hc,hm,Nat.lt_of_lt_of_le hbl hb.size,fun i hi=>?_⟩
 rw [hb.cell (p:=⟨b,off+i*2,none⟩) hbl,hb.cell (p:=⟨b,off+i*2+1,none⟩) hbl]
 exact hcell i hi
theorem QK {LA LB:List jh} {va vb:Value} {w:World} {B k:Nat} (hk:k<2) (h0:w.cell? ⟨B,0,none⟩=some va) (h1:w.cell? ⟨B,1,none⟩=some vb) (hA:nO w va LA) (hB:nO w vb LB) (la:LA.length≤1000) (lb:LB.length≤1000) :
  ∃ (u:Value) (R:List jh),w.cell? ⟨B,k,none⟩=some u∧nO w u R∧R.length≤1000∧(yQ LA LB k).length≤1000∧yQ LA LB (k+1)=yQ LA LB k++R:=by
 match k,hk with
 | 0,_=>exact ⟨va,LA,h0,hA,la,Nat.zero_le _,rfl⟩
 | 1,_=>exact ⟨vb,LB,h1,hB,lb,la,rfl⟩
def M3 (w:World) (v:Value):Prop:=∀ p l c,v=.slice (some p) l c→∃ cs fz,w.heap[p.block]?=some (.cells cs 113 fz)
theorem ZX {w:World} {base:Nat} {size n:Nat} {v:Value} {xs:List Value} (h:w.ownsRow base 113 size v n xs):M3 w v:=by
 intro p l c hv
 rcases h.2 with ⟨h1,_⟩ | ⟨g,cap,cur,h1,_,h3,_⟩
 ·rw [hv] at h1;cases h1
 ·rw [hv] at h1;cases h1;exact ⟨_,_,h3⟩
def ZY (L:List jh) (w:World) (e:Ending) (w':World):Prop:=∃ v,e=.returned v∧(jC w' v L∧M3 w' v)∧Below w.heap.size w w'
theorem Ey (B cap:Nat) (va vb:Value) (LA LB:List jh) (w:World) (hBl:B<w.heap.size) (h0:w.cell? ⟨B,0,none⟩=some va) (h1:w.cell? ⟨B,1,none⟩=some vb)
  (hA:nO w va LA) (hB:nO w vb LB) (pa:0<LA.length) (la:LA.length≤1000) (lb:LB.length≤1000) :
  Calls Tryz.prog 187 #[.slice (some ⟨B,0,none⟩) 2 cap] w (ZY (LA++LB) w):=by
 have qR:=hid (fun k (hk:k<2)=>QK hk h0 h1 hA hB la lb)
 obtain ⟨nt,hnt⟩ : ∃ nt,(LA++LB).length=nt:=⟨_,rfl⟩
 have acs:nt=LA.length+LB.length:=by rw [←hnt,List.length_append]
 have HG:=hid (UN nt (by omega) (by omega))
 have hbw:=Below.refl w.heap.size w
 have YV:=hid hnt
 clear h0 h1 hA hB hnt acs
 go_enter Tryz.func187,Tryz.ntmps187
 go_wp2_with fail
 go_loopw [3,5,11] (fun sv _ iv wr=>∃ k:Nat,k≤2∧sv=.int .i64 ((yQ LA LB k).length:Int)∧iv=.int .i64 (k:Int)∧w=wr) (fun _ _ iv _=>2-(RowKit.intOf iv).toNat)
 case atStart=>exact ⟨0,Nat.zero_le _,rfl,rfl,rfl⟩
 case round =>
  obtain ⟨k,hk2,rfl,rfl,rfl⟩:=hrel
  by_cases hk:k<2
  ·obtain ⟨u,R,hu,hR,hRl,hpl,hnx⟩:=qR.out k hk
   have hnl:(yQ LA LB (k+1)).length=(yQ LA LB k).length+R.length:=by rw [hnx,List.length_append]
   have Ff:=hid hnl
   obtain ⟨b,off,c,rfl,hc,hm,hbl,hxx⟩:=hR
   clear hxx hnx
   have hkn:decide ((k:Int)<(2:Int))=true:=decide_eq_true (by omega)
   have i1:(0:Int)≤(k:Int):=by omega
   have i2:(k:Int)<(2:Int):=by omega
   generalize (yQ LA LB k).length=n1 at *
   generalize R.length=n2 at *
   have i3:IntKind.i64.wrap ((n1:Int)+(n2:Int))=(n1:Int)+(n2:Int):=IntWalk.i64_in _ (by omega)
   have i4:decide ((n1:Int)+(n2:Int)<0)=false:=decide_eq_false (by omega)
   clear hnl
   go_wp2
   refine ⟨⟨k+1,hk,by rw [Ff.out];push_cast;rfl,aA k,by first | rfl | trivial⟩,?_⟩
   show 2-((k:Int)+1).toNat<2-((k:Int)).toNat
   omega
  ·obtain rfl:k=2:=by omega
   have hkn:decide ((2:Int)<(2:Int))=false:=by decide
   have e2:(yQ LA LB 2).length=nt:=YV.out
   rw [e2]
   clear e2
   go_wp2_with fail
   refine (HG.out _).mono ?_
   rintro e w1 ⟨v1,rfl,hown,hb1⟩
   have QI:=hid (show OL (yQ LA LB 0) w v1 w1 from ⟨hown,hb1⟩)
   clear hown
   go_wp2_with fail
   go_loopw [6,8,27] (fun ov _ iv wr=>∃ (k:Nat) (vv:Value),k≤2∧OL (yQ LA LB k) w vv wr∧vv=ov∧iv=.int .i64 (k:Int)) (fun _ _ iv _=>2-(RowKit.intOf iv).toNat)
   case atStart=>exact ⟨0,_,Nat.zero_le _,QI.out,rfl,rfl⟩
   case round =>
    obtain ⟨k,ov,hk2,hst,rfl,rfl⟩:=hrel
    have HST:=hid hst
    have hbr:=hst.2
    clear hst
    by_cases hk:k<2
    ·obtain ⟨u,R,hu,hR,hRl,hpl,hnx⟩:=qR.out k hk
     have vC:=hid hnx
     rw [←hbr.cell (p:=⟨B,k,none⟩) hBl] at hu
     have hR':=hR.below hbr
     obtain ⟨b,off,c,rfl,hc,hm,hbl,hcell⟩:=hR'
     have HNW:=hid (M0 hcell)
     have hkn:decide ((k:Int)<(2:Int))=true:=decide_eq_true (by omega)
     have i1:(0:Int)≤(k:Int):=by omega
     have i2:(k:Int)<(2:Int):=by omega
     obtain ⟨i0,hi,hz0,hz1,hz2⟩:=info_parts rE.info
     obtain ⟨xs,hxs⟩ : ∃ xs,xs=cellsS (yQ LA LB k):=⟨_,rfl⟩
     obtain ⟨n8,R4⟩ : ∃ n8,n8=(yQ LA LB k).length:=⟨_,rfl⟩
     obtain ⟨ys,hys⟩ : ∃ ys,ys=cellsS R:=⟨_,rfl⟩
     obtain ⟨m8,UG⟩ : ∃ m8,m8=R.length:=⟨_,rfl⟩
     have hown:wr.ownsRow w.heap.size 113 2 ov n8 xs:=by rw [R4,hxs];exact HST.out.1
     have hyl:ys.length=m8*2:=by rw [hys,UG,jI]
     have Ta:=hid (show ∀ u∈ys,u.oneCell'=true by rw [hys];exact pK R)
     rw [←hys] at HNW
     have UH:=hid (fun (v':Value) (w':World) (ho:w'.ownsRow w.heap.size 113 2 v' (n8+m8) (xs++ys)) (hb:Below w.heap.size w w')=>show OL (yQ LA LB (k+1)) w v' w' by
      unfold OL
      rw [vC.out,Ex,List.length_append,←R4,←UG,←hxs,←hys]
      exact ⟨ho,hb⟩)
     rw [←UG] at hu hc hRl
     rw [←R4] at hpl
     have HOWN:=hid hown
     have acu:=hbr.size
     clear hcell hnx hxs R4 hys UG hR hown
     go_wp2_with (at_builtin;refine wpList_append_own _ rfl (.tmp 31) (.tmp 32) 44 rfl w.heap.size 113 i0 (.agg #[.string ⟨#[]⟩,.string ⟨#[]⟩]) 2 32 rE.ht hi hz0 hz1 hz2 rE.hzs rE.hsz _ n8 xs rfl HOWN.out ⟨b,off,none⟩ m8 c ys rfl hyl HNW.out Ta.out (by unfold maxLen;omega) (by omega) acu ?_;intro v' w9 hown2 hgrow _)
     have Td:=hbr.grown hgrow (by omega) (fun g hg=>(HOWN.out.lt g hg).1)
     have RJ:=hid hown2
     clear hown2 hgrow
     go_wp2
     refine ⟨⟨k+1,v',hk,UH.out _ _ RJ.out Td,rfl,aA k⟩,?_⟩
     show 2-((k:Int)+1).toNat<2-((k:Int)).toNat
     omega
    ·obtain rfl:k=2:=by omega
     have hkn:decide ((2:Int)<(2:Int))=false:=by decide
     go_wp2
     go_ret
     exact ⟨_,rfl,⟨lU HST.out.1,ZX HST.out.1⟩,hbr⟩
end Go.Proofs.YtglncfkoohgdaaaGreatDoor
namespace Go.Proofs.YtglncfkoohgdaaaGreatDoor
open Go.RowKit Go.Shelf
open Go.Lib (decDigits itoa nDigits)
open Go.Lib (hid)
structure kE (P:List QP) (k t:Nat):Prop where
 lt:t<P.length
 least:∀ j,j<k→¬ eB (pt P j) (pt P t)
theorem kE.zero {P:List QP} (h:0<P.length):kE P 0 0:=⟨h,fun _ hj=>absurd hj (Nat.not_lt_zero _)⟩
theorem kE.less {P:List QP} {k t:Nat} (h:kE P k t) (hk:k<P.length) (hl:eB (pt P k) (pt P t)):kE P (k+1) k:=⟨hk,fun j hj hx=>by
 rcases (show j<k∨j=k by omega) with e | e
 ·exact h.least j e (pJ hx hl)
 ·rw [e] at hx;exact jY hx⟩
theorem kE.more {P:List QP} {k t:Nat} (h:kE P k t) (hl:¬ eB (pt P k) (pt P t)):kE P (k+1) t:=⟨h.lt,fun j hj=>by
 rcases (show j<k∨j=k by omega) with e | e
 ·exact h.least j e
 ·rw [e];exact hl⟩
theorem kE.all {P:List QP} {t:Nat} (h:kE P P.length t):iK P t:=⟨h.lt,h.least⟩
def OM (P:List QP) (w:World) (e:Ending) (w':World):Prop:=(∃ r t,e=.returned (.tuple #[r,.int .i64 0])∧iK P t∧(qp w' r (JZ P t)∧M3 w' r))∧Below w.heap.size w w'
theorem M4 {w wA:World} {a b:Value} {t:TypeId} (aS:wA=(w.alloc (Obj.cells #[a,b] t)).drew):Below w.heap.size w wA∧w.heap.size<wA.heap.size∧wA.cell? ⟨w.heap.size,0,none⟩=some a∧wA.cell? ⟨w.heap.size,1,none⟩=some b:=by
 obtain ⟨h1,h2,h3,h4⟩:=mY (w:=w) (wA:=w.alloc (Obj.cells #[a,b] t)) rfl
 rw [aS]
 exact ⟨h1.drew,h2,h3,h4⟩
theorem QL (v:Value) (P:List QP) (h0:0<P.length) (h60:P.length≤60) (hz:∀ p∈P,rf 100000 p) (w:World) (hw:Good w) (hv:qp w v P) :
  Calls Tryz.prog 119 #[v] w (OM P w):=by
 have HPT:=hid (fun i (hi:i<P.length) w' (hg:Good w')=>Uc (pt P i) (hz _ (bV hi)) w' hg)
 have zW:=hid (fun i (hi:i<P.length) j (hj:j<P.length) w' (hg:Good w')=>GY (pt P i) (pt P j) ((hz _ (bV hi)).sm) ((hz _ (bV hj)).sm) w' hg)
 unfold RV at HPT zW
 unfold xm at zW
 obtain ⟨p,c,rfl,hcl,hcm⟩:=hv.slice
 unfold maxLen at hcm
 obtain ⟨B,off,rfl,hbl,hcell⟩:=qp.cells hv h0
 have hraw:∀ i (hi:i<(P.map aR).length),w.cell? ⟨B,off+i*2,none⟩=some (.string (P.map aR)[i].1)∧w.cell? ⟨B,off+i*2+1,none⟩=some (.string (P.map aR)[i].2):=fun i hi=>by
  rw [List.length_map] at hi
  have:=hcell i hi
  rw [cO hi] at this
  simpa [aR] using this
 have ZZ:=hid hraw
 have Cw:=hid (fun i (hi:i<P.length) wx (h:Below w.heap.size w wx)=>And.intro ((h.cell (p:=⟨B,off+i*2,none⟩) hbl).trans (hcell i hi).1) ((h.cell (p:=⟨B,off+i*2+1,none⟩) hbl).trans (hcell i hi).2))
 have q2:decide ((P.length:Int)>60)=false:=decide_eq_false (by omega)
 have q3:decide ((60:Int)<(P.length:Int))=false:=decide_eq_false (by omega)
 have hbw:=Below.refl w.heap.size w
 clear hz hv hcell hraw
 go_enter Tryz.func119,Tryz.ntmps119
 go_wp2_with fail
 go_loopw [4,13] (fun tv iv wr=>∃ t k:Nat,k≤P.length∧tv=.int .i64 (t:Int)∧iv=.int .i64 (k:Int)∧kE P k t∧Below w.heap.size w wr) (fun _ iv _=>P.length-(intOf iv).toNat)
 case atStart=>exact ⟨0,0,Nat.zero_le _,rfl,rfl,kE.zero h0,hbw⟩
 case round =>
  obtain ⟨t,k,hkl,rfl,rfl,hLZ,hbr⟩:=hrel
  have HLZ:=hid hLZ
  have htl:=hLZ.lt
  clear hLZ
  by_cases hk:k<P.length
  ·have hkn:decide ((k:Int)<(P.length:Int))=true:=decide_eq_true (by omega)
   have i1:(0:Int)≤(k:Int):=by omega
   have i2:(k:Int)<(P.length:Int):=by omega
   have i3:(0:Int)≤(t:Int):=by omega
   have i4:(t:Int)<(P.length:Int):=by omega
   obtain ⟨e0,e1⟩:=Cw.out k hk wr hbr
   obtain ⟨f0,f1⟩:=Cw.out t htl wr hbr
   have oD:B<wr.heap.size:=Nat.lt_of_lt_of_le hbl hbr.size
   have H1:=hid (HPT.out k hk)
   have H2:=hid (zW.out k hk t htl)
   have Uf:=hid (@oC (pt P k) (pt P t))
   generalize tx (pt P k).1=y1 at *
   generalize tx (pt P k).2=y2 at *
   generalize tx (pt P t).1=x1 at *
   generalize tx (pt P t).2=x2 at *
   generalize J4 (pt P k) (pt P t)=g at *
   go_upto_region 7 with fail
   obtain ⟨wC,pM⟩ : ∃ wC,wC=wr.alloc (Obj.cells #[.string y1,.string y2] 113):=⟨_,rfl⟩
   obtain ⟨iw,Eo,z0,z1⟩:=mY pM
   rw [←pM]
   clear pM
   have hbC:=hbr.trans (iw.mono hbr.size)
   have d0:=(iw.cell (p:=⟨B,off+t*2,none⟩) oD).trans f0
   have d1:=(iw.cell (p:=⟨B,off+t*2+1,none⟩) oD).trans f1
   have pO:=Nat.lt_of_lt_of_le oD iw.size
   clear e0 e1 f0 f1
   go_wp2_with fail
   refine (H1.out _ (hw.below hbC)).mono ?_
   rintro e w1 ⟨rfl,h1⟩
   have hb1:=hbC.trans (h1.mono hbC.size)
   have ly:=Nat.lt_of_lt_of_le Eo h1.size
   have M5:=Nat.lt_of_lt_of_le pO h1.size
   have y0:=(h1.cell (p:=⟨wr.heap.size,0,none⟩) Eo).trans z0
   have y1:=(h1.cell (p:=⟨wr.heap.size,1,none⟩) Eo).trans z1
   replace d0:=(h1.cell (p:=⟨B,off+t*2,none⟩) pO).trans d0
   replace d1:=(h1.cell (p:=⟨B,off+t*2+1,none⟩) pO).trans d1
   clear z0 z1
   by_cases hg:g<0
   ·have HN:=hid (HLZ.out.less hk (Uf.out.1 hg))
    have n1:decide (g<0)=true:=decide_eq_true hg
    clear hg Uf
    go_wp2_with fail
    refine aN (fun W'=>Below w1.heap.size w1 W') [0,1,2,3,4] [5] 6 (by kernel_rfl) (by kernel_rfl) ⟨rfl,rfl,rfl,Nat.le_refl _,fun _ _=>rfl⟩ ?_
    iterate 5
     refine aL rfl ?_ rfl ?_ ?_
     rotate_left
     ·intro W' hS'
      have s0:=(hS'.cell (p:=⟨wr.heap.size,0,none⟩) ly).trans y0
      have s1:=(hS'.cell (p:=⟨wr.heap.size,1,none⟩) ly).trans y1
      have s2:=(hS'.cell (p:=⟨B,off+t*2,none⟩) M5).trans d0
      have s3:=(hS'.cell (p:=⟨B,off+t*2+1,none⟩) M5).trans d1
      go_simp
      try with_reducible rfl
     try simp only [zA,zB,zC,Act.put,zD,zE,zF]
    have hR0:Below w1.heap.size w1 w1.drew:=⟨rfl,rfl,rfl,Nat.le_refl _,fun _ _=>rfl⟩
    refine aD rfl rfl (fun K hK=>?_)
    go_simp
    refine (H2.out _ (hw.below (hb1.trans (hR0.mono hb1.size)))).mono ?_
    rintro e u1 ⟨rfl,lV⟩
    have eY:=hR0.trans (lV.mono hR0.size)
    refine hK _ _ ⟨eY,?_⟩
    clear hK K
    try simp only [zA,zB,zC,Act.put,zD,zE,zF]
    unfold bE
    simp only [List.drop_succ_cons,List.drop_zero]
    try simp only [zA,zB,zC,Act.put,zD,zE,zF]
    refine aB rfl (fun K hK=>?_)
    go_simp
    refine hK _ _ ⟨trivial,aQ ?_⟩
    clear hK K
    try simp only [zA,zB,zC,Act.put,zD,zE,zF]
    refine ag.mk ?_
    have J6:=hb1.trans (eY.mono hb1.size)
    go_wp2
    refine ⟨⟨k,k+1,hk,rfl,aA k,HN.out,J6⟩,?_⟩
    show P.length-((k:Int)+1).toNat<P.length-((k:Int)).toNat
    omega
   ·have HN:=hid (HLZ.out.more (fun h=>hg (Uf.out.2 h)))
    have n1:decide (g<0)=false:=decide_eq_false hg
    clear hg Uf
    go_wp2_with fail
    refine aN (fun W'=>Below w1.heap.size w1 W') [0,1,2,3,4] [5] 6 (by kernel_rfl) (by kernel_rfl) ⟨rfl,rfl,rfl,Nat.le_refl _,fun _ _=>rfl⟩ ?_
    iterate 5
     refine aL rfl ?_ rfl ?_ ?_
     rotate_left
     ·intro W' hS'
      have s0:=(hS'.cell (p:=⟨wr.heap.size,0,none⟩) ly).trans y0
      have s1:=(hS'.cell (p:=⟨wr.heap.size,1,none⟩) ly).trans y1
      have s2:=(hS'.cell (p:=⟨B,off+t*2,none⟩) M5).trans d0
      have s3:=(hS'.cell (p:=⟨B,off+t*2+1,none⟩) M5).trans d1
      go_simp
      try with_reducible rfl
     try simp only [zA,zB,zC,Act.put,zD,zE,zF]
    have hR0:Below w1.heap.size w1 w1.drew:=⟨rfl,rfl,rfl,Nat.le_refl _,fun _ _=>rfl⟩
    refine aD rfl rfl (fun K hK=>?_)
    go_simp
    refine (H2.out _ (hw.below (hb1.trans (hR0.mono hb1.size)))).mono ?_
    rintro e u1 ⟨rfl,lV⟩
    have eY:=hR0.trans (lV.mono hR0.size)
    refine hK _ _ ⟨eY,?_⟩
    clear hK K
    try simp only [zA,zB,zC,Act.put,zD,zE,zF]
    unfold bE
    simp only [List.drop_succ_cons,List.drop_zero]
    try simp only [zA,zB,zC,Act.put,zD,zE,zF]
    refine aB rfl (fun K hK=>?_)
    go_simp
    refine hK _ _ ⟨trivial,aQ ?_⟩
    clear hK K
    try simp only [zA,zB,zC,Act.put,zD,zE,zF]
    refine ag.mk ?_
    have J6:=hb1.trans (eY.mono hb1.size)
    go_wp2
    refine ⟨⟨t,k+1,hk,rfl,aA k,HN.out,J6⟩,?_⟩
    show P.length-((k:Int)+1).toNat<P.length-((k:Int)).toNat
    omega
  ·have hkn:decide ((k:Int)<(P.length:Int))=false:=decide_eq_false (by omega)
   have HLA:=hid (show iK P t by have:=HLZ.out;rw [show k=P.length by omega] at this;exact this.all)
   have hlm:(P.map aR).length=P.length:=List.length_map ..
   have oD:B<wr.heap.size:=Nat.lt_of_lt_of_le hbl hbr.size
   have i3:(0:Int)≤(t:Int):=by omega
   have i4:(t:Int)≤(P.length:Int):=by omega
   have i5:(t:Int)≤(c:Int):=by omega
   have hct:¬ c=t:=by omega
   have HPP:=hid (fun W' (hS:Below wr.heap.size wr W')=>show nO W' (.slice (some ⟨B,off+t*2,none⟩) (P.length-t) (c-t)) ((P.map aR).drop t)∧nO W' (.slice (some ⟨B,off,none⟩) t c) ((P.map aR).take t) by
    have hb':=hbr.trans (hS.mono hbr.size)
    have cl:∀ i (hi:i<(P.map aR).length),W'.cell? ⟨B,off+i*2,none⟩=some (.string (P.map aR)[i].1)∧W'.cell? ⟨B,off+i*2+1,none⟩=some (.string (P.map aR)[i].2):=fun i hi=>⟨(hb'.cell (p:=⟨B,off+i*2,none⟩) hbl).trans (ZZ.out i hi).1,(hb'.cell (p:=⟨B,off+i*2+1,none⟩) hbl).trans (ZZ.out i hi).2⟩
    refine ⟨⟨B,off+t*2,c-t,by rw [List.length_drop,hlm],by rw [List.length_drop,hlm];omega,by unfold maxLen;omega,Nat.lt_of_lt_of_le hbl hb'.size,fun i hi=>?_⟩,⟨B,off,c,by rw [List.length_take,hlm,Nat.min_eq_left (by omega)],by rw [List.length_take,hlm];omega,by unfold maxLen;omega,Nat.lt_of_lt_of_le hbl hb'.size,fun i hi=>?_⟩⟩
    ·rw [List.length_drop] at hi
     have:=cl (t+i) (by omega)
     rw [List.getElem_drop,show off+t*2+i*2=off+(t+i)*2 by omega]
     exact this
    ·rw [List.length_take] at hi
     have:=cl i (by omega)
     rw [List.getElem_take]
     exact this)
   have hrl:=Tu P (show t≤P.length by omega)
   have af9:=hid (show (P.map aR).drop t++(P.map aR).take t=(JZ P t).map aR by unfold JZ;rw [List.map_append,List.map_drop,List.map_take])
   have hdl:0<((P.map aR).drop t).length:=by rw [List.length_drop,hlm];omega
   have hd1:((P.map aR).drop t).length≤1000:=by rw [List.length_drop,hlm];omega
   have ht1:((P.map aR).take t).length≤1000:=by rw [List.length_take,hlm];omega
   have HDL:=hid (And.intro hdl (And.intro hd1 ht1))
   clear HLZ hdl hd1 ht1 hrl
   go_wp2_with fail
   refine aN (fun W'=>Below wr.heap.size wr W') [0,1,2,3,4,5] [6,7] 8 (by kernel_rfl) (by kernel_rfl) ⟨rfl,rfl,rfl,Nat.le_refl _,fun _ _=>rfl⟩ ?_
   iterate 6
    refine aL rfl ?_ rfl ?_ ?_
    rotate_left
    ·intro W' hS'
     go_simp
     try with_reducible rfl
    try simp only [zA,zB,zC,Act.put,zD,zE,zF]
   have hH0:Below wr.heap.size wr wr.drew:=⟨rfl,rfl,rfl,Nat.le_refl _,fun _ _=>rfl⟩
   refine aD rfl rfl (fun K hK=>?_)
   go_simp
   obtain ⟨wa,hwa⟩ : ∃ wa,wa=(wr.alloc (Obj.cells #[.slice (some ⟨B,off+t*2,none⟩) (P.length-t) (c-t),.slice (some ⟨B,off,none⟩) t c] 44)).drew:=⟨_,rfl⟩
   obtain ⟨R5,la,v0,v1⟩:=M4 hwa
   rw [←hwa]
   refine hK _ _ ⟨R5,?_⟩
   clear hK K hwa
   try simp only [zA,zB,zC,Act.put,zD,zE,zF]
   obtain ⟨hPA,hPB⟩:=HPP.out wa R5
   refine aD rfl rfl (fun K hK=>?_)
   go_simp
   refine (Ey wr.heap.size 2 _ _ _ _ wa la v0 v1 hPA hPB HDL.out.1 HDL.out.2.1 HDL.out.2.2).mono ?_
   rintro e u1 ⟨r,rfl,⟨hr,hfr⟩,hu1⟩
   have hRR:=R5.trans (hu1.mono R5.size)
   have HRP:=hid (show qp u1 r (JZ P t)∧M3 u1 r from ⟨by rw [af9.out] at hr;exact hr,hfr⟩)
   refine hK _ _ ⟨hRR,?_⟩
   clear hK K hr hfr hPA hPB
   try simp only [zA,zB,zC,Act.put,zD,zE,zF]
   unfold bE
   simp only [List.drop_succ_cons,List.drop_zero]
   try simp only [zA,zB,zC,Act.put,zD,zE,zF]
   iterate 2
    refine aB rfl (fun K hK=>?_)
    go_simp
    refine hK _ _ ⟨trivial,?_⟩
    clear hK K
    try simp only [zA,zB,zC,Act.put,zD,zE,zF]
   refine aQ ?_
   refine ag.mk ?_
   go_wp2
   go_ret2
   exact ⟨⟨r,t,rfl,HLA.out,HRP.out⟩,hbr.trans (hRR.mono hbr.size)⟩
end Go.Proofs.YtglncfkoohgdaaaGreatDoor
namespace Go.Proofs.YtglncfkoohgdaaaGreatDoor
open Go.Shelf
def M6:Go.Shelf.Ren:=⟨fun | 6=>114 | 15=>147 | 14=>184 | 28=>212 | 29=>213 | 20=>228 | 21=>229 | 22=>230 | 23=>231 | 24=>232 | 25=>233 | 26=>234 | 27=>235 | 46=>256 | 47=>244 | 48=>245 | 49=>257 | 50=>258 | 57=>276 | n=>n,fun | 22=>44 | 24=>113 | 25=>182 | 3=>3 | 39=>206 | 0=>0 | 53=>261 | 55=>263 | 4=>4 | 46=>255 | 45=>254 | 50=>149 | 5=>5 | 9=>9 | 66=>290 | 70=>294 | 76=>313 | 77=>190 | n=>n,fun | n=>n⟩
theorem acv:Go.Proofs.SlLaysF0.n6 Tryz.prog M6:={
 mixed:=by kernel_rfl,
 f6:=⟨Tryz.f114.name,by decide,Tryz.func114.trans (congrArg some (by kernel_rfl))⟩,
 f14:=⟨Tryz.f184.name,by decide,Tryz.func184.trans (congrArg some (by kernel_rfl))⟩,
 f15:=Tryz.func147.trans (congrArg some (by kernel_rfl)),
 f20:=⟨Tryz.f228.name,by decide,Tryz.func228.trans (congrArg some (by kernel_rfl))⟩,
 f21:=⟨Tryz.f229.name,by decide,Tryz.func229.trans (congrArg some (by kernel_rfl))⟩,
 f22:=⟨Tryz.f230.name,by decide,Tryz.func230.trans (congrArg some (by kernel_rfl))⟩,
 f23:=⟨Tryz.f231.name,by decide,Tryz.func231.trans (congrArg some (by kernel_rfl))⟩,
 f24:=⟨Tryz.f232.name,by decide,Tryz.func232.trans (congrArg some (by kernel_rfl))⟩,
 f25:=⟨Tryz.f233.name,by decide,Tryz.func233.trans (congrArg some (by kernel_rfl))⟩,
 f26:=⟨Tryz.f234.name,by decide,Tryz.func234.trans (congrArg some (by kernel_rfl))⟩,
 f27:=⟨Tryz.f235.name,by decide,Tryz.func235.trans (congrArg some (by kernel_rfl))⟩,
 f28:=Tryz.func212.trans (congrArg some (by kernel_rfl)),
 f29:=Tryz.func213.trans (congrArg some (by kernel_rfl)),
 f46:=⟨Tryz.f256.name,by decide,Tryz.func256.trans (congrArg some (by kernel_rfl))⟩,
 f47:=Tryz.func244.trans (congrArg some (by kernel_rfl)),
 f48:=Tryz.func245.trans (congrArg some (by kernel_rfl)),
 f49:=⟨Tryz.f257.name,by decide,Tryz.func257.trans (congrArg some (by kernel_rfl))⟩,
 f50:=⟨Tryz.f258.name,by decide,Tryz.func258.trans (congrArg some (by kernel_rfl))⟩,
 f57:=⟨Tryz.f276.name,by decide,Tryz.func276.trans (congrArg some (by kernel_rfl))⟩,
 t0:=Tryz.underlying0,
 a0:=Tryz.isAgg0,
 z0:=Tryz.sizeOf0,
 v0:=Tryz.zeroValue0,
 t3:=Tryz.underlying3,
 a3:=Tryz.isAgg3,
 z3:=Tryz.sizeOf3,
 v3:=Tryz.zeroValue3,
 t4:=Tryz.underlying4,
 a4:=Tryz.isAgg4,
 z4:=Tryz.sizeOf4,
 v4:=Tryz.zeroValue4,
 t5:=Tryz.underlying5,
 a5:=Tryz.isAgg5,
 z5:=Tryz.sizeOf5,
 v5:=Tryz.zeroValue5,
 t9:=Tryz.underlying9,
 a9:=Tryz.isAgg9,
 z9:=Tryz.sizeOf9,
 v9:=Tryz.zeroValue9,
 t22:=Tryz.underlying44,
 a22:=Tryz.isAgg44,
 z22:=Tryz.sizeOf44,
 v22:=Tryz.zeroValue44,
 t25:=Tryz.underlying182,
 a25:=Tryz.isAgg182,
 z25:=Tryz.sizeOf182,
 v25:=Tryz.zeroValue182,
 t39:=Tryz.underlying206,
 a39:=Tryz.isAgg206,
 z39:=Tryz.sizeOf206,
 v39:=Tryz.zeroValue206,
 t45:=Tryz.underlying254,
 a45:=Tryz.isAgg254,
 z45:=Tryz.sizeOf254,
 v45:=Tryz.zeroValue254,
 t46:=Tryz.underlying255,
 a46:=Tryz.isAgg255,
 z46:=Tryz.sizeOf255,
 v46:=Tryz.zeroValue255,
 t50:=Tryz.underlying149,
 a50:=Tryz.isAgg149,
 z50:=Tryz.sizeOf149,
 v50:=Tryz.zeroValue149,
 t53:=Tryz.underlying261,
 a53:=Tryz.isAgg261,
 z53:=Tryz.sizeOf261,
 v53:=Tryz.zeroValue261,
 t55:=Tryz.underlying263,
 a55:=Tryz.isAgg263,
 z55:=Tryz.sizeOf263,
 v55:=Tryz.zeroValue263,
 t66:=Tryz.underlying290,
 a66:=Tryz.isAgg290,
 z66:=Tryz.sizeOf290,
 v66:=Tryz.zeroValue290,
 t70:=Tryz.underlying294,
 a70:=Tryz.isAgg294,
 z70:=Tryz.sizeOf294,
 v70:=Tryz.zeroValue294,
 t76:=Tryz.underlying313,
 a76:=Tryz.isAgg313,
 z76:=Tryz.sizeOf313,
 v76:=Tryz.zeroValue313,
 t77:=Tryz.underlying190,
 a77:=Tryz.isAgg190,
 z77:=Tryz.sizeOf190,
 v77:=Tryz.zeroValue190 }
def Aa:Go.Shelf.Ren:=⟨fun | 41=>113 | n=>n,fun | 22=>44 | 23=>113 | 4=>4 | n=>n,fun | n=>n⟩
theorem Z0:Go.Proofs.SlLaysE0.n41 Tryz.prog Aa:={
 mixed:=by kernel_rfl,
 f41:=⟨Tryz.f113.name,by decide,Tryz.func113.trans (congrArg some (by kernel_rfl))⟩,
 t4:=Tryz.underlying4,
 a4:=Tryz.isAgg4,
 z4:=Tryz.sizeOf4,
 v4:=Tryz.zeroValue4,
 t22:=Tryz.underlying44,
 a22:=Tryz.isAgg44,
 z22:=Tryz.sizeOf44,
 v22:=Tryz.zeroValue44 }
def QM:Go.Shelf.Ren:=⟨fun | 35=>118 | n=>n,fun | 22=>44 | 23=>113 | 3=>3 | 4=>4 | 0=>0 | n=>n,fun | n=>n⟩
theorem aeb:Go.Proofs.SlLaysE0.n35 Tryz.prog QM:={
 mixed:=by kernel_rfl,
 f35:=⟨Tryz.f118.name,by decide,Tryz.func118.trans (congrArg some (by kernel_rfl))⟩,
 t0:=Tryz.underlying0,
 a0:=Tryz.isAgg0,
 z0:=Tryz.sizeOf0,
 v0:=Tryz.zeroValue0,
 t3:=Tryz.underlying3,
 a3:=Tryz.isAgg3,
 z3:=Tryz.sizeOf3,
 v3:=Tryz.zeroValue3,
 t4:=Tryz.underlying4,
 a4:=Tryz.isAgg4,
 z4:=Tryz.sizeOf4,
 v4:=Tryz.zeroValue4,
 t22:=Tryz.underlying44,
 a22:=Tryz.isAgg44,
 z22:=Tryz.sizeOf44,
 v22:=Tryz.zeroValue44 }
end Go.Proofs.YtglncfkoohgdaaaGreatDoor
namespace Go.Proofs.YtglncfkoohgdaaaGreatDoor
open Go
theorem aec {α:Type} (c:Ask α):∀ w:World,w.drawn≤(w.ask c).2.drawn:=by
 induction c with
 | done a=>intro w;exact Nat.le_refl _
 | ask what range k ih =>
  intro w
  unfold World.ask
  dsimp only
  split
  ·exact ih _ _
  ·exact Nat.le_trans (Nat.le_succ _) (ih _ { w with drawn:=w.drawn+1 })
theorem abq (w:World) (c:Sys):w.drawn≤(w.sys c).2.drawn:=by
 have h:=aec (Kernel.perform c w.os) w
 unfold World.sys
 split
 ·exact Nat.le_refl _
 ·rename_i heq
  rw [heq] at h
  exact h
theorem abr {p:Program} {w w':World} {a:Addr} {v:Value} {at_:Bool} {l:List Addr} (h:w.farStore p a v at_=.ok (w',l)):w'.drawn=w.drawn:=by
 unfold World.farStore at h
 split at h
 ·split at h
  ·rename_i r heq
   cases h
   unfold World.viewStore at heq
   simp only [bind,Except.bind,pure,Except.pure] at heq
   repeat' split at heq
   all_goals first
    | (cases heq;done)
    | (cases heq;rfl)
    | skip
  ·cases h
 ·cases h
def RGe {α:Type} (n:Nat):Result α→Prop
 | .ok _ w=>n≤w.drawn
 | .halt _ w=>n≤w.drawn
theorem Kv (w:World) (a:Addr) (n:Nat):(w.freeze a n).drawn=w.drawn:=by
 unfold World.freeze;split <;> rfl
theorem UO {α:Type} {p:Program} (s:Sem α) (w:World) (n:Nat) (h:n≤w.drawn):RGe n (s.run p w):=by
 fun_induction Sem.run p s w
 all_goals first
  | exact h
  | (rename_i ih;exact ih h)
  | (rename_i ih;exact ih (Nat.le_trans h (Nat.le_succ _)))
  | (rename_i ih;exact ih (Nat.le_trans h (abq _ _)))
  | (rename_i ih;exact ih (by rw [Kv];exact h))
  | (rename_i hf ih;exact ih (by rw [abr hf];exact h))
theorem CX {α:Type} {p:Program} (s:Sem α) (w:World) (es:Array Event) (n:Nat) (h:n≤w.drawn):RGe n (s.runT p w es).1:=by
 fun_induction Sem.runT p s w es
 all_goals first
  | exact h
  | (rename_i ih;exact ih h)
  | (rename_i ih;exact ih (Nat.le_trans h (Nat.le_succ _)))
  | (rename_i ih;exact ih (Nat.le_trans h (abq _ _)))
  | (rename_i ih;exact ih (by rw [Kv];exact h))
  | (rename_i hf ih;exact ih (by rw [abr hf];exact h))
theorem dG {α:Type} {p:Program} {s:Sem α} {w w':World} {a:α} {n:Nat} (e:s.run p w=.ok a w') (h:n≤w.drawn):n≤w'.drawn:=by
 have:=UO (p:=p) s w n h
 rw [e] at this;exact this
theorem M7 {α:Type} {p:Program} {s:Sem α} {w w':World} {a:Halt} {n:Nat} (e:s.run p w=.halt a w') (h:n≤w.drawn):n≤w'.drawn:=by
 have:=UO (p:=p) s w n h
 rw [e] at this;exact this
theorem QN {α:Type} {p:Program} {s:Sem α} {w w':World} {es es':Array Event} {a:α} {n:Nat} (e:s.runT p w es=(.ok a w',es')) (h:n≤w.drawn):n≤w'.drawn:=by
 have:=CX (p:=p) s w es n h
 rw [e] at this;exact this
theorem Kw {α:Type} {p:Program} {s:Sem α} {w w':World} {es es':Array Event} {a:Halt} {n:Nat} (e:s.runT p w es=(.halt a w',es')) (h:n≤w.drawn):n≤w'.drawn:=by
 have:=CX (p:=p) s w es n h
 rw [e] at this;exact this
theorem iH {α:Type} {p:Program} {s:Sem α} {w w':World} {es:Array Event} {a:α} {n:Nat} (e:(s.runT p w es).1=.ok a w') (h:n≤w.drawn):n≤w'.drawn:=by
 have:=CX (p:=p) s w es n h
 rw [e] at this;exact this
theorem mg {α:Type} {p:Program} {s:Sem α} {w w':World} {es:Array Event} {a:Halt} {n:Nat} (e:(s.runT p w es).1=.halt a w') (h:n≤w.drawn):n≤w'.drawn:=by
 have:=CX (p:=p) s w es n h
 rw [e] at this;exact this
def Az (n:Nat):GStep→Prop
 | .go _ w _=>n≤w.drawn
 | .comm _ _ _ _ w _=>n≤w.drawn
 | .spawn _ _ w _=>n≤w.drawn
 | .count _ w _=>n≤w.drawn
 | .timer _ _ w _=>n≤w.drawn
 | .alone _ _ w _=>n≤w.drawn
 | .newcoro _ _ _ w _=>n≤w.drawn
 | .coroswitch _ _ _ w _=>n≤w.drawn
 | .collect _ w _=>n≤w.drawn
 | .watch _ w _=>n≤w.drawn
 | .ended _ _ _=>True
theorem pX {n:Nat} {es:Array Event} {g:GStep} (h:Az n g):Az n (g.after es):=by
 cases g <;> exact h
theorem uI {n:Nat} {c:Prop} [Decidable c] {a b:GStep} (ha:Az n a) (hb:Az n b):Az n (if c then a else b):=by
 split
 ·exact ha
 ·exact hb
theorem QO (n:Nat) (w:World) (fd:Nat) (t:ByteArray) (o:Outcome):Az n (endWith w fd t o):=by
 unfold endWith
 dsimp only
 split
 ·split <;> trivial
 ·trivial
 ·trivial
theorem Z4 {n:Nat} {fr:Frame} {l:List ByteArray} {m:String} {b:Bool} {w:World} (h:n≤w.drawn):Az n (dieOf fr l m b w):=h
theorem pY {n:Nat} {fr:Frame} {m:String} {w:World} (h:n≤w.drawn):Az n (endThrow fr m w):=h
theorem uJ {n:Nat} {p:Program} {fr:Frame} {v:Value} {w:World} (h:n≤w.drawn):Az n (endPrinting p fr v w):=by
 unfold endPrinting
 dsimp only
 repeat' split
 all_goals first | exact pY h | trivial
theorem CY {n:Nat} {p:Program} {fr:Frame} {cs:List Frame} {d:Option Dying} {m:String} {w:World} (h:n≤w.drawn):Az n (endFatal p fr cs d m w):=by
 unfold endFatal
 dsimp only
 split
 ·rename_i heq
  exact Z4 (dG heq h)
 ·trivial
 ·trivial
theorem QR {n:Nat} {p:Program} {fr:Frame} {d:Dying} {f:Fatal} {w:World} (h:n≤w.drawn):Az n (writeOn p fr d f w):=by
 unfold writeOn
 dsimp only
 split
 ·trivial
 ·split
  ·rename_i heq
   exact QN heq h
  ·rename_i heq
   exact Kw heq h
  ·trivial
  ·trivial
theorem aed {n:Nat} {p:Program} {fr:Frame} {d:Dying} {w:World} (h:n≤w.drawn):Az n (die p fr d w):=by
 unfold die
 split
 ·exact QR h
 ·split
  ·split
   ·exact h
   ·exact QO _ _ _ _ _
  ·dsimp only
   split
   ·exact h
   ·split
    ·rename_i heq
     exact dG heq h
    ·trivial
   ·refine pX ?_
    split
    ·rename_i heq;exact iH heq h
    ·rename_i heq;exact iH heq h
    ·trivial
    ·rename_i heq;exact uJ (mg heq h)
    ·trivial
   ·trivial
theorem vI {n:Nat} {p:Program} {main:Bool} {fr:Frame} {cs:List Frame} {d:Option Dying} {v:Value} {w:World} (h:n≤w.drawn):Az n (doReturn p main fr cs d v w):=by
 unfold doReturn
 repeat' split
 all_goals first | exact h | trivial | skip
theorem CZ {n:Nat} {p:Program} {fr:Frame} {cs:List Frame} {dy:Option Dying} {d:Deferred} {w:World} (h:n≤w.drawn):Az n (callDeferred p fr cs dy d w):=by
 unfold callDeferred
 refine uI trivial ?_
 dsimp only
 refine pX ?_
 split
 all_goals first
  | trivial
  | (rename_i heq;exact iH heq h)
  | (rename_i heq;exact mg heq h)
  | (rename_i heq;exact CY (mg heq h))
  | (rename_i heq;exact pY (mg heq h))
  | (rename_i heq _;exact iH heq h)
  | (rename_i heq;have h2:=iH heq h;split <;> exact h2)
  | skip
theorem UQ {n:Nat} {p:Program} {main:Bool} {fr:Frame} {cs:List Frame} {d:Option Dying} {w:World} (h:n≤w.drawn):Az n (unwind p main fr cs d w):=by
 unfold unwind
 split
 ·dsimp only
  refine pX ?_
  split
  ·rename_i heq;exact iH heq h
  ·trivial
 ·exact CZ h
 ·split
  ·trivial
  ·split
   ·trivial
   ·split
    ·exact h
    ·split
     ·split
      ·exact h
      ·split
       ·rename_i heq;exact dG heq h
       ·trivial
       ·trivial
     ·split
      ·exact uJ h
      ·trivial
  ·split
   ·exact vI h
   ·dsimp only
    refine pX ?_
    split
    ·rename_i heq;exact vI (iH heq h)
    ·trivial
    ·trivial
theorem Z5 {n:Nat} {p:Program} {fr:Frame} {cs:List Frame} {d:Option Dying} {g:Nat} {w:World} (h:n≤w.drawn):Az n (early p fr cs d g w):=by
 have key:∀ w:World,n≤w.drawn→Az n (match w.heap[g]? with
  | some (.pending c elem)=>.go { frame:=fr,callers:=cs,status:=.running,dying:=d } { w with heap:=w.heap.setIfInBounds g (.cells c elem) }
  | _ => .ended (.stuck "early: the variable does not wait" (fr.pos p)) w) := by
  intro w h
  split
  ·exact h
  ·trivial
 unfold early
 dsimp only
 refine uI (key w h) ?_
 split
 ·trivial
 ·refine uI (key w h) ?_
  refine uI (key w h) ?_
  split
  ·trivial
  ·exact h
  ·trivial
  ·exact key w h
  ·refine uI h ?_
   refine uI (key w h) ?_
   split
   ·rename_i heq;exact key _ (dG heq h)
   ·rename_i heq;exact dG (by assumption) h
   ·trivial
theorem xK {n:Nat} {p:Program} {listen:Bool} {fr:Frame} {cs:List Frame} {d:Option Dying} {s:Sem Next} {w:World} (h:n≤w.drawn):Az n (stepG.apply p listen fr cs d s w):=by
 unfold stepG.apply
 dsimp only
 refine pX ?_
 have hr:RGe n (if listen=true then s.runT p w #[] else (s.run p w,#[])).1:=by
  split
  ·exact CX _ _ _ _ h
  ·exact UO _ _ _ h
 generalize (if listen=true then s.runT p w #[] else (s.run p w,#[]))=x at hr ⊢
 obtain ⟨r,es⟩:=x
 dsimp only at hr ⊢
 split
 all_goals first
  | trivial
  | exact hr
  | exact CY hr
  | exact pY hr
  | exact Z5 hr
  | (split <;> exact hr)
  | exact uI (pY hr) hr
  | skip
theorem acw {n:Nat} {p:Program} {listen:Bool} {fr:Frame} {cs:List Frame} {d:Option Dying} {w:World} (h:n≤w.drawn):Az n (stepG.oper p listen fr cs d w):=by
 unfold stepG.oper
 split
 ·trivial
 ·split
  ·exact xK h
  ·exact xK h
theorem UR {n:Nat} {α:Type} {o:Option α} {a:GStep} {f:α→GStep} (ha:Az n a) (hf:∀ x,Az n (f x)):Az n (o.elim a f):=by
 cases o
 ·exact ha
 ·exact hf _
theorem acx {n:Nat} {p:Program} {main:Bool} {listen:Bool} {fr:Frame} {cs:List Frame} {d:Option Dying} {w:World} (h:n≤w.drawn):Az n (stepG.exec p main listen fr cs d w):=by
 have leave:∀ (c:Prop) [Decidable c] (jump:Option Code),Az n (match fr.roundOf with
   | none => if c then .go { frame := { fr with mode := .returning }, callers := cs, status := .running, dying := d } w else .ended (.stuck "exit, goto: no such block or label" (fr.pos p)) w
   | some l =>
    GStep.after (seen p fr.fn ((Instr.endRound l jump).runT p w #[]).2) <| match ((Instr.endRound l jump).runT p w #[]).1 with
    | .ok v w=>doReturn p main fr cs d v w
    | .halt _ w => .ended (.stuck "range over a function: no such loop" (fr.pos p)) w) := by
  intro c _ jump
  split
  ·exact uI h trivial
  ·refine pX ?_
   split
   ·rename_i heq;exact vI (iH heq h)
   ·trivial
 unfold stepG.exec
 dsimp only
 split
 all_goals first
  | trivial
  | exact h
  | exact xK h
  | exact leave _ _
  | exact UR (leave _ _) (fun _=>h)
  | exact UR trivial (fun _=>xK h)
  | exact uI (acw h) h
  | (split <;> first | exact h | trivial)
  | (refine pX ?_;split <;> first | (rename_i heq;exact xK (iH heq h)) | (rename_i heq;exact iH heq h) | (rename_i heq;exact mg heq h) | trivial)
  | (refine uI h ?_;split <;> first | (rename_i heq;exact dG heq h) | trivial)
  | skip
theorem Z6 {n:Nat} {p:Program} {main:Bool} {listen:Bool} {g:Goroutine} {w:World} (h:n≤w.drawn):Az n (stepG p main g w listen):=by
 unfold stepG
 split
 split
 ·exact aed h
 ·exact acx h
 ·exact UQ h
def R6 (n:Nat):Stepped→Prop
 | .next m=>n≤m.world.drawn
 | .ended _ _=>True
theorem UT {n:Nat} {c:Prop} [Decidable c] {a b:Stepped} (ha:R6 n a) (hb:R6 n b):R6 n (if c then a else b):=by
 split
 ·exact ha
 ·exact hb
theorem M8 {n:Nat} {c:Prop} [Decidable c] {a b:Stepped × Array MemOp} (ha:R6 n a.1) (hb:R6 n b.1):R6 n (if c then a else b).1:=by
 split
 ·exact ha
 ·exact hb
theorem acy {n:Nat} {p:Program} {rest:Rest} {gs:Array Goroutine} {i:Nat} {g:Goroutine} {cases:Array CommCase} {bl:Bool} {sh:CommShape} {w:World} (h:n≤w.drawn):R6 n (communicate p rest gs i g cases bl sh w).1:=by
 unfold communicate
 dsimp only
 refine M8 trivial ?_
 refine M8 ?_ ?_
 ·refine M8 ?_ h
  split
  ·rename_i heq
   unfold waitingAt at heq
   split at heq
   ·split at heq
    ·cases heq;exact h
    ·cases heq
   ·cases heq;exact h
  ·trivial
 ·split
  ·trivial
  ·rename_i heq
   have h2:=dG heq h
   split
   ·split
    ·rename_i h3;exact M7 h3 h2
    ·trivial
   ·exact h2
   ·exact h2
   ·split
    ·exact h2
    ·split
     ·rename_i h3;have h4:=dG h3 h2;exact h4
     ·trivial
   ·exact h2
   ·exact h2
   ·trivial
theorem UU {n:Nat} {p:Program} {gs:Array Goroutine} {rest:Rest} {w:World} (h:n≤w.drawn):R6 n (look p gs rest w):=by
 unfold look
 split
 ·dsimp only
  refine UT trivial ?_
  split
  ·trivial
  ·split
   ·rename_i heq;have h2:=dG heq h;exact h2
   ·trivial
   ·trivial
 ·trivial
theorem Ab {fr:Frame} {m:String} {w w':World} {g:Goroutine} {es:Array Event} (e:endThrow fr m w=.go g w' es):w'=w:=by
 unfold endThrow dieOf at e
 cases e;rfl
theorem Z7 {n:Nat} {p:Program} {m:Machine} {k:Nat} (h:n≤m.world.drawn):R6 n (serve p m k):=by
 unfold serve
 split
 ·trivial
 ·exact h
 ·dsimp only
  split
  ·trivial
  ·exact h
theorem Z8 (w:World) (c:Nat):(drain w c).2.drawn=w.drawn:=by
 unfold drain;split <;> rfl
theorem Ky (m:Machine) (k:Nat) (t:Timer) (a b:Nat):(retime m k t a b).2.world.drawn=m.world.drawn:=by
 unfold retime
 dsimp only
 split
 ·exact Z8 _ _
 ·rfl
theorem QS {m m':Machine} {op:TimerOp} {v:Value} (h:timerOp m op=.ok (v,m')):m'.world.drawn=m.world.drawn:=by
 unfold timerOp at h
 split at h
 ·split at h
  ·cases h;rfl
  ·split at h
   ·split at h
    ·cases h
    ·cases h;rfl
   ·cases h
 ·unfold timerOp.named at h
  split at h
  ·rw [Except.ok.injEq] at h
   have h2:=congrArg (fun x:Value × Machine=>x.2.world.drawn) h
   dsimp only at h2
   rw [Ky] at h2
   exact h2.symm
  ·cases h
 ·split at h
  ·rename_i m1 ho
   have hm:m1.world.drawn=m.world.drawn:=by
    unfold timerOp.opened at ho
    split at ho
    ·split at ho
     ·cases ho;rfl
     ·cases ho
    ·cases ho;rfl
   unfold timerOp.named at h
   split at h
   ·rw [Except.ok.injEq] at h
    have h2:=congrArg (fun x:Value × Machine=>x.2.world.drawn) h
    dsimp only at h2
    rw [Ky] at h2
    rw [←h2];exact hm
   ·cases h
  ·cases h
 ·cases h;rfl
theorem acz {n:Nat} {p:Program} {m:Machine} {i:Nat} {listen:Bool} (h:n≤m.world.drawn):R6 n (runT p m i listen).1:=by
 unfold runT
 dsimp only
 have hs:=Z6 (p:=p) (main:=i == 0) (listen:=listen) (g:=(m.gs.swapAt! i { (default:Goroutine) with status:=.finished }).1) h
 generalize stepG p (i == 0) (m.gs.swapAt! i { (default:Goroutine) with status:=.finished }).1 m.world listen=s at hs ⊢
 split
 ·trivial
 ·exact acy hs
 ·exact hs
 ·exact hs
 ·exact UT trivial hs
 ·exact hs
 ·exact UU hs
 ·exact hs
 ·exact hs
 ·split
  ·exact hs
  ·split
   ·rename_i heq
    show n≤_
    dsimp only
    rw [Ab heq];exact hs
   ·trivial
  ·trivial
 ·split
  ·rename_i heq
   have h2:=QS heq
   show n≤_
   dsimp only
   rw [h2];exact hs
  ·split
   ·rename_i heq
    show n≤_
    dsimp only
    rw [Ab heq];exact hs
   ·trivial
  ·trivial
  ·trivial
def MGe (n:Nat):Move→Prop
 | .goroutine m _=>n≤m.world.drawn
 | .machine s _=>R6 n s
theorem C8 {n:Nat} {c:Prop} [Decidable c] {a b:Move} (ha:MGe n a) (hb:MGe n b):MGe n (if c then a else b):=by
 split
 ·exact ha
 ·exact hb
theorem Hg {n:Nat} {p:Program} {m:Machine} (h:n≤m.world.drawn):MGe n (askOn p m):=by
 have pick:∀ (m:Machine) (l:List Nat),n≤m.world.drawn→MGe n (match (choose (.sched l.length)).run p m.world with
   | .halt _ w => .machine (.ended (.stuck "sched" "") w)
   | .ok k world =>
    if l.length≤1 then .goroutine { m with world } (l.getD k 0) else
    match (choose (.extern "sched.slice" 65536)).run p world with
    | .halt _ w => .machine (.ended (.stuck "sched.slice" "") w)
    | .ok n world=>.goroutine { m with world,rest:={ m.rest with slice:=if n=0 then none else some (l.getD k 0,n) } } (l.getD k 0)):=by
  intro m l h
  split
  ·trivial
  ·rename_i heq
   have h2:=dG heq h
   refine C8 h2 ?_
   split
   ·trivial
   ·rename_i h3;have h4:=dG h3 h2;exact h4
 unfold askOn
 dsimp only
 split
 ·trivial
 ·rename_i heq
  have h2:=dG heq h
  refine C8 (Z7 h2) ?_
  split
  ·split
   ·exact h2
   ·refine C8 h2 ?_
    split
    ·trivial
    ·trivial
  ·split
   ·refine pick { m with world:=_ } _ ?_;exact h2
   ·split
    ·trivial
    ·rename_i h3;have h4:=dG h3 h2;(refine pick { m with world:=_ } _ ?_;exact h4)
    ·rename_i h3;have h4:=dG h3 h2;exact h4
    ·rename_i h3;have h4:=dG h3 h2;exact pick _ _ h4
theorem OO {n:Nat} {p:Program} {m:Machine} (h:n≤m.world.drawn):MGe n (ask p m):=by
 unfold ask
 split
 ·split
  ·trivial
  ·rename_i heq
   have h2:=dG heq h
   have h3:=UU (p:=p) (gs:=m.gs) (rest:=m.rest) h2
   split
   ·rename_i hl;rw [hl] at h3;exact Hg h3
   ·exact h3
  ·rename_i heq
   have h2:=dG heq h
   exact Hg h2
 ·exact Hg h
theorem acA {n:Nat} {p:Program} {m:Machine} (h:n≤m.world.drawn):MGe n (move p m):=by
 unfold move
 split
 ·exact C8 h trivial
 ·split
  ·exact C8 h (OO h)
  ·exact OO h
theorem acB {p:Program} {m m':Machine} (h:step p m=.next m'):m.world.drawn≤m'.world.drawn:=by
 have key:R6 m.world.drawn (step p m):=by
  unfold step stepT
  have hm:=acA (p:=p) (m:=m) (Nat.le_refl _)
  split
  ·rename_i heq;rw [heq] at hm;exact acz hm
  ·rename_i heq;rw [heq] at hm;exact hm
 rw [h] at key;exact key
theorem acC {p:Program}:∀ (k:Nat) (m m':Machine),runN p k m=.next m'→m.world.drawn≤m'.world.drawn:=by
 intro k
 induction k with
 | zero=>intro m m' h;unfold runN at h;cases h;exact Nat.le_refl _
 | succ k ih =>
  intro m m' h
  unfold runN at h
  split at h
  ·rename_i heq;exact Nat.le_trans (acB heq) (ih _ _ h)
  ·rename_i hne;exact (hne _ h).elim
theorem OP {p:Program} {m m':Machine} (h:Steps p m m'):m.world.drawn≤m'.world.drawn:=by
 obtain ⟨k,h⟩:=h
 exact acC k _ _ h
theorem Kz {P:Program} {f:FuncId} {args:Array Value} {w:World} {R:Ending→World→Prop} (h:Calls P f args w R) :
  Calls P f args w fun e w'=>R e w'∧(e≠.outgrown→w.drawn≤w'.drawn):=by
 intro cs
 obtain ⟨e,w',fr,hr,hc,hf,hl⟩:=h cs
 refine ⟨e,w',fr,⟨hr,fun hne=>?_⟩,hc,hf,hl⟩
 cases e with
 | returned v=>exact OP hc
 | panicked c=>exact OP hc
 | outgrown=>exact (hne rfl).elim
end Go.Proofs.YtglncfkoohgdaaaGreatDoor
namespace Go.Proofs.YtglncfkoohgdaaaGreatDoor
open Go Go.RowKit Go.Sort
theorem C9 {w w':World} (hb:Below w.heap.size w w') (hd:w.drawn≤w'.drawn):∃ q os,w'=grow (w.drewN q) os:=by
 obtain ⟨ho,ht,hp,hs,hk⟩:=hb
 refine ⟨w'.drawn-w.drawn,w'.heap.extract w.heap.size w'.heap.size,?_⟩
 have hh:w'.heap=w.heap++w'.heap.extract w.heap.size w'.heap.size:=by
  apply Array.ext'
  rw [Array.toList_append,Array.toList_extract]
  apply List.ext_getElem?
  intro i
  by_cases hi:i<w.heap.size
  ·rw [List.getElem?_append_left (by simpa using hi)]
   have:=hk i hi
   simpa using this
  ·rw [List.getElem?_append_right (by simp;omega)]
   simp only [Array.length_toList,List.extract_eq_take_drop]
   rw [List.getElem?_take]
   by_cases h2:i<w'.heap.size
   ·rw [if_pos (by omega),List.getElem?_drop]
    congr 1
    omega
   ·rw [if_neg (by omega)]
    rw [List.getElem?_eq_none (by simp;omega)]
 cases w;cases w'
 simp only [grow,World.drewN] at *
 subst ho ht hp
 simp only [World.mk.injEq,and_self,and_true,true_and]
 exact ⟨hh,by omega⟩
theorem Ac {P:Program} {f:FuncId} {args:Array Value} {w:World} {R:Ending→World→Prop} (h:Calls P f args w R) (hR:∀ e w',R e w'→(∃ v,e=.returned v)∧Below w.heap.size w w') :
  Calls P f args w fun e w'=>R e w'∧∃ q os,w'=grow (w.drewN q) os:=
 (Kz h).mono fun e w' ⟨hr,hd⟩=>⟨hr,by
  obtain ⟨⟨v,rfl⟩,hb⟩:=hR e w' hr
  exact C9 hb (hd (by simp))⟩
end Go.Proofs.YtglncfkoohgdaaaGreatDoor
namespace Go.Proofs.YtglncfkoohgdaaaGreatDoor
open Go.RowKit Go.Shelf Go.Sort Go.Lib
open Go.Lib (decDigits itoa nDigits)
def gL (w:World) (g:Nat) (L:List QP):Prop:=∀ i,i<L.length →
 w.cell? ⟨g,i*2,none⟩=some (.string (tx (pt L i).1))∧w.cell? ⟨g,i*2+1,none⟩=some (.string (tx (pt L i).2))∧w.frozen? ⟨g,i*2,none⟩=false∧w.frozen? ⟨g,i*2+1,none⟩=false
abbrev PQ:={ p:QP // rf 1000000 p }
theorem Z9:rf 1000000 ((0:Rat),(0:Rat)):=⟨⟨0,by decide,by simp⟩,⟨0,by decide,by simp⟩⟩
instance:Inhabited PQ:=⟨⟨(0,0),Z9⟩⟩
def tZ (x:PQ):List Value:=[.string (tx x.1.1),.string (tx x.1.2)]
def cfQ (x y:PQ):Int:=J4 x.1 y.1
theorem ltQ (x y:PQ):ltOf cfQ x y=decide (J4 x.1 y.1<0):=rfl
theorem aga:SWO (ltOf cfQ) where
 irrefl x:=decide_eq_false (fun h=>jY (oC.1 h))
 trans x y z h1 h2:=by rw [ltQ] at *; simp only [oC,decide_eq_true_eq] at *; exact pJ h1 h2
 ntrans x y z h1 h2:=by
  rw [ltQ] at *
  simp only [oC,decide_eq_false_iff_not] at *
  intro h
  rcases (show x.1=y.1∨x.1≠y.1 from Classical.em _) with e | e
  ·rw [←e] at h2;exact h2 h
  ·rcases vw e with h3 | h3
   ·exact h1 h3
   ·exact h2 (pJ h3 h)
theorem nQ:∀ L:List QP,(∀ p∈L,rf 1000000 p)→∃ D:List PQ,D.map (·.1)=L
 | [],_=>⟨[],rfl⟩
 | p :: L,h=>by
  obtain ⟨D,hD⟩:=nQ L (fun q hq=>h q (List.mem_cons_of_mem _ hq))
  exact ⟨⟨p,h p (List.mem_cons_self ..)⟩ :: D,by simp [hD]⟩
theorem Hl {D:List PQ} {i:Nat} (h:i<D.length):pt (D.map (·.1)) i=(D[i]!).1:=by
 rw [cO (by simpa using h),List.getElem_map,getElem!_pos D i h]
theorem FE {w:World} {g:Nat} {D:List PQ} (h:gL w g (D.map (·.1))):HoldsK tZ 2 w g 0 D.toArray:=by
 intro j hj
 rw [size_flatK] at hj
 have hj':j<D.length*2:=by simpa using hj
 have hi:j/2<D.length:=by omega
 obtain ⟨h1,h2,h3,h4⟩:=h (j/2) (by simpa using hi)
 rw [get_flatK _ _ _ _ hj,Nat.zero_add]
 have e:D.toArray[j/2]! = D[j/2]!:=by simp
 rw [e]
 rw [Hl hi] at h1 h2
 rcases Nat.mod_two_eq_zero_or_one j with hm | hm
 ·rw [hm]
  rw [show j/2*2=j by omega] at h1 h3
  exact ⟨h1,h3⟩
 ·rw [hm]
  rw [show j/2*2+1=j by omega] at h2 h4
  exact ⟨h2,h4⟩
theorem FH {w:World} {g:Nat} {d:Array PQ} (h:HoldsK tZ 2 w g 0 d):gL w g (d.toList.map (·.1)):=by
 intro i hi
 have hi':i<d.size:=by simpa using hi
 have h0:=h.cell hi' (show 0<2 by decide)
 have h1:=h.cell hi' (show 1<2 by decide)
 have e:pt (d.toList.map (·.1)) i=(d[i]!).1:=by
  have hl:i<d.toList.length:=by simpa using hi'
  rw [Hl hl,getElem!_pos d.toList i hl,getElem!_pos d i hi',Array.getElem_toList]
 rw [e]
 rw [Nat.zero_add] at h0 h1
 exact ⟨h0.1,h1.1,h0.2,h1.2⟩
theorem FI {w:World} {g n cap:Nat} {L:List QP} (h:gL w g L) (hn:n=L.length) (hc:n≤cap) (hm:cap≤maxLen) (hg:g<w.heap.size):qp w (.slice (some ⟨g,0,none⟩) n cap) L:=by
 subst hn
 refine ⟨_,cap,by rw [List.length_map],by rw [List.length_map];exact hc,hm,fun _=>⟨g,0,rfl,hg,fun i hi=>?_⟩⟩
 have hi':i<L.length:=by simpa using hi
 obtain ⟨h1,h2,_,_⟩:=h i hi'
 rw [cO hi'] at h1 h2
 rw [Nat.zero_add]
 simp only [List.getElem_map,aR]
 exact ⟨h1,h2⟩
theorem dH {w:World} {base:Nat} {e:TypeId} {v:Value} {n:Nat} {xs:List Value} {g cap:Nat} (h:w.ownsRow base e 2 v n xs) (hv:v=.slice (some ⟨g,0,none⟩) n cap) {j:Nat} {u:Value} (hj:xs[j]?=some u):w.cell? ⟨g,j,none⟩=some u∧w.frozen? ⟨g,j,none⟩=false∧g<w.heap.size∧base≤g∧n≤cap∧cap≤maxLen:=by
 obtain ⟨hl,h | ⟨g',cap',cur,hv',hb,hg,hn,hm,hs,ht⟩⟩:=h
 ·obtain ⟨rfl,rfl⟩:=h
  simp at hl
  subst hl
  simp at hj
 ·rw [hv] at hv'
  simp only [Value.slice.injEq,Option.some.injEq,Addr.mk.injEq,and_true,true_and] at hv'
  obtain ⟨rfl,rfl⟩:=hv'
  have hc:cur[j]?=some u:=by
   rw [←ht] at hj
   rw [List.getElem?_take] at hj
   split at hj
   ·simpa using hj
   ·simp at hj
  refine ⟨by simp [World.cell?,hg,hc],by simp [World.frozen?,hg],lt_of_some hg,hb,hn,hm⟩
theorem M9 {w:World} {base g n cap:Nat} {L:List QP} (h:w.ownsRow base 113 2 (.slice (some ⟨g,0,none⟩) n cap) n (cellsS (L.map aR))):gL w g L:=by
 intro i hi
 have hi':i<(L.map aR).length:=by simpa using hi
 have g0:=eQ (L.map aR) i hi' 0 (by decide)
 have g1:=eQ (L.map aR) i hi' 1 (by decide)
 obtain ⟨a1,a2,_⟩:=dH h rfl g0
 obtain ⟨b1,b2,_⟩:=dH h rfl g1
 simp only [List.getElem_cons_zero,List.getElem_cons_succ,List.getElem_map,aR,Nat.add_zero] at a1 a2 b1 b2
 rw [cO hi]
 exact ⟨a1,b1,a2,b2⟩
theorem ik {α:Type} [Inhabited α] (enc:α→List Value) (k:Nat) (w:World) (blk off m:Nat) (dk:Array α) (os:Array Obj) (hblk:blk<w.heap.size):Below blk w (sortWorldK enc k w blk off m dk os):=by
 refine ⟨rfl,rfl,rfl,by simp [sortWorldK,grow,putRowK,putRow,mapBlock,Sort.ahead],fun j hj=>?_⟩
 show ((w.heap.modify blk _)++os)[j]?=_
 rw [Array.getElem?_append_left (by rw [Array.size_modify];omega),Array.getElem?_modify,if_neg (by omega)]
theorem UW (g cap:Nat) (L:List QP) (hz:∀ p∈L,rf 1000000 p) (w:World) (hw:Good w) (hb1:6≤g) (hg:g<w.heap.size) (hH:gL w g L) (hsz:L.length≤1000000) :
  Calls Tryz.prog 114 #[.slice (some ⟨g,0,none⟩) L.length cap,.func (.func 115) #[] #[]] w fun e w' =>
   e=.returned (.tuple #[])∧∃ M:List QP,M.Perm L∧(∀ i j,i<j→j<M.length→¬ eB (pt M j) (pt M i))∧gL w' g M∧Below g w w':=by
 obtain ⟨D,rfl⟩:=nQ L hz
 have eg:∀ args w,(callFunc 115 args).run Tryz.prog w=.ok (.enter 115 args) w:=enters_of Tryz.func115 (by kernel_rfl) rfl
 have hcmp:CmpLays Tryz.prog 115 #[] tZ 2 cfQ g 0 D.toArray.size w:=by
  intro m os dk hdk x y
  have hgd:Good (sortWorldK tZ 2 w g 0 m dk os):=hw.mono (ik tZ 2 w g 0 m dk os hg) hb1
  exact (Ac (GY x.1 y.1 x.2 y.2 _ hgd) (fun e w' h=>⟨⟨_,h.1⟩,h.2⟩)).mono fun e w' h=>⟨h.1.1,h.2⟩
 have hK:=FE hH
 have hcon:=AnyQ.slices_SortFunc acv 2 Tryz.isAgg113 Tryz.sizeOf113 tZ (fun _=>rfl) (fun x v hv=>by simp [tZ] at hv;rcases hv with rfl | rfl <;> rfl) cfQ aga 115 #[] g 0 cap D.toArray w eg hcmp hK hg (by simp at hsz ⊢; omega)
 rw [show D.toArray.size=(D.map (·.1)).length by simp] at hcon
 refine Calls.mono hcon ?_
 rintro e w' ⟨he,d',n,os,hp,hs,rfl⟩
 have hps:d'.size=D.length:=by have:=hp.1;simpa using this
 refine ⟨he,d'.toList.map (·.1),?_,?_,FH (holdsK_sortWorldK tZ 2 w g 0 n D.toArray d' os hg hK hp.1),ik tZ 2 w g 0 n d' os hg⟩
 ·have h3:=hp.2.2
  have e1:(d'.extract 0 D.length)=d':=by rw [←hps];simp
  have e2:(D.toArray.extract 0 D.length)=D.toArray:=by simp
  simp only [List.length_map] at h3
  rw [e1,e2] at h3
  simpa using h3.map (·.1)
 ·intro i j hij hj
  have hj':j<d'.toList.length:=by simpa using hj
  have h4:=hs i j (Nat.zero_le _) hij (by simp;rw [←hps];simpa using hj)
  rw [ltQ] at h4
  have h5:=of_decide_eq_false h4
  rw [oC] at h5
  have hi':i<d'.toList.length:=by omega
  rw [Hl hj',Hl hi',getElem!_pos d'.toList j hj',getElem!_pos d'.toList i hi',Array.getElem_toList,Array.getElem_toList]
  rw [getElem!_pos d' j (by simpa using hj'),getElem!_pos d' i (by simpa using hi')] at h5
  exact h5
theorem aaa (g cap:Nat) (L:List QP) (hz:∀ p∈L,rf 1000000 p) (w:World) (hg:g<w.heap.size) (hH:gL w g L) (hsz:L.length≤1000000) :
  Calls Tryz.prog 118 #[.slice (some ⟨g,0,none⟩) L.length cap] w fun e w'=>e=.returned (.tuple #[])∧gL w' g L.reverse∧(∀ k,k≠g→w'.heap[k]?=w.heap[k]?)∧Below g w w':=by
 obtain ⟨D,rfl⟩:=nQ L hz
 have hK:=FE hH
 have hcon:=AnyQ.slices_Reverse aeb 2 Tryz.isAgg113 Tryz.sizeOf113 tZ (fun _=>rfl) (fun x v hv=>by simp [tZ] at hv;rcases hv with rfl | rfl <;> rfl) g 0 cap D.toArray w hK (by simp at hsz ⊢; omega)
 rw [show D.toArray.size=(D.map (·.1)).length by simp] at hcon
 refine Calls.mono hcon ?_
 rintro e w' ⟨he,n,rfl⟩
 have hK2:HoldsK tZ 2 (putRowK tZ 2 (Sort.ahead w n) g 0 D.toArray.reverse) g 0 D.toArray.reverse:=holdsK_putRowK tZ 2 (Sort.ahead w n) g 0 D.toArray _ (holdsK_ahead tZ 2 w n g 0 _ hK) (by simp)
 refine ⟨he,?_,?_,?_⟩
 ·have:=FH hK2
  simpa using this
 ·intro k hk
  show (w.heap.modify g _)[k]?=_
  rw [Array.getElem?_modify,if_neg (by omega)]
 ·have:=ik tZ 2 w g 0 n D.toArray.reverse #[] hg
  refine ⟨this.os,this.tape,this.output,?_,fun j hj=>?_⟩
  ·simp [putRowK,putRow,mapBlock,Sort.ahead]
  ·show (w.heap.modify g _)[j]?=_
   rw [Array.getElem?_modify,if_neg (by omega)]
theorem QT (b off c:Nat) (L:List QP) (w:World) (hlen:L.length≤1000000)
  (hcell:∀ i (h:i<(L.map aR).length),w.cell? ⟨b,off+i*2,none⟩=some (.string (L.map aR)[i].1)∧w.cell? ⟨b,off+i*2+1,none⟩=some (.string (L.map aR)[i].2)) :
  Calls Tryz.prog 113 #[.slice (some ⟨b,off,none⟩) L.length c] w fun e w'=>∃ g cap,e=.returned (.slice (some ⟨g,0,none⟩) L.length cap)∧L.length≤cap∧cap≤maxLen∧w.heap.size≤g∧g<w'.heap.size∧gL w' g L∧Below w.heap.size w w':=by
 obtain ⟨i0,hi,hz0,hz1,hz2⟩:=info_parts rE.info
 have Na:=AnyE.slices_Clone (ρ:=Aa) Z0 i0 _ 2 32 hi hz0 hz1 hz2 rE.hzs (by decide) Tryz.sizeOf113 b off L.length c (cellsS (L.map aR)) w (by rw [jI,List.length_map]) (by unfold maxLen;omega) (by omega) (fun j u hj=>by
  have:=ML hcell L.length j u (by rw [List.take_of_length_le (by simp)];exact hj)
  rw [addr_add] at this
  exact this) (pK _)
 refine Calls.mono Na ?_
 rintro e w1 ⟨v1,rfl,hown1,hne1,hb1⟩
 rcases hown1.2 with ⟨h,_⟩ | ⟨g,cap,_,rfl,hgb,hgh,hcap,hcm,_⟩
 ·exact (hne1 h).elim
 ·exact ⟨g,cap,rfl,hcap,hcm,(hown1.lt g rfl).1,(hown1.lt g rfl).2,M9 hown1,hb1⟩
end Go.Proofs.YtglncfkoohgdaaaGreatDoor
