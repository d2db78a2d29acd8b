import Derived.Test.YtgohnjdgoglcfaaGreatDoorV13Z
import Derived.Test.YtgohnjdgoglcfaaGreatDoorV9Z
import Derived.Test.YtgohnjdgoglcfaaGreatDoorU11Z
namespace Go.Proofs.YtgohnjdgoglcfaaGreatDoor
open Go.RowKit Go.Shelf
open Go.Lib (decDigits itoa nDigits)
theorem mn_one (f:QP→Rat) (P:List QP):mnTo f P 1=f (pt P 0):=by
 rw [mnTo,mnTo,if_neg Rat.lt_irrefl]
theorem mx_one (f:QP→Rat) (P:List QP):mxTo f P 1=f (pt P 0):=by
 rw [mxTo,mxTo,if_neg Rat.lt_irrefl]
theorem sgn_lt {p q:Rat} (h:p<q):sgnR (p-q) = -1:=sgnR_neg (by grind)
theorem sgn_ge {p q:Rat} (h:¬ p<q):0≤sgnR (p-q):=by
 rcases sgnR_cases (p-q) with ⟨a,b⟩ | ⟨a,b⟩ | ⟨a,b⟩
 ·exact absurd (show p<q by grind) h
 ·omega
 ·omega
theorem sgn_gt {p q:Rat} (h:q<p):sgnR (p-q)=1:=sgnR_pos (by grind)
theorem sgn_le {p q:Rat} (h:¬ q<p):sgnR (p-q)≤0:=by
 rcases sgnR_cases (p-q) with ⟨a,b⟩ | ⟨a,b⟩ | ⟨a,b⟩
 ·omega
 ·omega
 ·exact absurd (show q<p by grind) h
set_option maxRecDepth 100000 in
set_option maxHeartbeats 8000000 in
theorem measures_out (v:Value) (D:List Plc) (w:World) (hw:Good w) (hv:Dft w v D) (h8:¬ D.length≤8):Calls Tryz.prog 5 #[v] w (RV (.bool true) w):=by
 have HKN:=Lib.hid law_known
 have HFT:=Lib.hid (fun w' (h:Dft w' v D)=>law_fits v D w' h)
 unfold RV at HKN
 have HD:=Lib.hid hv
 have hb0:=Below.refl w.heap.size w
 clear hv
 rw [decide_eq_false h8] at HFT
 clear h8
 go_enter Tryz.func5,Tryz.ntmps5
 go_wp2_with fail
 refine (HKN.out _ (hw.below hb0)).mono ?_
 rintro e v1 ⟨rfl,h1⟩
 have hb1:=hb0.trans (h1.mono hb0.size)
 replace HD:=Lib.hid (HD.out.below h1)
 go_wp2_with fail
 refine (HFT.out _ HD.out).mono ?_
 rintro e v0 ⟨rfl,rfl⟩
 go_wp2_with fail
 refine (HKN.out _ (hw.below hb1)).mono ?_
 rintro e v2 ⟨rfl,h2⟩
 have hb2:=hb1.trans (h2.mono hb1.size)
 replace HD:=Lib.hid (HD.out.below h2)
 go_wp2
 go_ret
 exact ⟨rfl,hb2⟩
theorem box_two {w wA:World} {cs cs':Array Value} {t t':TypeId} (hwA:wA=(w.alloc (Obj.cells cs t)).alloc (Obj.cells cs' t')):Below w.heap.size w wA∧wA.heap[w.heap.size]?=some (.cells cs t (0,0))∧wA.heap[w.heap.size+1]?=some (.cells cs' t' (0,0)):=by
 obtain ⟨w1,hw1⟩ : ∃ w1,w1=w.alloc (Obj.cells cs t):=⟨_,rfl⟩
 obtain ⟨b1,x1⟩:=box_any hw1
 rw [←hw1] at hwA
 obtain ⟨b2,x2⟩:=box_any hwA
 have s1:w1.heap.size=w.heap.size+1:=by rw [hw1];simp
 rw [s1] at x2
 exact ⟨b1.trans (b2.mono (by omega)),(b2.block _ (lt_of_blk x1)).trans x1,x2⟩
structure Bx2 (bl bh:Nat) (l1 l2 h1 h2:ByteArray) (W:World):Prop where
 lo:W.heap[bl]?=some (.cells #[.string l1,.string l2] 31 (0,0))
 hi:W.heap[bh]?=some (.cells #[.string h1,.string h2] 31 (0,0))
theorem Bx2.below {bl bh:Nat} {l1 l2 h1 h2:ByteArray} {W W':World} (h:Bx2 bl bh l1 l2 h1 h2 W) (hb:Below W.heap.size W W'):Bx2 bl bh l1 l2 h1 h2 W':=
 ⟨(hb.block _ (lt_of_blk h.lo)).trans h.lo,(hb.block _ (lt_of_blk h.hi)).trans h.hi⟩
theorem Bx2.set {bl bh:Nat} {l1 l2 h1 h2:ByteArray} {W:World} (h:Bx2 bl bh l1 l2 h1 h2 W) (hne:bl≠bh) (x:ByteArray) :
  Bx2 bl bh x l2 h1 h2 (W.setCell ⟨bl,0,none⟩ (.string x))∧Bx2 bl bh l1 x h1 h2 (W.setCell ⟨bl,1,none⟩ (.string x))∧Bx2 bl bh l1 l2 x h2 (W.setCell ⟨bh,0,none⟩ (.string x))∧Bx2 bl bh l1 l2 h1 x (W.setCell ⟨bh,1,none⟩ (.string x)):=
 ⟨⟨two_set0 _ h.lo,by rw [Below.heap_setCell _ _ _ _ (show bh≠bl from Ne.symm hne)];exact h.hi⟩,⟨two_set1 _ h.lo,by rw [Below.heap_setCell _ _ _ _ (show bh≠bl from Ne.symm hne)];exact h.hi⟩,
 ⟨by rw [Below.heap_setCell _ _ _ _ (show bl≠bh from hne)];exact h.lo,two_set0 _ h.hi⟩,⟨by rw [Below.heap_setCell _ _ _ _ (show bl≠bh from hne)];exact h.lo,two_set1 _ h.hi⟩⟩
def TwoBx (w:World) (p1 p2:ByteArray) (s t:Value) (W:World):Prop:=∃ bl bh,s=.pointer (some ⟨bl,0,none⟩)∧t=.pointer (some ⟨bh,0,none⟩)∧Bx2 bl bh p1 p2 p1 p2 W∧Below w.heap.size w W∧w.heap.size≤bl∧w.heap.size≤bh∧bl≠bh
theorem mk_boxes {w wx:World} {p1 p2:ByteArray} (h:wx=((w.alloc (Obj.cells #[.string p1,.string p2] 31)).alloc (Obj.cells #[.string p1,.string p2] 31)).drew) :
  TwoBx w p1 p2 (.pointer (some ⟨w.heap.size,0,none⟩)) (.pointer (some ⟨w.heap.size+1,0,none⟩)) wx∧TwoBx w p1 p2 (.pointer (some ⟨w.heap.size+1,0,none⟩)) (.pointer (some ⟨w.heap.size,0,none⟩)) wx:=by
 obtain ⟨b,x,y⟩:=box_two (w:=w) rfl
 have hb:Below w.heap.size w wx:=by rw [h];exact b.drew
 have hx:wx.heap[w.heap.size]?=some (.cells #[.string p1,.string p2] 31 (0,0)):=by rw [h];exact x
 have hy:wx.heap[w.heap.size+1]?=some (.cells #[.string p1,.string p2] 31 (0,0)):=by rw [h];exact y
 exact ⟨⟨_,_,rfl,rfl,⟨hx,hy⟩,hb,Nat.le_refl _,Nat.le_succ _,by omega⟩,⟨_,_,rfl,rfl,⟨hy,hx⟩,hb,Nat.le_succ _,Nat.le_refl _,by omega⟩⟩
theorem mn_pick (f:QP→Rat) (P:List QP) (k:Nat) {s:ByteArray} (h:s=tx (mnTo f P (k+1))):(sgnR (f (pt P k)-mnTo f P k)<0→s=tx (f (pt P k)))∧(¬ sgnR (f (pt P k)-mnTo f P k)<0→s=tx (mnTo f P k)):=by
 rw [mnTo] at h
 by_cases hlt:f (pt P k)<mnTo f P k
 ·rw [if_pos hlt] at h
  exact ⟨fun _=>h,fun hn=>absurd (by rw [sgn_lt hlt];decide) hn⟩
 ·rw [if_neg hlt] at h
  exact ⟨fun hn=>absurd hn (by have:=sgn_ge hlt;omega),fun _=>h⟩
theorem mx_pick (f:QP→Rat) (P:List QP) (k:Nat) {s:ByteArray} (h:s=tx (mxTo f P (k+1))):(sgnR (f (pt P k)-mxTo f P k)>0→s=tx (f (pt P k)))∧(¬ sgnR (f (pt P k)-mxTo f P k)>0→s=tx (mxTo f P k)):=by
 rw [mxTo] at h
 by_cases hlt:mxTo f P k<f (pt P k)
 ·rw [if_pos hlt] at h
  exact ⟨fun _=>h,fun hn=>absurd (by rw [sgn_gt hlt];decide) hn⟩
 ·rw [if_neg hlt] at h
  exact ⟨fun hn=>absurd hn (by have:=sgn_le hlt;omega),fun _=>h⟩
set_option maxRecDepth 100000 in
set_option maxHeartbeats 8000000 in
theorem measures_in (v:Value) (D:List Plc) (w:World) (hw:Good w) (hv:Dft w v D) (h8:D.length≤8):Calls Tryz.prog 5 #[v] w (RV (.bool true) w):=by
 have HKN:=Lib.hid law_known
 have HFT:=Lib.hid (fun w' (h:Dft w' v D)=>law_fits v D w' h)
 unfold RV at HKN
 have HD:=Lib.hid hv
 have hb0:=Below.refl w.heap.size w
 clear hv
 have HMK:=Lib.hid (fun w' (hg:Good w') (h:Dft w' v D)=>law_make v D w' hg h)
 unfold MadeD at HMK
 rw [decide_eq_true h8] at HFT
 clear h8
 go_enter Tryz.func5,Tryz.ntmps5
 go_wp2_with fail
 refine (HKN.out _ (hw.below hb0)).mono ?_
 rintro e v1 ⟨rfl,h1⟩
 have hb1:=hb0.trans (h1.mono hb0.size)
 replace HD:=Lib.hid (HD.out.below h1)
 go_wp2_with fail
 refine (HFT.out _ HD.out).mono ?_
 rintro e v0 ⟨rfl,rfl⟩
 go_wp2_with fail
 refine (HMK.out _ (hw.below hb1) HD.out).mono ?_
 rintro e v2 ⟨r,P,rfl,hDr,hPt,h2⟩
 have hb2:=hb1.trans (h2.mono hb1.size)
 replace HD:=Lib.hid (HD.out.below h2)
 obtain ⟨pp,cc,rfl,hcc1,hcc2⟩:=hPt.slice
 obtain ⟨B,off,rfl,_,_⟩:=Pts.cells hPt (by have:=hDr.poly.1.1;omega)
 have HP:=Lib.hid hPt
 have hP8:=hDr.le8
 have hP3:=hDr.poly.1.1
 have hz2:∀ p∈P,Sz2 402 p:=fun p hp=>okP_sz (hDr.ok p hp)
 unfold maxLen at hcc2
 have HAR:=Lib.hid (fun w' (hg:Good w') hp=>pg_Area (.slice (some ⟨B,off,none⟩) P.length cc) P hDr.poly (by omega) hDr.ok (fun k hk=>(hDr.areas k hk).sz.mono (by decide)) hDr.whole w' hg hp)
 have HCE:=Lib.hid (fun w' (hg:Good w') hp=>pg_Centroid (.slice (some ⟨B,off,none⟩) P.length cc) P hDr.poly (by omega) hDr.ok (fun k hk=>(hDr.areas k hk).sz.mono (by decide)) (fun k hk=>(hDr.cenX k hk).sz.mono (by decide)) (fun k hk=>(hDr.cenY k hk).sz.mono (by decide)) hDr.cens w' hg hp)
 have HBO:=Lib.hid (fun w' (hg:Good w') hp=>pg_Box (.slice (some ⟨B,off,none⟩) P.length cc) P hDr.poly (by omega) hDr.ok w' hg hp)
 have HRA:=Lib.hid (fun w' (hg:Good w') hp=>r9_area (.slice (some ⟨B,off,none⟩) P.length cc) P (by omega) (by omega) (fun p hp=>(hz2 p hp).mono (by decide)) (fun k hk=>(hDr.areas k hk).sz.mono (by decide)) w' hg hp)
 have HRC:=Lib.hid (fun w' (hg:Good w') hp=>r9_centroid (.slice (some ⟨B,off,none⟩) P.length cc) P hDr.poly.1 (by omega) hz2 (fun k hk=>(hDr.areas k hk).sz) (fun k hk=>(hDr.cenX k hk).sz) (fun k hk=>(hDr.cenY k hk).sz) w' hg hp)
 have hnx:∀ k,k≤P.length→Sz 402 (mnTo (·.1) P k):=mnTo_sz (by omega) (fun p hp=>(hz2 p hp).1)
 have hny:∀ k,k≤P.length→Sz 402 (mnTo (·.2) P k):=mnTo_sz (by omega) (fun p hp=>(hz2 p hp).2)
 have hxx:∀ k,k≤P.length→Sz 402 (mxTo (·.1) P k):=mxTo_sz (by omega) (fun p hp=>(hz2 p hp).1)
 have hxy:∀ k,k≤P.length→Sz 402 (mxTo (·.2) P k):=mxTo_sz (by omega) (fun p hp=>(hz2 p hp).2)
 have HC1:=Lib.hid (fun k (hk:k<P.length) w' (hg:Good w')=>r_cmp (pt P k).1 (mnTo (·.1) P k) ((hz2 _ (pt_mem hk)).1.mono (by decide)) ((hnx k (by omega)).mono (by decide)) w' hg)
 have HC2:=Lib.hid (fun k (hk:k<P.length) w' (hg:Good w')=>r_cmp (pt P k).2 (mnTo (·.2) P k) ((hz2 _ (pt_mem hk)).2.mono (by decide)) ((hny k (by omega)).mono (by decide)) w' hg)
 have HC3:=Lib.hid (fun k (hk:k<P.length) w' (hg:Good w')=>r_cmp (pt P k).1 (mxTo (·.1) P k) ((hz2 _ (pt_mem hk)).1.mono (by decide)) ((hxx k (by omega)).mono (by decide)) w' hg)
 have HC4:=Lib.hid (fun k (hk:k<P.length) w' (hg:Good w')=>r_cmp (pt P k).2 (mxTo (·.2) P k) ((hz2 _ (pt_mem hk)).2.mono (by decide)) ((hxy k (by omega)).mono (by decide)) w' hg)
 have heqC:=eqlPts (cenP P) (cenP P)
 rw [decide_eq_true rfl] at heqC
 have heqL:=eqlPts (mnTo (·.1) P P.length,mnTo (·.2) P P.length) (mnTo (·.1) P P.length,mnTo (·.2) P P.length)
 rw [decide_eq_true rfl] at heqL
 have heqH:=eqlPts (mxTo (·.1) P P.length,mxTo (·.2) P P.length) (mxTo (·.1) P P.length,mxTo (·.2) P P.length)
 rw [decide_eq_true rfl] at heqH
 have HEQ:=Lib.hid (And.intro heqC (And.intro heqL heqH))
 unfold RV at HAR HCE HBO HRA HRC HC1 HC2 HC3 HC4
 unfold ptV at HCE HRC
 unfold BoxV at HBO
 dsimp only at HEQ
 clear hPt hDr hz2 hnx hny hxx hxy heqC heqL heqH
 go_wp2_with fail
 refine (HAR.out _ (hw.below hb2) HP.out).mono ?_
 rintro e v3 ⟨rfl,h3⟩
 have hb3:=hb2.trans (h3.mono hb2.size)
 replace HD:=Lib.hid (HD.out.below h3)
 replace HP:=Lib.hid (HP.out.below h3)
 go_wp2_with fail
 refine (HCE.out _ (hw.below hb3) HP.out).mono ?_
 rintro e v4 ⟨rfl,h4⟩
 have hb4:=hb3.trans (h4.mono hb3.size)
 replace HD:=Lib.hid (HD.out.below h4)
 replace HP:=Lib.hid (HP.out.below h4)
 go_wp2_with fail
 obtain ⟨v5,hwv5⟩ : ∃ v5,v5=v4.alloc (Obj.cells #[.string (tx (cenP P).1),.string (tx (cenP P).2)] 31):=⟨_,rfl⟩
 obtain ⟨h5,hxv5⟩:=box_any hwv5
 have hb5:=hb4.trans (h5.mono hb4.size)
 replace HD:=Lib.hid (HD.out.below h5)
 replace HP:=Lib.hid (HP.out.below h5)
 rw [←hwv5]
 have HX1:=Lib.hid hxv5
 have e1:v4.heap.size=v4.heap.size:=rfl
 clear hxv5 hwv5 e1
 refine (HBO.out _ (hw.below hb5) HP.out).mono ?_
 rintro e v6 ⟨rfl,h6⟩
 have hb6:=hb5.trans (h6.mono hb5.size)
 replace HD:=Lib.hid (HD.out.below h6)
 replace HP:=Lib.hid (HP.out.below h6)
 replace HX1:=Lib.hid ((h6.block _ (lt_of_blk HX1.out)).trans HX1.out)
 go_wp2_with fail
 obtain ⟨wN,hwN⟩ : ∃ wN,wN=(v6.alloc (Obj.cells #[.string (tx (mnTo (·.1) P P.length)),.string (tx (mnTo (·.2) P P.length))] 31)).alloc (Obj.cells #[.string (tx (mxTo (·.1) P P.length)),.string (tx (mxTo (·.2) P P.length))] 31):=⟨_,rfl⟩
 obtain ⟨hN,hxL,hxH⟩:=box_two hwN
 have hbN:=hb6.trans (hN.mono hb6.size)
 have HX2:=Lib.hid hxL
 have HX3:=Lib.hid hxH
 replace HP:=Lib.hid (HP.out.below hN)
 replace HX1:=Lib.hid ((hN.block _ (lt_of_blk HX1.out)).trans HX1.out)
 have ln1:wN.heap.size=v6.heap.size+2:=by rw [hwN];simp
 have l1:=lt_of_blk HX1.out
 rw [←hwN]
 obtain ⟨B2,o2,hB2,hblN,hcell⟩:=Pts.cells HP.out (by omega)
 cases hB2
 have HCL:=Lib.hid (fun i (hi:i<P.length) wx (h:Below wN.heap.size wN wx)=>And.intro ((h.cell (p:=⟨B,off+i*2,none⟩) hblN).trans (hcell i hi).1) ((h.cell (p:=⟨B,off+i*2+1,none⟩) hblN).trans (hcell i hi).2))
 obtain ⟨c0,c1⟩:=HCL.out 0 (by omega) wN (Below.refl _ _)
 simp only [Nat.zero_mul,Nat.add_zero] at c0 c1
 generalize hp1:tx (pt P 0).1=p1 at *
 generalize hp2:tx (pt P 0).2=p2 at *
 have HPE:=Lib.hid (And.intro hp1 hp2)
 have i0:(0:Int)<(P.length:Int):=by omega
 have i0n:0<P.length:=by omega
 have MKB:=Lib.hid (fun (wx:World) (h:wx=((wN.alloc (Obj.cells #[.string p1,.string p2] 31)).alloc (Obj.cells #[.string p1,.string p2] 31)).drew)=>mk_boxes h)
 clear hp1 hp2 hcell hwN hxL hxH ln1
 go_upto_region 7 with fail
 go_cut [11,12] from 40 to 45 (fun s11 s12 wx=>TwoBx wN p1 p2 s11 s12 wx)
 case first =>
  go_region
  all_goals (go_wp2;go_meet;first | exact (MKB.out _ rfl).1 | exact (MKB.out _ rfl).2)
 case rest =>
 obtain ⟨bl,bh,rfl,rfl,hbx,hbB,hlb,hhb,hne⟩:=hcut
 obtain ⟨wq,hwq⟩ : ∃ q,q=wc:=⟨_,rfl⟩
 subst hwq
 have HST:=Lib.hid (And.intro (mn_one (·.1) P) (And.intro (mn_one (·.2) P) (And.intro (mx_one (·.1) P) (mx_one (·.2) P))))
 have HB0:=Lib.hid hbx
 clear hbx c0 c1 MKB
 go_wp2_with fail
 go_loopw [13] (fun iv wr=>∃ k:Nat,1≤k∧k≤P.length∧iv=.int .i64 (k:Int)∧Bx2 bl bh (tx (mnTo (·.1) P k)) (tx (mnTo (·.2) P k)) (tx (mxTo (·.1) P k)) (tx (mxTo (·.2) P k)) wr∧Below wN.heap.size wN wr) (fun iv _=>P.length-(intOf iv).toNat)
 case atStart=>exact ⟨1,Nat.le_refl _,by omega,rfl,by rw [HST.out.1,HST.out.2.1,HST.out.2.2.1,HST.out.2.2.2,HPE.out.1,HPE.out.2];exact HB0.out,hbB⟩
 case round =>
  obtain ⟨k,hk1,hkl,rfl,hbx,hbr⟩:=hrel
  clear hbB HB0 HST HPE
  by_cases hk:k<P.length
  ·have hkn:decide ((k:Int)<(P.length:Int))=true:=decide_eq_true (by omega)
   have i1:(0:Int)≤(k:Int):=by omega
   have i2:(k:Int)<(P.length:Int):=by omega
   have D1:=Lib.hid (HC1.out k hk)
   have D2:=Lib.hid (HC2.out k hk)
   have D3:=Lib.hid (HC3.out k hk)
   have D4:=Lib.hid (HC4.out k hk)
   obtain ⟨s1',e1⟩ : ∃ s,s=tx (mnTo (·.1) P (k+1)):=⟨_,rfl⟩
   obtain ⟨s2',e2⟩ : ∃ s,s=tx (mnTo (·.2) P (k+1)):=⟨_,rfl⟩
   obtain ⟨s3',e3⟩ : ∃ s,s=tx (mxTo (·.1) P (k+1)):=⟨_,rfl⟩
   obtain ⟨s4',e4⟩ : ∃ s,s=tx (mxTo (·.2) P (k+1)):=⟨_,rfl⟩
   have E1:=Lib.hid (mn_pick (·.1) P k e1)
   have E2:=Lib.hid (mn_pick (·.2) P k e2)
   have E3:=Lib.hid (mx_pick (·.1) P k e3)
   have E4:=Lib.hid (mx_pick (·.2) P k e4)
   have EE:=Lib.hid (And.intro e1 (And.intro e2 (And.intro e3 e4)))
   have C0:=Lib.hid (HCL.out k hk)
   clear e1 e2 e3 e4
   generalize sgnR ((pt P k).1-mnTo (·.1) P k)=g1 at *
   generalize sgnR ((pt P k).2-mnTo (·.2) P k)=g2 at *
   generalize sgnR ((pt P k).1-mxTo (·.1) P k)=g3 at *
   generalize sgnR ((pt P k).2-mxTo (·.2) P k)=g4 at *
   generalize tx (mnTo (·.1) P k)=s1 at *
   generalize tx (mnTo (·.2) P k)=s2 at *
   generalize tx (mxTo (·.1) P k)=s3 at *
   generalize tx (mxTo (·.2) P k)=s4 at *
   generalize tx (pt P k).1=p1 at *
   generalize tx (pt P k).2=p2 at *
   obtain ⟨w0,hw0⟩ : ∃ q,q=wr:=⟨_,rfl⟩
   subst hw0
   obtain ⟨b1,hb⟩ : ∃ y,decide (g1<0)=y:=⟨_,rfl⟩
   have EV1:=Lib.hid (And.intro (fun h:b1=true=>E1.out.1 (of_decide_eq_true (hb.trans h))) (fun h:b1=false=>E1.out.2 (of_decide_eq_false (hb.trans h))))
   have HB1:=Lib.hid hb
   clear hb
   go_upto_region 11 with fail
   go_cut [13,60] from 46 to 111 (fun s13 st wx=>s13=.int .i64 (k:Int)∧st=.bool b1∧Bx2 bl bh s1 s2 s3 s4 wx∧Below wN.heap.size wN wx)
   case first =>
    have hb:=HB1.out
    have n1:decide (g1<0)=b1:=hb
    clear hb
    obtain ⟨c0,c1⟩:=C0.out w0 hbr
    have hbW:=hbN.trans (hbr.mono hbN.size)
    have hbl0:B<w0.heap.size:=Nat.lt_of_lt_of_le hblN hbr.size
    have lx:=lt_of_blk hbx.lo
    obtain ⟨x0,x1,_,_⟩:=two_cells hbx.lo
    have HBX:=Lib.hid hbx
    clear hbx
    go_wp2_with fail
    refine wp_held_list (fun W'=>Below w0.heap.size w0 W') [0,1,2,3,4,5,6] [7] 8 (by kernel_rfl) (by kernel_rfl) ⟨rfl,rfl,rfl,Nat.le_refl _,fun _ _=>rfl⟩ ?_
    iterate 7
     refine wpTakeL_step rfl ?_ rfl ?_ ?_
     rotate_left
     ·intro W' hS'
      have s0:=(hS'.cell (p:=⟨B,off+k*2,none⟩) hbl0).trans c0
      have s1:=(hS'.cell (p:=⟨B,off+k*2+1,none⟩) hbl0).trans c1
      have s2:=(hS'.cell (p:=⟨bl,0,none⟩) lx).trans x0
      have s3:=(hS'.cell (p:=⟨bl,1,none⟩) lx).trans x1
      go_simp
      try with_reducible rfl
     try simp only [zA,zB,zC,Act.put,zD,zE,zF]
    have hR0:Below w0.heap.size w0 w0.drew:=⟨rfl,rfl,rfl,Nat.le_refl _,fun _ _=>rfl⟩
    refine wpKeepL_step rfl rfl (fun K hK=>?_)
    go_simp
    refine (D1.out _ (hw.below (hbW.trans (hR0.mono hbW.size)))).mono ?_
    rintro e u1 ⟨rfl,hbu1⟩
    have hR1:=hR0.trans (hbu1.mono hR0.size)
    refine hK _ _ ⟨hR1,?_⟩
    clear hK K
    try simp only [zA,zB,zC,Act.put,zD,zE,zF]
    unfold wpKeepL
    simp only [List.drop_succ_cons,List.drop_zero]
    try simp only [zA,zB,zC,Act.put,zD,zE,zF]
    refine wpKeep_step rfl (fun K hK=>?_)
    go_simp
    refine hK _ _ ⟨trivial,wpKeep_nil ?_⟩
    clear hK K
    try simp only [zA,zB,zC,Act.put,zD,zE,zF]
    refine NormalOnly.mk ?_
    go_wp2
    go_meet
    exact ⟨rfl,rfl,HBX.out.below hR1,hbr.trans (hR1.mono hbr.size)⟩
   case rest =>
   clear hbr hbx
   obtain ⟨rfl,rfl,hbx,hbr⟩:=hcut
   obtain ⟨m1,hwm1⟩ : ∃ q,q=wc:=⟨_,rfl⟩
   subst hwm1
   go_upto_if 60 with fail
   go_cut [13] from 46 to 111 (fun s13 wx=>s13=.int .i64 (k:Int)∧Bx2 bl bh s1' s2 s3 s4 wx∧Below wN.heap.size wN wx)
   case first =>
    have hbx0:=Lib.hid hbx
    obtain ⟨c0,c1⟩:=C0.out m1 hbr
    have hbW:=hbN.trans (hbr.mono hbN.size)
    have hbl0:B<m1.heap.size:=Nat.lt_of_lt_of_le hblN hbr.size
    have lx:=lt_of_blk hbx.lo
    obtain ⟨x0,x1,_,_⟩:=two_cells hbx.lo
    have HBX:=Lib.hid hbx
    clear hbx
    cases b1 with
    | true =>
     go_wp2
     go_meet
     exact ⟨rfl,by rw [EV1.out.1 (by simp)];exact (HBX.out.set hne p1).1,hbr.setCell (p:=⟨bl,0,none⟩) hlb _⟩
    | false =>
     go_wp2
     go_meet
     exact ⟨rfl,by rw [EV1.out.2 (by simp)];exact HBX.out,hbr⟩
   case rest =>
   clear hbr hbx
   obtain ⟨rfl,hbx,hbr⟩:=hcut
   obtain ⟨q1,hwq1⟩ : ∃ q,q=wc:=⟨_,rfl⟩
   subst hwq1
   obtain ⟨b2,hb⟩ : ∃ y,decide (g2<0)=y:=⟨_,rfl⟩
   have EV2:=Lib.hid (And.intro (fun h:b2=true=>E2.out.1 (of_decide_eq_true (hb.trans h))) (fun h:b2=false=>E2.out.2 (of_decide_eq_false (hb.trans h))))
   have HB2:=Lib.hid hb
   clear hb
   go_upto_region 13 with fail
   go_cut [13,75] from 46 to 111 (fun s13 st wx=>s13=.int .i64 (k:Int)∧st=.bool b2∧Bx2 bl bh s1' s2 s3 s4 wx∧Below wN.heap.size wN wx)
   case first =>
    have hb:=HB2.out
    have n1:decide (g2<0)=b2:=hb
    clear hb
    obtain ⟨c0,c1⟩:=C0.out q1 hbr
    have hbW:=hbN.trans (hbr.mono hbN.size)
    have hbl0:B<q1.heap.size:=Nat.lt_of_lt_of_le hblN hbr.size
    have lx:=lt_of_blk hbx.lo
    obtain ⟨x0,x1,_,_⟩:=two_cells hbx.lo
    have HBX:=Lib.hid hbx
    clear hbx
    go_wp2_with fail
    refine wp_held_list (fun W'=>Below q1.heap.size q1 W') [0,1,2,3,4,5,6] [7] 8 (by kernel_rfl) (by kernel_rfl) ⟨rfl,rfl,rfl,Nat.le_refl _,fun _ _=>rfl⟩ ?_
    iterate 7
     refine wpTakeL_step rfl ?_ rfl ?_ ?_
     rotate_left
     ·intro W' hS'
      have s0:=(hS'.cell (p:=⟨B,off+k*2,none⟩) hbl0).trans c0
      have s1:=(hS'.cell (p:=⟨B,off+k*2+1,none⟩) hbl0).trans c1
      have s2:=(hS'.cell (p:=⟨bl,0,none⟩) lx).trans x0
      have s3:=(hS'.cell (p:=⟨bl,1,none⟩) lx).trans x1
      go_simp
      try with_reducible rfl
     try simp only [zA,zB,zC,Act.put,zD,zE,zF]
    have hR0:Below q1.heap.size q1 q1.drew:=⟨rfl,rfl,rfl,Nat.le_refl _,fun _ _=>rfl⟩
    refine wpKeepL_step rfl rfl (fun K hK=>?_)
    go_simp
    refine (D2.out _ (hw.below (hbW.trans (hR0.mono hbW.size)))).mono ?_
    rintro e u1 ⟨rfl,hbu1⟩
    have hR1:=hR0.trans (hbu1.mono hR0.size)
    refine hK _ _ ⟨hR1,?_⟩
    clear hK K
    try simp only [zA,zB,zC,Act.put,zD,zE,zF]
    unfold wpKeepL
    simp only [List.drop_succ_cons,List.drop_zero]
    try simp only [zA,zB,zC,Act.put,zD,zE,zF]
    refine wpKeep_step rfl (fun K hK=>?_)
    go_simp
    refine hK _ _ ⟨trivial,wpKeep_nil ?_⟩
    clear hK K
    try simp only [zA,zB,zC,Act.put,zD,zE,zF]
    refine NormalOnly.mk ?_
    go_wp2
    go_meet
    exact ⟨rfl,rfl,HBX.out.below hR1,hbr.trans (hR1.mono hbr.size)⟩
   case rest =>
   clear hbr hbx
   obtain ⟨rfl,rfl,hbx,hbr⟩:=hcut
   obtain ⟨m2,hwm2⟩ : ∃ q,q=wc:=⟨_,rfl⟩
   subst hwm2
   go_upto_if 75 with fail
   go_cut [13] from 46 to 111 (fun s13 wx=>s13=.int .i64 (k:Int)∧Bx2 bl bh s1' s2' s3 s4 wx∧Below wN.heap.size wN wx)
   case first =>
    have hbx0:=Lib.hid hbx
    obtain ⟨c0,c1⟩:=C0.out m2 hbr
    have hbW:=hbN.trans (hbr.mono hbN.size)
    have hbl0:B<m2.heap.size:=Nat.lt_of_lt_of_le hblN hbr.size
    have lx:=lt_of_blk hbx.lo
    obtain ⟨x0,x1,_,_⟩:=two_cells hbx.lo
    have HBX:=Lib.hid hbx
    clear hbx
    cases b2 with
    | true =>
     go_wp2
     go_meet
     exact ⟨rfl,by rw [EV2.out.1 (by simp)];exact (HBX.out.set hne p2).2.1,hbr.setCell (p:=⟨bl,1,none⟩) hlb _⟩
    | false =>
     go_wp2
     go_meet
     exact ⟨rfl,by rw [EV2.out.2 (by simp)];exact HBX.out,hbr⟩
   case rest =>
   clear hbr hbx
   obtain ⟨rfl,hbx,hbr⟩:=hcut
   obtain ⟨q2,hwq2⟩ : ∃ q,q=wc:=⟨_,rfl⟩
   subst hwq2
   obtain ⟨b3,hb⟩ : ∃ y,decide (g3>0)=y:=⟨_,rfl⟩
   have EV3:=Lib.hid (And.intro (fun h:b3=true=>E3.out.1 (of_decide_eq_true (hb.trans h))) (fun h:b3=false=>E3.out.2 (of_decide_eq_false (hb.trans h))))
   have HB3:=Lib.hid hb
   clear hb
   go_upto_region 15 with fail
   go_cut [13,90] from 46 to 111 (fun s13 st wx=>s13=.int .i64 (k:Int)∧st=.bool b3∧Bx2 bl bh s1' s2' s3 s4 wx∧Below wN.heap.size wN wx)
   case first =>
    have hb:=HB3.out
    have n1:decide (g3>0)=b3:=hb
    have n2:decide (0<g3)=b3:=hb
    clear hb
    obtain ⟨c0,c1⟩:=C0.out q2 hbr
    have hbW:=hbN.trans (hbr.mono hbN.size)
    have hbl0:B<q2.heap.size:=Nat.lt_of_lt_of_le hblN hbr.size
    have lx:=lt_of_blk hbx.hi
    obtain ⟨x0,x1,_,_⟩:=two_cells hbx.hi
    have HBX:=Lib.hid hbx
    clear hbx
    go_wp2_with fail
    refine wp_held_list (fun W'=>Below q2.heap.size q2 W') [0,1,2,3,4,5,6] [7] 8 (by kernel_rfl) (by kernel_rfl) ⟨rfl,rfl,rfl,Nat.le_refl _,fun _ _=>rfl⟩ ?_
    iterate 7
     refine wpTakeL_step rfl ?_ rfl ?_ ?_
     rotate_left
     ·intro W' hS'
      have s0:=(hS'.cell (p:=⟨B,off+k*2,none⟩) hbl0).trans c0
      have s1:=(hS'.cell (p:=⟨B,off+k*2+1,none⟩) hbl0).trans c1
      have s2:=(hS'.cell (p:=⟨bh,0,none⟩) lx).trans x0
      have s3:=(hS'.cell (p:=⟨bh,1,none⟩) lx).trans x1
      go_simp
      try with_reducible rfl
     try simp only [zA,zB,zC,Act.put,zD,zE,zF]
    have hR0:Below q2.heap.size q2 q2.drew:=⟨rfl,rfl,rfl,Nat.le_refl _,fun _ _=>rfl⟩
    refine wpKeepL_step rfl rfl (fun K hK=>?_)
    go_simp
    refine (D3.out _ (hw.below (hbW.trans (hR0.mono hbW.size)))).mono ?_
    rintro e u1 ⟨rfl,hbu1⟩
    have hR1:=hR0.trans (hbu1.mono hR0.size)
    refine hK _ _ ⟨hR1,?_⟩
    clear hK K
    try simp only [zA,zB,zC,Act.put,zD,zE,zF]
    unfold wpKeepL
    simp only [List.drop_succ_cons,List.drop_zero]
    try simp only [zA,zB,zC,Act.put,zD,zE,zF]
    refine wpKeep_step rfl (fun K hK=>?_)
    go_simp
    refine hK _ _ ⟨trivial,wpKeep_nil ?_⟩
    clear hK K
    try simp only [zA,zB,zC,Act.put,zD,zE,zF]
    refine NormalOnly.mk ?_
    go_wp2
    go_meet
    exact ⟨rfl,rfl,HBX.out.below hR1,hbr.trans (hR1.mono hbr.size)⟩
   case rest =>
   clear hbr hbx
   obtain ⟨rfl,rfl,hbx,hbr⟩:=hcut
   obtain ⟨m3,hwm3⟩ : ∃ q,q=wc:=⟨_,rfl⟩
   subst hwm3
   go_upto_if 90 with fail
   go_cut [13] from 46 to 111 (fun s13 wx=>s13=.int .i64 (k:Int)∧Bx2 bl bh s1' s2' s3' s4 wx∧Below wN.heap.size wN wx)
   case first =>
    have hbx0:=Lib.hid hbx
    obtain ⟨c0,c1⟩:=C0.out m3 hbr
    have hbW:=hbN.trans (hbr.mono hbN.size)
    have hbl0:B<m3.heap.size:=Nat.lt_of_lt_of_le hblN hbr.size
    have lx:=lt_of_blk hbx.hi
    obtain ⟨x0,x1,_,_⟩:=two_cells hbx.hi
    have HBX:=Lib.hid hbx
    clear hbx
    cases b3 with
    | true =>
     go_wp2
     go_meet
     exact ⟨rfl,by rw [EV3.out.1 (by simp)];exact (HBX.out.set hne p1).2.2.1,hbr.setCell (p:=⟨bh,0,none⟩) hhb _⟩
    | false =>
     go_wp2
     go_meet
     exact ⟨rfl,by rw [EV3.out.2 (by simp)];exact HBX.out,hbr⟩
   case rest =>
   clear hbr hbx
   obtain ⟨rfl,hbx,hbr⟩:=hcut
   obtain ⟨q3,hwq3⟩ : ∃ q,q=wc:=⟨_,rfl⟩
   subst hwq3
   obtain ⟨b4,hb⟩ : ∃ y,decide (g4>0)=y:=⟨_,rfl⟩
   have EV4:=Lib.hid (And.intro (fun h:b4=true=>E4.out.1 (of_decide_eq_true (hb.trans h))) (fun h:b4=false=>E4.out.2 (of_decide_eq_false (hb.trans h))))
   have HB4:=Lib.hid hb
   clear hb
   go_upto_region 17 with fail
   go_cut [13,105] from 46 to 111 (fun s13 st wx=>s13=.int .i64 (k:Int)∧st=.bool b4∧Bx2 bl bh s1' s2' s3' s4 wx∧Below wN.heap.size wN wx)
   case first =>
    have hb:=HB4.out
    have n1:decide (g4>0)=b4:=hb
    have n2:decide (0<g4)=b4:=hb
    clear hb
    obtain ⟨c0,c1⟩:=C0.out q3 hbr
    have hbW:=hbN.trans (hbr.mono hbN.size)
    have hbl0:B<q3.heap.size:=Nat.lt_of_lt_of_le hblN hbr.size
    have lx:=lt_of_blk hbx.hi
    obtain ⟨x0,x1,_,_⟩:=two_cells hbx.hi
    have HBX:=Lib.hid hbx
    clear hbx
    go_wp2_with fail
    refine wp_held_list (fun W'=>Below q3.heap.size q3 W') [0,1,2,3,4,5,6] [7] 8 (by kernel_rfl) (by kernel_rfl) ⟨rfl,rfl,rfl,Nat.le_refl _,fun _ _=>rfl⟩ ?_
    iterate 7
     refine wpTakeL_step rfl ?_ rfl ?_ ?_
     rotate_left
     ·intro W' hS'
      have s0:=(hS'.cell (p:=⟨B,off+k*2,none⟩) hbl0).trans c0
      have s1:=(hS'.cell (p:=⟨B,off+k*2+1,none⟩) hbl0).trans c1
      have s2:=(hS'.cell (p:=⟨bh,0,none⟩) lx).trans x0
      have s3:=(hS'.cell (p:=⟨bh,1,none⟩) lx).trans x1
      go_simp
      try with_reducible rfl
     try simp only [zA,zB,zC,Act.put,zD,zE,zF]
    have hR0:Below q3.heap.size q3 q3.drew:=⟨rfl,rfl,rfl,Nat.le_refl _,fun _ _=>rfl⟩
    refine wpKeepL_step rfl rfl (fun K hK=>?_)
    go_simp
    refine (D4.out _ (hw.below (hbW.trans (hR0.mono hbW.size)))).mono ?_
    rintro e u1 ⟨rfl,hbu1⟩
    have hR1:=hR0.trans (hbu1.mono hR0.size)
    refine hK _ _ ⟨hR1,?_⟩
    clear hK K
    try simp only [zA,zB,zC,Act.put,zD,zE,zF]
    unfold wpKeepL
    simp only [List.drop_succ_cons,List.drop_zero]
    try simp only [zA,zB,zC,Act.put,zD,zE,zF]
    refine wpKeep_step rfl (fun K hK=>?_)
    go_simp
    refine hK _ _ ⟨trivial,wpKeep_nil ?_⟩
    clear hK K
    try simp only [zA,zB,zC,Act.put,zD,zE,zF]
    refine NormalOnly.mk ?_
    go_wp2
    go_meet
    exact ⟨rfl,rfl,HBX.out.below hR1,hbr.trans (hR1.mono hbr.size)⟩
   case rest =>
   clear hbr hbx
   obtain ⟨rfl,rfl,hbx,hbr⟩:=hcut
   obtain ⟨m4,hwm4⟩ : ∃ q,q=wc:=⟨_,rfl⟩
   subst hwm4
   have hbx0:=Lib.hid hbx
   obtain ⟨c0,c1⟩:=C0.out m4 hbr
   have hbW:=hbN.trans (hbr.mono hbN.size)
   have hbl0:B<m4.heap.size:=Nat.lt_of_lt_of_le hblN hbr.size
   have lx:=lt_of_blk hbx.hi
   obtain ⟨x0,x1,_,_⟩:=two_cells hbx.hi
   have HBX:=Lib.hid hbx
   clear hbx
   cases b4 with
   | true =>
    go_wp2
    refine ⟨⟨k+1,by omega,hk,int_succ k,by rw [←EE.out.1,←EE.out.2.1,←EE.out.2.2.1,←EE.out.2.2.2,EV4.out.1 (by simp)];exact (HBX.out.set hne p2).2.2.2,hbr.setCell (p:=⟨bh,1,none⟩) hhb _⟩,?_⟩
    show P.length-((k:Int)+1).toNat<P.length-((k:Int)).toNat
    omega
   | false =>
    go_wp2
    refine ⟨⟨k+1,by omega,hk,int_succ k,by rw [←EE.out.1,←EE.out.2.1,←EE.out.2.2.1,←EE.out.2.2.2,EV4.out.2 (by simp)];exact HBX.out,hbr⟩,?_⟩
    show P.length-((k:Int)+1).toNat<P.length-((k:Int)).toNat
    omega
  ·have hkn:decide ((k:Int)<(P.length:Int))=false:=decide_eq_false (by omega)
   have ek:k=P.length:=by omega
   subst ek
   have hbW:=hbN.trans (hbr.mono hbN.size)
   have X1:=(hbr.block _ (lt_of_blk HX1.out)).trans HX1.out
   have X2:=(hbr.block _ (lt_of_blk HX2.out)).trans HX2.out
   have X3:=(hbr.block _ (lt_of_blk HX3.out)).trans HX3.out
   replace HP:=Lib.hid (HP.out.below hbr)
   have heqC:=HEQ.out.1
   have heqL:=HEQ.out.2.1
   have heqH:=HEQ.out.2.2
   have hguard:=guardPts
   generalize tx (areaP P)=ar at *
   generalize tx (cenP P).1=g1 at *
   generalize tx (cenP P).2=g2 at *
   generalize tx (mnTo (·.1) P P.length)=s1 at *
   generalize tx (mnTo (·.2) P P.length)=s2 at *
   generalize tx (mxTo (·.1) P P.length)=s3 at *
   generalize tx (mxTo (·.2) P P.length)=s4 at *
   obtain ⟨m0,m1,_,_⟩:=two_cells X1
   obtain ⟨m2,m3,_,_⟩:=two_cells X2
   obtain ⟨m4,m5,_,_⟩:=two_cells X3
   obtain ⟨m6,m7,_,_⟩:=two_cells hbx.lo
   obtain ⟨m8,m9,_,_⟩:=two_cells hbx.hi
   have k1:=lt_of_blk X1
   have k2:=lt_of_blk X2
   have k3:=lt_of_blk X3
   have k4:=lt_of_blk hbx.lo
   have k5:=lt_of_blk hbx.hi
   clear X1 X2 X3 hbx HX1 HX2 HX3 HEQ HC1 HC2 HC3 HC4 HCL HAR HCE HBO
   go_wp2_with fail
   refine wp_held_ph (fun W'=>Below wr.heap.size wr W') [(true,0),(true,1),(true,2),(true,3),(true,4),(false,5),(true,6),(true,7),(true,8),(true,9),(true,10),(true,11),(true,12),(true,13),(true,14),(false,15),(true,16),(true,17),(true,18),(true,19),(true,20),(true,21),(true,22),(true,23),(true,24),(true,25),(true,26),(true,27),(true,28),(true,29),(true,30),(true,31)] 32 (by kernel_rfl) (by kernel_rfl) ⟨rfl,rfl,rfl,Nat.le_refl _,fun _ _=>rfl⟩ ?_
   have hK0:Below wr.heap.size wr wr.drew:=⟨rfl,rfl,rfl,Nat.le_refl _,fun _ _=>rfl⟩
   iterate 5
    refine wpPh_take rfl ?_ rfl ?_ ?_
    rotate_left
    ·intro W' hS'
     have s0:=(hS'.cell (p:=⟨v4.heap.size,0,none⟩) k1).trans m0
     have s1:=(hS'.cell (p:=⟨v4.heap.size,1,none⟩) k1).trans m1
     have s2:=(hS'.cell (p:=⟨v6.heap.size,0,none⟩) k2).trans m2
     have s3:=(hS'.cell (p:=⟨v6.heap.size,1,none⟩) k2).trans m3
     have s4:=(hS'.cell (p:=⟨v6.heap.size+1,0,none⟩) k3).trans m4
     have s5:=(hS'.cell (p:=⟨v6.heap.size+1,1,none⟩) k3).trans m5
     have s6:=(hS'.cell (p:=⟨bl,0,none⟩) k4).trans m6
     have s7:=(hS'.cell (p:=⟨bl,1,none⟩) k4).trans m7
     have s8:=(hS'.cell (p:=⟨bh,0,none⟩) k5).trans m8
     have s9:=(hS'.cell (p:=⟨bh,1,none⟩) k5).trans m9
     go_simp
     try with_reducible rfl
    try simp only [zA,zB,zC,Act.put,zD,zE,zF]
   refine wpPh_keep rfl rfl (fun K hK=>?_)
   go_simp
   refine (HRA.out _ (hw.below (hbW.trans (hK0.mono hbW.size))) (HP.out.below hK0)).mono ?_
   rintro e z1 ⟨rfl,hbz1⟩
   have hK1:=hK0.trans (hbz1.mono hK0.size)
   refine hK _ _ ⟨hK1,?_⟩
   clear hK K
   try simp only [zA,zB,zC,Act.put,zD,zE,zF]
   iterate 9
    refine wpPh_take rfl ?_ rfl ?_ ?_
    rotate_left
    ·intro W' hS'
     have s0:=(hS'.cell (p:=⟨v4.heap.size,0,none⟩) k1).trans m0
     have s1:=(hS'.cell (p:=⟨v4.heap.size,1,none⟩) k1).trans m1
     have s2:=(hS'.cell (p:=⟨v6.heap.size,0,none⟩) k2).trans m2
     have s3:=(hS'.cell (p:=⟨v6.heap.size,1,none⟩) k2).trans m3
     have s4:=(hS'.cell (p:=⟨v6.heap.size+1,0,none⟩) k3).trans m4
     have s5:=(hS'.cell (p:=⟨v6.heap.size+1,1,none⟩) k3).trans m5
     have s6:=(hS'.cell (p:=⟨bl,0,none⟩) k4).trans m6
     have s7:=(hS'.cell (p:=⟨bl,1,none⟩) k4).trans m7
     have s8:=(hS'.cell (p:=⟨bh,0,none⟩) k5).trans m8
     have s9:=(hS'.cell (p:=⟨bh,1,none⟩) k5).trans m9
     go_simp
     try with_reducible rfl
    try simp only [zA,zB,zC,Act.put,zD,zE,zF]
   refine wpPh_keep rfl rfl (fun K hK=>?_)
   go_simp
   refine (HRC.out _ (hw.below (hbW.trans (hK1.mono hbW.size))) (HP.out.below hK1)).mono ?_
   rintro e z2 ⟨rfl,hbz2⟩
   have hK2:=hK1.trans (hbz2.mono hK1.size)
   refine hK _ _ ⟨hK2,?_⟩
   clear hK K
   try simp only [zA,zB,zC,Act.put,zD,zE,zF]
   iterate 16
    refine wpPh_take rfl ?_ rfl ?_ ?_
    rotate_left
    ·intro W' hS'
     have s0:=(hS'.cell (p:=⟨v4.heap.size,0,none⟩) k1).trans m0
     have s1:=(hS'.cell (p:=⟨v4.heap.size,1,none⟩) k1).trans m1
     have s2:=(hS'.cell (p:=⟨v6.heap.size,0,none⟩) k2).trans m2
     have s3:=(hS'.cell (p:=⟨v6.heap.size,1,none⟩) k2).trans m3
     have s4:=(hS'.cell (p:=⟨v6.heap.size+1,0,none⟩) k3).trans m4
     have s5:=(hS'.cell (p:=⟨v6.heap.size+1,1,none⟩) k3).trans m5
     have s6:=(hS'.cell (p:=⟨bl,0,none⟩) k4).trans m6
     have s7:=(hS'.cell (p:=⟨bl,1,none⟩) k4).trans m7
     have s8:=(hS'.cell (p:=⟨bh,0,none⟩) k5).trans m8
     have s9:=(hS'.cell (p:=⟨bh,1,none⟩) k5).trans m9
     go_simp
     try with_reducible rfl
    try simp only [zA,zB,zC,Act.put,zD,zE,zF]
   unfold wpPh
   simp only [List.drop_succ_cons,List.drop_zero]
   have hbE:=hbW.trans (hK2.mono hbW.size)
   go_wp2
   refine NormalOnly.mk ?_
   go_wp2
   go_ret
   exact ⟨rfl,hbE⟩
theorem law_PolygonMeasures (v:Value) (D:List Plc) (w:World) (hw:Good w) (hv:Dft w v D):Calls Tryz.prog 5 #[v] w (RV (.bool true) w):=by
 by_cases h8:D.length≤8
 ·exact measures_in v D w hw hv h8
 ·exact measures_out v D w hw hv h8
end Go.Proofs.YtgohnjdgoglcfaaGreatDoor
