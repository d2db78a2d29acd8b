import Derived.Test.YtgohnjdgoglcfaaGreatDoorU8Z
namespace Go.Proofs.YtgohnjdgoglcfaaGreatDoor
open Go.Lib (decDigits itoa nDigits)
instance lssP_dec (a b:QP):Decidable (lssP a b):=by unfold lssP;infer_instance
instance ins_dec (a b x:Rat):Decidable (ins a b x):=by unfold ins;infer_instance
instance btw_dec (a b p:QP):Decidable (btw a b p):=by unfold btw;infer_instance
instance nxt_dec (l:List QP) (a b:QP):Decidable (Nxt l a b):=by unfold Nxt;infer_instance
theorem poly_of (P:List QP) (h3:3≤P.length) (h:∀ i,i<P.length→∀ j,j<P.length→j=i∨j=nxI P.length i∨0<crs (pt P i) (pt P (nxI P.length i)) (pt P j)) (h0:∀ j,j<P.length→¬ lssP (pt P j) (pt P 0)):Poly P:=by
 refine ⟨⟨h3,fun i j hi hj h1 h2=>?_⟩,fun j hj=>?_⟩
 ·rcases h i hi j hj with h4 | h4 | h4
  ·exact absurd h4 h1
  ·exact absurd h4 h2
  ·rw [pt_eq hi,pt_eq (nxI_lt (by omega)),pt_eq hj] at h4
   exact h4
 ·have:=h0 j hj
  rw [pt_eq hj,pt_eq (by omega)] at this
  exact this
theorem wrap_of (l P:List QP) (h0:1<P.length) (hm:∀ p∈P,p∈l) (hl:∀ p∈l,¬ lssP p (pt P 0)) (hn:∀ i,i<P.length→Nxt l (pt P i) (pt P (nxI P.length i))) (hf:∀ i,i<P.length→0<i→pt P i≠pt P 0):Wrap l P where
 ne:=by omega
 mem:=hm
 least:=fun p hp=>by have:=hl p hp;rw [pt_eq (by omega)] at this;exact this
 nx:=fun i hi=>by
  have:=hn i (by omega)
  rw [nx_lt hi,pt_eq (by omega),pt_eq hi] at this
  exact this
 fresh:=fun i hi h=>by have:=hf i hi h;rw [pt_eq hi,pt_eq (by omega)] at this;exact this
 close:=.inr (by
  have:=hn (P.length-1) (by omega)
  rw [nx_end (by omega),pt_eq (by omega),pt_eq (by omega)] at this
  exact this)
theorem okB_small (q:Rat) (h:q.num.natAbs<1000000) (h':q.den<1000000):OkB q:=okB_of (N:=1000000) (D:=1000000) ⟨by omega,by omega⟩ (by decide) (by decide)
theorem okQ_of {p:QP} (h:OkB p.1∧OkB p.2):okQ p:=OkB.q h
def sqP:List QP:=[(0,0),(4,0),(4,4),(0,4)]
def hlL:List QP:=[(0,0),(2,0),(1,1),(1,3),(0,2)]
def hlP:List QP:=[(0,0),(2,0),(1,3),(0,2)]
def clQ:List QP:=[(4,0),(4,4),(0,4)]
def clP:List QP:=[(0,4),(4,0),(4,4)]
theorem sq_poly:Poly sqP:=poly_of sqP (by decide) (by decide +kernel) (by decide +kernel)
theorem all_small (L:List QP) (h:∀ p∈L,(p.1.num.natAbs<1000000∧p.1.den<1000000)∧(p.2.num.natAbs<1000000∧p.2.den<1000000)):∀ p∈L,OkB p.1∧OkB p.2:=
 fun p hp=>⟨okB_small _ (h p hp).1.1 (h p hp).1.2,okB_small _ (h p hp).2.1 (h p hp).2.2⟩
theorem sq_ok:∀ p∈sqP,OkB p.1∧OkB p.2:=all_small sqP (by decide +kernel)
theorem hl_ok:∀ p∈hlL,OkB p.1∧OkB p.2:=all_small hlL (by decide +kernel)
theorem to_small (f:Nat→Rat) (n:Nat) (h:∀ k,k<n→(f k).num.natAbs<1000000∧(f k).den<1000000):∀ k,k<n→OkB (f k):=fun k hk=>okB_small _ (h k hk).1 (h k hk).2
theorem sq_areaTo:∀ k,k+2≤sqP.length→Sz 402 (areaTo sqP k):=fun k hk=>(to_small (areaTo sqP) 3 (by decide +kernel) k (by have:sqP.length=4:=rfl;omega)).sz
theorem sq_cenX:∀ k,k+2≤sqP.length→Sz 402 (cenXTo sqP k):=fun k hk=>(to_small (cenXTo sqP) 3 (by decide +kernel) k (by have:sqP.length=4:=rfl;omega)).sz
theorem sq_cenY:∀ k,k+2≤sqP.length→Sz 402 (cenYTo sqP k):=fun k hk=>(to_small (cenYTo sqP) 3 (by decide +kernel) k (by have:sqP.length=4:=rfl;omega)).sz
theorem sq_area:areaP sqP=32:=by decide +kernel
theorem sq_cen:cenP sqP=(2,2):=by decide +kernel
theorem sq_line:LineOk 1 1 4:=⟨okB_small _ (by decide +kernel) (by decide +kernel),okB_small _ (by decide +kernel) (by decide +kernel),okB_small _ (by decide +kernel) (by decide +kernel),.inl (by decide +kernel)⟩
theorem sq_clip:clipL (valP 1 1 4) sqP=clQ:=by decide +kernel
theorem sq_clip_ok:∀ q∈clipL (valP 1 1 4) sqP,okQ q:=by
 rw [sq_clip]
 exact fun q hq=>okQ_of (all_small clQ (by decide +kernel) q hq)
theorem sq_some:∃ p∈sqP,0<valP 1 1 4 p:=by decide +kernel
theorem sq_begin {t:Nat} (h:LeastAt clQ t):rotL clQ t=clP:=by
 obtain ⟨h1,h2⟩:=h
 have h1':t<3:=h1
 rcases (show t=0∨t=1∨t=2 by omega) with rfl | rfl | rfl
 ·exact absurd (show lssP (pt clQ 2) (pt clQ 0) by decide +kernel) (h2 2 (by decide))
 ·exact absurd (show lssP (pt clQ 2) (pt clQ 1) by decide +kernel) (h2 2 (by decide))
 ·rfl
theorem hl_wrap:Wrap hlL hlP:=wrap_of hlL hlP (by decide) (by decide +kernel) (by decide +kernel) (by decide +kernel) (by decide +kernel)
theorem sq_chord_in:ChIn sqP (-4,2) (4,2) sqP.length:=by
 have h:∀ i,i<sqP.length→¬ (sdU sqP (-4,2) i<0∧sdU sqP (4,2) i<0):=by decide +kernel
 exact h
theorem sq_chord_lo:loP sqP (-4,2) (4,2) sqP.length=1/2:=by decide +kernel
theorem sq_chord_hi:hiP sqP (-4,2) (4,2) sqP.length=1:=by decide +kernel
theorem tx_2:tx 2=⟨#[50]⟩:=tx_of text2
theorem tx_32:tx 32=⟨#[51,50]⟩:=tx_of (by
 rw [rtext_of (n:=((32:Nat):Int)) (d:=1) (by decide +kernel) (by decide +kernel),rjoin_two (by decide) (by decide)];decide)
end Go.Proofs.YtgohnjdgoglcfaaGreatDoor
