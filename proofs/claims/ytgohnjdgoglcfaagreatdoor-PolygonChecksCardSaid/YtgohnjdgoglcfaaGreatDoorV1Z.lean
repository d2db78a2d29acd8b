import Derived.Test.YtgohnjdgoglcfaaGreatDoorU8Z
import Derived.Test.YtgohnjdgoglcfaaGreatDoorBxZ
import Derived.Test.YtgohnjdgoglcfaaGreatDoorV4Z
set_option maxRecDepth 100000
set_option maxHeartbeats 8000000
namespace Go.Proofs.YtgohnjdgoglcfaaGreatDoor
open Go.Lib (decDigits itoa nDigits)
instance lssP_dec (a b:QP):Decidable (lssP a b):=by unfold lssP;infer_instance
instance ins_dec (a b x:Rat):Decidable (ins a b x):=by unfold ins;infer_instance
instance btw_dec (a b p:QP):Decidable (btw a b p):=by unfold btw;infer_instance
instance nxt_dec (l:List QP) (a b:QP):Decidable (Nxt l a b):=by unfold Nxt;infer_instance
theorem poly_of (P:List QP) (h3:3≤P.length) (h:∀ i,i<P.length→∀ j,j<P.length→j=i∨j=nxI P.length i∨0<crs (pt P i) (pt P (nxI P.length i)) (pt P j)) (h0:∀ j,j<P.length→¬ lssP (pt P j) (pt P 0)):Poly P:=by
 refine ⟨⟨h3,fun i j hi hj h1 h2=>?_⟩,fun j hj=>?_⟩
 ·rcases h i hi j hj with h4 | h4 | h4
  ·exact absurd h4 h1
  ·exact absurd h4 h2
  ·rw [pt_eq hi,pt_eq (nxI_lt (by omega)),pt_eq hj] at h4
   exact h4
 ·have:=h0 j hj
  rw [pt_eq hj,pt_eq (by omega)] at this
  exact this
theorem wrap_of (l P:List QP) (h0:1<P.length) (hm:∀ p∈P,p∈l) (hl:∀ p∈l,¬ lssP p (pt P 0)) (hn:∀ i,i<P.length→Nxt l (pt P i) (pt P (nxI P.length i))) (hf:∀ i,i<P.length→0<i→pt P i≠pt P 0):Wrap l P where
 ne:=by omega
 mem:=hm
 least:=fun p hp=>by have:=hl p hp;rw [pt_eq (by omega)] at this;exact this
 nx:=fun i hi=>by
  have:=hn i (by omega)
  rw [nx_lt hi,pt_eq (by omega),pt_eq hi] at this
  exact this
 fresh:=fun i hi h=>by have:=hf i hi h;rw [pt_eq hi,pt_eq (by omega)] at this;exact this
 close:=.inr (by
  have:=hn (P.length-1) (by omega)
  rw [nx_end (by omega),pt_eq (by omega),pt_eq (by omega)] at this
  exact this)
theorem okB_small (q:Rat) (h:q.num.natAbs<1000000) (h':q.den<1000000):OkB q:=okB_of (N:=1000000) (D:=1000000) ⟨by omega,by omega⟩ (by decide) (by decide)
theorem okQ_of {p:QP} (h:OkB p.1∧OkB p.2):okQ p:=OkB.q h
def sqP:List QP:=[(0,0),(4,0),(4,4),(0,4)]
def hlL:List QP:=[(0,0),(2,0),(1,1),(1,3),(0,2)]
def hlP:List QP:=[(0,0),(2,0),(1,3),(0,2)]
def clQ:List QP:=[(4,0),(4,4),(0,4)]
def clP:List QP:=[(0,4),(4,0),(4,4)]
theorem sq_poly:Poly sqP:=poly_of sqP (by decide) (by decide +kernel) (by decide +kernel)
theorem all_small (L:List QP) (h:∀ p∈L,(p.1.num.natAbs<1000000∧p.1.den<1000000)∧(p.2.num.natAbs<1000000∧p.2.den<1000000)):∀ p∈L,OkB p.1∧OkB p.2:=
 fun p hp=>⟨okB_small _ (h p hp).1.1 (h p hp).1.2,okB_small _ (h p hp).2.1 (h p hp).2.2⟩
theorem sq_ok:∀ p∈sqP,OkB p.1∧OkB p.2:=all_small sqP (by decide +kernel)
theorem hl_ok:∀ p∈hlL,OkB p.1∧OkB p.2:=all_small hlL (by decide +kernel)
theorem to_small (f:Nat→Rat) (n:Nat) (h:∀ k,k<n→(f k).num.natAbs<1000000∧(f k).den<1000000):∀ k,k<n→OkB (f k):=fun k hk=>okB_small _ (h k hk).1 (h k hk).2
theorem sq_areaTo:∀ k,k+2≤sqP.length→Sz 402 (areaTo sqP k):=fun k hk=>(to_small (areaTo sqP) 3 (by decide +kernel) k (by have:sqP.length=4:=rfl;omega)).sz
theorem sq_cenX:∀ k,k+2≤sqP.length→Sz 402 (cenXTo sqP k):=fun k hk=>(to_small (cenXTo sqP) 3 (by decide +kernel) k (by have:sqP.length=4:=rfl;omega)).sz
theorem sq_cenY:∀ k,k+2≤sqP.length→Sz 402 (cenYTo sqP k):=fun k hk=>(to_small (cenYTo sqP) 3 (by decide +kernel) k (by have:sqP.length=4:=rfl;omega)).sz
theorem sq_area:areaP sqP=32:=by decide +kernel
theorem sq_cen:cenP sqP=(2,2):=by decide +kernel
theorem sq_line:LineOk 1 1 4:=⟨okB_small _ (by decide +kernel) (by decide +kernel),okB_small _ (by decide +kernel) (by decide +kernel),okB_small _ (by decide +kernel) (by decide +kernel),.inl (by decide +kernel)⟩
theorem sq_clip:clipL (valP 1 1 4) sqP=clQ:=by decide +kernel
theorem sq_clip_ok:∀ q∈clipL (valP 1 1 4) sqP,okQ q:=by
 rw [sq_clip]
 exact fun q hq=>okQ_of (all_small clQ (by decide +kernel) q hq)
theorem sq_some:∃ p∈sqP,0<valP 1 1 4 p:=by decide +kernel
theorem sq_begin {t:Nat} (h:LeastAt clQ t):rotL clQ t=clP:=by
 obtain ⟨h1,h2⟩:=h
 have h1':t<3:=h1
 rcases (show t=0∨t=1∨t=2 by omega) with rfl | rfl | rfl
 ·exact absurd (show lssP (pt clQ 2) (pt clQ 0) by decide +kernel) (h2 2 (by decide))
 ·exact absurd (show lssP (pt clQ 2) (pt clQ 1) by decide +kernel) (h2 2 (by decide))
 ·rfl
theorem hl_wrap:Wrap hlL hlP:=wrap_of hlL hlP (by decide) (by decide +kernel) (by decide +kernel) (by decide +kernel) (by decide +kernel)
theorem sq_chord_in:ChIn sqP (-4,2) (4,2) sqP.length:=by
 have h:∀ i,i<sqP.length→¬ (sdU sqP (-4,2) i<0∧sdU sqP (4,2) i<0):=by decide +kernel
 exact h
theorem sq_chord_lo:loP sqP (-4,2) (4,2) sqP.length=1/2:=by decide +kernel
theorem sq_chord_hi:hiP sqP (-4,2) (4,2) sqP.length=1:=by decide +kernel
theorem tx_2:tx 2=⟨#[50]⟩:=tx_of text2
theorem tx_32:tx 32=⟨#[51,50]⟩:=tx_of (by
 rw [rtext_of (n:=((32:Nat):Int)) (d:=1) (by decide +kernel) (by decide +kernel),rjoin_two (by decide) (by decide)];decide)
open Go.RowKit Go.Shelf
open Go.Lib (hid)
theorem at_pt (x y:Int) (a b:Rat) (ha:a=(x:Rat)) (hb:b=(y:Rat)) (hx:x.natAbs≤1000000000) (hy:y.natAbs≤1000000000) (w:World) (hw:Good w) :
  Calls Tryz.prog 44 #[.int .i64 x,.int .i64 y] w (RV (.agg #[.string (tx a),.string (tx b)]) w):=by
 subst ha hb
 exact r5_at x y hx hy w hw
theorem pairs_new (w:World) (t:TypeId) (L:List Pair) (_h0:0<L.length) (hm:L.length≤maxLen) (cs:Array Value) (hcs:cs.toList=cellsS L):Pairs (w.alloc (Obj.cells cs t)) (.slice (some ⟨w.heap.size,0,none⟩) L.length L.length) L:=by
 have hl:cs.size=L.length*2:=by rw [←cellsS_len,←hcs,Array.length_toList]
 have key:∀ i (hi:i<L.length) j (hj:j<2),(w.alloc (Obj.cells cs t)).cell? ⟨w.heap.size,i*2+j,none⟩=some ([Value.string L[i].1,.string L[i].2][j]):=fun i hi j hj=>by
  have h:=cellsS_get L i hi j hj
  rw [←hcs] at h
  rw [alloc_cells w cs t (i*2+j) (by omega)]
  rw [List.getElem?_eq_getElem (by rw [Array.length_toList];omega)] at h
  simpa using h
 refine ⟨_,_,rfl,Nat.le_refl _,hm,fun _=>⟨w.heap.size,0,rfl,by simp,fun i hi=>?_⟩⟩
 rw [Nat.zero_add]
 exact ⟨key i hi 0 (by decide),key i hi 1 (by decide)⟩
theorem pts_new (w:World) (L:List QP) (h0:0<L.length) (hm:L.length≤maxLen) (cs:Array Value) (hcs:cs.toList=cellsS (L.map textP)):Pts (w.alloc (Obj.cells cs 31)) (.slice (some ⟨w.heap.size,0,none⟩) L.length L.length) L:=by
 have:=pairs_new w 31 (L.map textP) (by simpa using h0) (by simpa using hm) cs hcs
 rw [List.length_map] at this
 exact this
def ListPost (L:List QP) (w:World) (e:Ending) (w':World):Prop:=∃ r,e=.returned r∧Pts w' r L∧Below w.heap.size w w'
theorem law_square (w:World) (hw:Good w):Calls Tryz.prog 51 #[] w (ListPost sqP w):=by
 have A0_0:=hid (fun w' (hg:Good w')=>at_pt (0) 0 0 0 (by decide +kernel) (by decide +kernel) (by decide) (by decide) w' hg)
 have A4_0:=hid (fun w' (hg:Good w')=>at_pt (4) 0 4 0 (by decide +kernel) (by decide +kernel) (by decide) (by decide) w' hg)
 have A4_4:=hid (fun w' (hg:Good w')=>at_pt (4) 4 4 4 (by decide +kernel) (by decide +kernel) (by decide) (by decide) w' hg)
 have A0_4:=hid (fun w' (hg:Good w')=>at_pt (0) 4 0 4 (by decide +kernel) (by decide +kernel) (by decide) (by decide) w' hg)
 unfold RV at A0_0 A4_0 A4_4 A0_4
 have HN:=hid (fun w'=>pts_new w' sqP (by decide) (by decide) #[.string (tx 0),.string (tx 0),.string (tx 4),.string (tx 0),.string (tx 4),.string (tx 4),.string (tx 0),.string (tx 4)] rfl)
 rw [show sqP.length=4 from rfl] at HN
 generalize tx 0=z0 at *
 generalize tx 4=z4 at *
 have hb0:=Below.refl w.heap.size w
 have hg0:=hw
 go_enter Tryz.func51,Tryz.ntmps51
 go_wp2_with fail
 refine (A0_0.out _ hg0).mono ?_
 rintro e w1 ⟨rfl,h1⟩
 have hb1:=hb0.trans (h1.mono hb0.size)
 have hg1:=hw.below hb1
 go_wp2_with fail
 refine (A4_0.out _ hg1).mono ?_
 rintro e w2 ⟨rfl,h2⟩
 have hb2:=hb1.trans (h2.mono hb1.size)
 have hg2:=hw.below hb2
 go_wp2_with fail
 refine (A4_4.out _ hg2).mono ?_
 rintro e w3 ⟨rfl,h3⟩
 have hb3:=hb2.trans (h3.mono hb2.size)
 have hg3:=hw.below hb3
 go_wp2_with fail
 refine (A0_4.out _ hg3).mono ?_
 rintro e w4 ⟨rfl,h4⟩
 have hb4:=hb3.trans (h4.mono hb3.size)
 have hg4:=hw.below hb4
 go_wp2
 go_ret
 exact ⟨_,rfl,HN.out w4,hb4.trans ((alloc_below _ _).mono hb4.size)⟩
theorem clip_known {e:Ending} {w':World} {w:World} (h:ClipPost (valP 1 1 4) sqP w e w'):∃ r,e=.returned (.tuple #[r,.bool true,.int .i64 0])∧Pts w' r clP∧Below w.heap.size w w':=by
 obtain ⟨h1,h2⟩:=h
 rcases h1 with ⟨_,r,t,he,hl,hp⟩ | ⟨hn,_⟩
 ·rw [sq_clip] at hl hp
  rw [sq_begin hl] at hp
  exact ⟨r,he,hp,h2⟩
 ·exact absurd sq_some hn
theorem hull_known {e:Ending} {w w':World} (h:PHullPost hlL w e w'):∃ r,e=.returned (.tuple #[r,.int .i64 0])∧Pts w' r hlP∧Below w.heap.size w w':=by
 obtain ⟨h1,h2⟩:=h
 rcases h1 with ⟨_,hn⟩ | ⟨r,P,he,hP,_,hp⟩
 ·exact absurd (hn hlP hl_wrap) (by decide)
 ·rw [hP.unique hl_wrap] at hp
  exact ⟨r,he,hp,h2⟩
theorem chord_known {e:Ending} {w w':World} (h:∃ r,e=.returned r∧ChordOut sqP (-4,2) (4,2) r∧Below w.heap.size w w'):e=.returned (.tuple #[.string (tx (1/2)),.string (tx 1),.bool true,.int .i64 0])∧Below w.heap.size w w':=by
 obtain ⟨r,he,h1,h2⟩:=h
 have hlt:loP sqP (-4,2) (4,2) sqP.length<hiP sqP (-4,2) (4,2) sqP.length:=by rw [sq_chord_lo,sq_chord_hi];decide +kernel
 rcases h1 with ⟨_,_,hv⟩ | ⟨hn,_⟩
 ·rw [sq_chord_lo,sq_chord_hi] at hv
  rw [he,hv]
  exact ⟨rfl,h2⟩
 ·exact absurd ⟨sq_chord_in,hlt⟩ hn
theorem law_known (w:World) (hw:Good w):Calls Tryz.prog 12 #[] w (RV (.bool true) w):=by
 have A0_0:=hid (fun w' (hg:Good w')=>at_pt (0) 0 0 0 (by decide +kernel) (by decide +kernel) (by decide) (by decide) w' hg)
 have A4_0:=hid (fun w' (hg:Good w')=>at_pt (4) 0 4 0 (by decide +kernel) (by decide +kernel) (by decide) (by decide) w' hg)
 have A4_4:=hid (fun w' (hg:Good w')=>at_pt (4) 4 4 4 (by decide +kernel) (by decide +kernel) (by decide) (by decide) w' hg)
 have A0_4:=hid (fun w' (hg:Good w')=>at_pt (0) 4 0 4 (by decide +kernel) (by decide +kernel) (by decide) (by decide) w' hg)
 have A2_0:=hid (fun w' (hg:Good w')=>at_pt (2) 0 2 0 (by decide +kernel) (by decide +kernel) (by decide) (by decide) w' hg)
 have A1_1:=hid (fun w' (hg:Good w')=>at_pt (1) 1 1 1 (by decide +kernel) (by decide +kernel) (by decide) (by decide) w' hg)
 have A1_3:=hid (fun w' (hg:Good w')=>at_pt (1) 3 1 3 (by decide +kernel) (by decide +kernel) (by decide) (by decide) w' hg)
 have A0_2:=hid (fun w' (hg:Good w')=>at_pt (0) 2 0 2 (by decide +kernel) (by decide +kernel) (by decide) (by decide) w' hg)
 have Am4_2:=hid (fun w' (hg:Good w')=>at_pt (-4) 2 (-4) 2 (by decide +kernel) (by decide +kernel) (by decide) (by decide) w' hg)
 have A4_2:=hid (fun w' (hg:Good w')=>at_pt (4) 2 4 2 (by decide +kernel) (by decide +kernel) (by decide) (by decide) w' hg)
 have A2_2:=hid (fun w' (hg:Good w')=>at_pt (2) 2 2 2 (by decide +kernel) (by decide +kernel) (by decide) (by decide) w' hg)
 unfold RV at A0_0 A4_0 A4_4 A0_4 A2_0 A1_1 A1_3 A0_2 Am4_2 A4_2 A2_2
 have HSQ:=hid law_square
 have HAR:=hid (fun v w' (hg:Good w') (hp:Pts w' v sqP)=>pg_Area v sqP sq_poly (by decide) sq_ok (fun k hk=>(sq_areaTo k hk).mono (by decide)) (by rw [sq_area];exact okB_small _ (by decide +kernel) (by decide +kernel)) w' hg hp)
 rw [sq_area,tx_32] at HAR
 have HCE:=hid (fun v w' (hg:Good w') (hp:Pts w' v sqP)=>pg_Centroid v sqP sq_poly (by decide) sq_ok (fun k hk=>(sq_areaTo k hk).mono (by decide)) (fun k hk=>(sq_cenX k hk).mono (by decide)) (fun k hk=>(sq_cenY k hk).mono (by decide)) (by rw [sq_cen];exact ⟨okB_small _ (by decide +kernel) (by decide +kernel),okB_small _ (by decide +kernel) (by decide +kernel)⟩) w' hg hp)
 rw [sq_cen] at HCE
 have HCL:=hid (fun v w' (hg:Good w') (hp:Pts w' v sqP)=>(pg_Clip v sqP sq_poly (by decide) sq_ok 1 1 4 sq_line sq_clip_ok w' hg hp).mono fun e w'' h=>clip_known h)
 have HHU:=hid (fun v w' (hg:Good w') (hp:Pts w' v hlL)=>(pg_hull v hlL (by decide) (by decide) hl_ok w' hg hp).mono fun e w'' h=>hull_known h)
 have HCH:=hid (fun v w' (hg:Good w') (hp:Pts w' v sqP)=>(pg_Chord v sqP (-4,2) (4,2) sq_poly (by decide) sq_ok (all_small [(-4,2)] (by decide +kernel) _ (List.mem_singleton.2 rfl)) (all_small [(4,2)] (by decide +kernel) _ (List.mem_singleton.2 rfl)) (by decide +kernel) (fun _=>by rw [sq_chord_lo,sq_chord_hi];exact ⟨okB_small _ (by decide +kernel) (by decide +kernel),okB_small _ (by decide +kernel) (by decide +kernel)⟩) w' hg hp).mono fun e w'' h=>chord_known h)
 have HEQ:=hid (fun v u L w' (hv:Pts w' v L) (hu:Pts w' u L)=>r9_equal pointNeq v u (L.map textP) (L.map textP) w' hv hu)
 have heq:=eqlPts (2,2) (2,2)
 have hguard:=guardPts
 have HN5:=hid (fun w'=>pts_new w' hlL (by decide) (by decide) #[.string (tx 0),.string (tx 0),.string (tx 2),.string (tx 0),.string (tx 1),.string (tx 1),.string (tx 1),.string (tx 3),.string (tx 0),.string (tx 2)] rfl)
 have HN3:=hid (fun w'=>pts_new w' clP (by decide) (by decide) #[.string (tx 0),.string (tx 4),.string (tx 4),.string (tx 0),.string (tx 4),.string (tx 4)] rfl)
 have HN4:=hid (fun w'=>pts_new w' hlP (by decide) (by decide) #[.string (tx 0),.string (tx 0),.string (tx 2),.string (tx 0),.string (tx 1),.string (tx 3),.string (tx 0),.string (tx 2)] rfl)
 rw [show hlL.length=5 from rfl] at HN5
 rw [show clP.length=3 from rfl] at HN3
 rw [show hlP.length=4 from rfl] at HN4
 rw [decide_eq_true rfl] at heq
 unfold RV at HAR HCE
 unfold ListPost at HSQ
 unfold ptV at HCE HCH
 unfold lnV at HCL
 dsimp only at HCE HCH heq
 rw [tx_half] at HCH
 generalize tx 0=z0 at *
 generalize tx 2=z2 at *
 generalize tx 3=z3 at *
 generalize tx (-4)=m4 at *
 rw [tx1,tx_4] at HCL
 rw [tx1] at HCH
 generalize tx 1=z1 at *
 generalize tx 4=z4 at *
 have hb0:=Below.refl w.heap.size w
 have hg0:=hw
 go_enter Tryz.func12,Tryz.ntmps12
 go_wp2_with fail
 refine (HSQ.out _ hg0).mono ?_
 rintro e w1 ⟨q1,rfl,hp1,h1⟩
 have hb1:=hb0.trans (h1.mono hb0.size)
 have hg1:=hw.below hb1
 go_wp2_with fail
 refine (HAR.out _ _ hg1 hp1).mono ?_
 rintro e w2 ⟨rfl,h2⟩
 have hb2:=hb1.trans (h2.mono hb1.size)
 have hg2:=hw.below hb2
 go_wp2_with fail
 refine (HSQ.out _ hg2).mono ?_
 rintro e w3 ⟨q3,rfl,hp3,h3⟩
 have hb3:=hb2.trans (h3.mono hb2.size)
 have hg3:=hw.below hb3
 go_wp2_with fail
 refine (HCE.out _ _ hg3 hp3).mono ?_
 rintro e w4 ⟨rfl,h4⟩
 have hb4:=hb3.trans (h4.mono hb3.size)
 have hg4:=hw.below hb4
 go_wp2_with fail
 obtain ⟨w5,hw5⟩ : ∃ w5,w5=w4.alloc (Obj.cells #[.string z2,.string z2] 31):=⟨_,rfl⟩
 obtain ⟨h5,hx5⟩:=box_any hw5
 have hb5:=hb4.trans (h5.mono hb4.size)
 have hg5:=hw.below hb5
 have HX5:=hid hx5
 rw [←hw5]
 clear hw5 hx5 hp1 hp3
 refine (HSQ.out _ hg5).mono ?_
 rintro e w6 ⟨q6,rfl,hp6,h6⟩
 have hb6:=hb5.trans (h6.mono hb5.size)
 have hg6:=hw.below hb6
 go_wp2_with fail
 refine (HCL.out _ _ hg6 hp6).mono ?_
 rintro e w7 ⟨q7,rfl,hp7,h7⟩
 have hb7:=hb6.trans (h7.mono hb6.size)
 have hg7:=hw.below hb7
 go_wp2_with fail
 refine (A0_0.out _ hg7).mono ?_
 rintro e w8 ⟨rfl,h8⟩
 have hb8:=hb7.trans (h8.mono hb7.size)
 have hg8:=hw.below hb8
 go_wp2_with fail
 refine (A2_0.out _ hg8).mono ?_
 rintro e w9 ⟨rfl,h9⟩
 have hb9:=hb8.trans (h9.mono hb8.size)
 have hg9:=hw.below hb9
 go_wp2_with fail
 refine (A1_1.out _ hg9).mono ?_
 rintro e w10 ⟨rfl,h10⟩
 have hb10:=hb9.trans (h10.mono hb9.size)
 have hg10:=hw.below hb10
 go_wp2_with fail
 refine (A1_3.out _ hg10).mono ?_
 rintro e w11 ⟨rfl,h11⟩
 have hb11:=hb10.trans (h11.mono hb10.size)
 have hg11:=hw.below hb11
 go_wp2_with fail
 refine (A0_2.out _ hg11).mono ?_
 rintro e w12 ⟨rfl,h12⟩
 have hb12:=hb11.trans (h12.mono hb11.size)
 have hg12:=hw.below hb12
 go_wp2_with fail
 obtain ⟨w13,hw13⟩ : ∃ w13,w13=w12.alloc (Obj.cells #[.string z0,.string z0,.string z2,.string z0,.string z1,.string z1,.string z1,.string z3,.string z0,.string z2] 31):=⟨_,rfl⟩
 obtain ⟨h13,_⟩:=box_any hw13
 have hp13:=HN5.out w12
 rw [←hw13] at hp13
 have hb13:=hb12.trans (h13.mono hb12.size)
 have hg13:=hw.below hb13
 rw [←hw13]
 clear hw13
 refine (HHU.out _ _ hg13 hp13).mono ?_
 rintro e w14 ⟨q14,rfl,hp14,h14⟩
 have hb14:=hb13.trans (h14.mono hb13.size)
 have hg14:=hw.below hb14
 clear hp13
 go_wp2_with fail
 refine (HSQ.out _ hg14).mono ?_
 rintro e w15 ⟨q15,rfl,hp15,h15⟩
 have hb15:=hb14.trans (h15.mono hb14.size)
 have hg15:=hw.below hb15
 go_wp2_with fail
 refine (Am4_2.out _ hg15).mono ?_
 rintro e w16 ⟨rfl,h16⟩
 have hb16:=hb15.trans (h16.mono hb15.size)
 have hg16:=hw.below hb16
 go_wp2_with fail
 refine (A4_2.out _ hg16).mono ?_
 rintro e w17 ⟨rfl,h17⟩
 have hb17:=hb16.trans (h17.mono hb16.size)
 have hg17:=hw.below hb17
 have hp17:=(hp15.below h16).below h17
 go_wp2_with fail
 refine (HCH.out _ _ hg17 hp17).mono ?_
 rintro e w18 ⟨rfl,h18⟩
 have hb18:=hb17.trans (h18.mono hb17.size)
 have hg18:=hw.below hb18
 have l5:w4.heap.size<w18.heap.size:=by
  have:=lt_of_blk HX5.out
  have:=h6.size;have:=h7.size;have:=h8.size;have:=h9.size;have:=h10.size;have:=h11.size;have:=h12.size;have:=h13.size;have:=h14.size;have:=h15.size;have:=h16.size;have:=h17.size;have:=h18.size
  omega
 have hb5_18:Below w5.heap.size w5 w18:=by
  have a6:=h6
  have a7:=a6.trans (h7.mono a6.size)
  have a8:=a7.trans (h8.mono a7.size)
  have a9:=a8.trans (h9.mono a8.size)
  have a10:=a9.trans (h10.mono a9.size)
  have a11:=a10.trans (h11.mono a10.size)
  have a12:=a11.trans (h12.mono a11.size)
  have a13:=a12.trans (h13.mono a12.size)
  have a14:=a13.trans (h14.mono a13.size)
  have a15:=a14.trans (h15.mono a14.size)
  have a16:=a15.trans (h16.mono a15.size)
  have a17:=a16.trans (h17.mono a16.size)
  exact a17.trans (h18.mono a17.size)
 have hx18:=(hb5_18.block _ (lt_of_blk HX5.out)).trans HX5.out
 obtain ⟨c0,c1,_,_⟩:=two_cells hx18
 have HP7:=hid (show Pts w18 q7 clP by
  have a8:=h8
  have a9:=a8.trans (h9.mono a8.size)
  have a10:=a9.trans (h10.mono a9.size)
  have a11:=a10.trans (h11.mono a10.size)
  have a12:=a11.trans (h12.mono a11.size)
  have a13:=a12.trans (h13.mono a12.size)
  have a14:=a13.trans (h14.mono a13.size)
  have a15:=a14.trans (h15.mono a14.size)
  have a16:=a15.trans (h16.mono a15.size)
  have a17:=a16.trans (h17.mono a16.size)
  exact hp7.below (a17.trans (h18.mono a17.size)))
 have HP14:=hid (show Pts w18 q14 hlP by
  have a15:=h15
  have a16:=a15.trans (h16.mono a15.size)
  have a17:=a16.trans (h17.mono a16.size)
  exact hp14.below (a17.trans (h18.mono a17.size)))
 clear hb5_18 hx18 hp6 hp7 hp14 hp15 hp17 h2 h4 h5 h6 h7 h8 h9 h10 h11 h12 h13 h14 h15 h16 h17 h18 hb1 hb2 hb3 hb4 hb5 hb6 hb7 hb8 hb9 hb10 hb11 hb12 hb13 hb14 hb15 hb16 hb17 hg1 hg2 hg3 hg4 hg5 hg6 hg7 hg8 hg9 hg10 hg11 hg12 hg13 hg14 hg15 hg16 hg17 HX5 HSQ HAR HCE HCL HHU HCH HN5
 go_wp2_with fail
 refine wp_held_ph (fun W'=>Below w18.heap.size w18 W') [(true,0),(true,1),(true,2),(true,3),(true,4),(true,5),(true,6),(true,7),(true,8),(true,9),(true,10),(true,11),(false,12),(true,13),(true,14),(true,15),(true,16),(true,17),(true,18),(true,19),(true,20),(true,21),(true,22),(true,23),(false,24),(false,25),(false,26),(false,27),(false,28),(true,29),(true,30),(true,31),(true,32),(true,33),(true,34),(true,35),(false,36),(false,37),(false,38),(false,39),(false,40),(false,41),(true,42),(true,43),(true,44),(true,45),(true,46),(true,47),(true,48),(true,49),(true,50),(true,51),(true,52),(true,53),(true,54),(true,55),(true,56),(true,57)] 58 (by kernel_rfl) (by kernel_rfl) ⟨rfl,rfl,rfl,Nat.le_refl _,fun _ _=>rfl⟩ ?_
 have hK0:Below w18.heap.size w18 w18.drew:=⟨rfl,rfl,rfl,Nat.le_refl _,fun _ _=>rfl⟩
 iterate 12
  refine wpPh_take rfl ?_ rfl ?_ ?_
  rotate_left
  ·intro W' hS'
   have s0:=(hS'.cell (p:=⟨w4.heap.size,0,none⟩) l5).trans c0
   have s1:=(hS'.cell (p:=⟨w4.heap.size,1,none⟩) l5).trans c1
   go_simp
   try with_reducible rfl
  try simp only [zA,zB,zC,Act.put,zD,zE,zF]
 refine wpPh_keep rfl rfl (fun K hK=>?_)
 go_simp
 refine (A2_2.out _ (hw.below (hb18.trans (hK0.mono hb18.size)))).mono ?_
 rintro e x62 ⟨rfl,hbx62⟩
 have hK1:=hK0.trans (hbx62.mono hK0.size)
 refine hK _ _ ⟨hK1,?_⟩
 clear hK K
 try simp only [zA,zB,zC,Act.put,zD,zE,zF]
 iterate 11
  refine wpPh_take rfl ?_ rfl ?_ ?_
  rotate_left
  ·intro W' hS'
   have s0:=(hS'.cell (p:=⟨w4.heap.size,0,none⟩) l5).trans c0
   have s1:=(hS'.cell (p:=⟨w4.heap.size,1,none⟩) l5).trans c1
   go_simp
   try with_reducible rfl
  try simp only [zA,zB,zC,Act.put,zD,zE,zF]
 refine wpPh_keep rfl rfl (fun K hK=>?_)
 go_simp
 refine (A0_4.out _ (hw.below (hb18.trans (hK1.mono hb18.size)))).mono ?_
 rintro e x74 ⟨rfl,hbx74⟩
 have hK2:=hK1.trans (hbx74.mono hK1.size)
 refine hK _ _ ⟨hK2,?_⟩
 clear hK K
 try simp only [zA,zB,zC,Act.put,zD,zE,zF]
 refine wpPh_keep rfl rfl (fun K hK=>?_)
 go_simp
 refine (A4_0.out _ (hw.below (hb18.trans (hK2.mono hb18.size)))).mono ?_
 rintro e x75 ⟨rfl,hbx75⟩
 have hK3:=hK2.trans (hbx75.mono hK2.size)
 refine hK _ _ ⟨hK3,?_⟩
 clear hK K
 try simp only [zA,zB,zC,Act.put,zD,zE,zF]
 refine wpPh_keep rfl rfl (fun K hK=>?_)
 go_simp
 refine (A4_4.out _ (hw.below (hb18.trans (hK3.mono hb18.size)))).mono ?_
 rintro e x76 ⟨rfl,hbx76⟩
 have hK4:=hK3.trans (hbx76.mono hK3.size)
 refine hK _ _ ⟨hK4,?_⟩
 clear hK K
 try simp only [zA,zB,zC,Act.put,zD,zE,zF]
 refine wpPh_keep rfl rfl (fun K hK=>?_)
 go_simp
 obtain ⟨x77,hwx77⟩ : ∃ x77,x77=x76.alloc (Obj.cells #[.string z0,.string z4,.string z4,.string z0,.string z4,.string z4] 31):=⟨_,rfl⟩
 obtain ⟨hbx77,_⟩:=box_any hwx77
 have hNx77:=HN3.out x76
 rw [←hwx77] at hNx77
 have hK5:=hK4.trans (hbx77.mono hK4.size)
 rw [←hwx77]
 refine hK _ _ ⟨hK5,?_⟩
 clear hK K hwx77
 try simp only [zA,zB,zC,Act.put,zD,zE,zF]
 refine wpPh_keep rfl rfl (fun K hK=>?_)
 go_simp
 refine ((HEQ.out q7 _ clP _ (HP7.out.below hK5) hNx77)).mono ?_
 rintro e x78 ⟨rfl,hbx78⟩
 have hK6:=hK5.trans (hbx78.mono hK5.size)
 refine hK _ _ ⟨hK6,?_⟩
 clear hK K
 try simp only [zA,zB,zC,Act.put,zD,zE,zF]
 iterate 7
  refine wpPh_take rfl ?_ rfl ?_ ?_
  rotate_left
  ·intro W' hS'
   have s0:=(hS'.cell (p:=⟨w4.heap.size,0,none⟩) l5).trans c0
   have s1:=(hS'.cell (p:=⟨w4.heap.size,1,none⟩) l5).trans c1
   go_simp
   try with_reducible rfl
  try simp only [zA,zB,zC,Act.put,zD,zE,zF]
 refine wpPh_keep rfl rfl (fun K hK=>?_)
 go_simp
 refine (A0_0.out _ (hw.below (hb18.trans (hK6.mono hb18.size)))).mono ?_
 rintro e x86 ⟨rfl,hbx86⟩
 have hK7:=hK6.trans (hbx86.mono hK6.size)
 refine hK _ _ ⟨hK7,?_⟩
 clear hK K
 try simp only [zA,zB,zC,Act.put,zD,zE,zF]
 refine wpPh_keep rfl rfl (fun K hK=>?_)
 go_simp
 refine (A2_0.out _ (hw.below (hb18.trans (hK7.mono hb18.size)))).mono ?_
 rintro e x87 ⟨rfl,hbx87⟩
 have hK8:=hK7.trans (hbx87.mono hK7.size)
 refine hK _ _ ⟨hK8,?_⟩
 clear hK K
 try simp only [zA,zB,zC,Act.put,zD,zE,zF]
 refine wpPh_keep rfl rfl (fun K hK=>?_)
 go_simp
 refine (A1_3.out _ (hw.below (hb18.trans (hK8.mono hb18.size)))).mono ?_
 rintro e x88 ⟨rfl,hbx88⟩
 have hK9:=hK8.trans (hbx88.mono hK8.size)
 refine hK _ _ ⟨hK9,?_⟩
 clear hK K
 try simp only [zA,zB,zC,Act.put,zD,zE,zF]
 refine wpPh_keep rfl rfl (fun K hK=>?_)
 go_simp
 refine (A0_2.out _ (hw.below (hb18.trans (hK9.mono hb18.size)))).mono ?_
 rintro e x89 ⟨rfl,hbx89⟩
 have hK10:=hK9.trans (hbx89.mono hK9.size)
 refine hK _ _ ⟨hK10,?_⟩
 clear hK K
 try simp only [zA,zB,zC,Act.put,zD,zE,zF]
 refine wpPh_keep rfl rfl (fun K hK=>?_)
 go_simp
 obtain ⟨x90,hwx90⟩ : ∃ x90,x90=x89.alloc (Obj.cells #[.string z0,.string z0,.string z2,.string z0,.string z1,.string z3,.string z0,.string z2] 31):=⟨_,rfl⟩
 obtain ⟨hbx90,_⟩:=box_any hwx90
 have hNx90:=HN4.out x89
 rw [←hwx90] at hNx90
 have hK11:=hK10.trans (hbx90.mono hK10.size)
 rw [←hwx90]
 refine hK _ _ ⟨hK11,?_⟩
 clear hK K hwx90
 try simp only [zA,zB,zC,Act.put,zD,zE,zF]
 refine wpPh_keep rfl rfl (fun K hK=>?_)
 go_simp
 refine ((HEQ.out q14 _ hlP _ (HP14.out.below hK11) hNx90)).mono ?_
 rintro e x91 ⟨rfl,hbx91⟩
 have hK12:=hK11.trans (hbx91.mono hK11.size)
 refine hK _ _ ⟨hK12,?_⟩
 clear hK K
 try simp only [zA,zB,zC,Act.put,zD,zE,zF]
 iterate 16
  refine wpPh_take rfl ?_ rfl ?_ ?_
  rotate_left
  ·intro W' hS'
   have s0:=(hS'.cell (p:=⟨w4.heap.size,0,none⟩) l5).trans c0
   have s1:=(hS'.cell (p:=⟨w4.heap.size,1,none⟩) l5).trans c1
   go_simp
   try with_reducible rfl
  try simp only [zA,zB,zC,Act.put,zD,zE,zF]
 unfold wpPh
 simp only [List.drop_succ_cons,List.drop_zero]
 have hbz:=hb18.trans (hK12.mono hb18.size)
 go_wp2
 refine NormalOnly.mk ?_
 go_wp2
 go_ret
 exact ⟨rfl,hbz⟩
def sm (n d:Int):Rat:=Rat.divInt n (1+d)
def okSm (n d:Int):Prop:=-32768≤n∧n≤32767∧0≤d∧d≤255
theorem sm_small {n d:Int} (h:okSm n d):(sm n d).num.natAbs≤32768∧(sm n d).den≤256:=by
 obtain ⟨h1,h2,h3,h4⟩:=h
 unfold sm
 rw [show (1+d:Int)=((1+d).toNat:Int) by omega,Rat.divInt_ofNat]
 obtain ⟨a,b⟩:=mkRat_le n (1+d).toNat (by omega)
 exact ⟨by omega,by omega⟩
structure Plc where
 a:Int
 b:Int
 c:Int
 d:Int
 e:Int
 f:Int
def okPlc (x:Plc):Prop:=okSm x.a x.b∧okSm x.c x.d∧okSm x.e x.f
def plcC (x:Plc):Array Value:=#[.int .i16 x.a,.int .u8 x.b,.int .i16 x.c,.int .u8 x.d,.int .i16 x.e,.int .u8 x.f]
def pq (x:Plc):QP:=(sm x.a x.b,sm x.c x.d)
def Dft (w:World) (v:Value) (D:List Plc):Prop:=
 ∃ p c,v=.slice p D.length c∧D.length≤c∧c≤maxLen∧(0<D.length→∃ b off,p=some ⟨b,off,none⟩∧b<w.heap.size∧∀ i (h:i<D.length),okPlc D[i]∧∀ j (hj:j<6),w.cell? ⟨b,off+i*6+j,none⟩=some ((plcC D[i])[j]'hj))
theorem Dft.below {w w':World} {v:Value} {D:List Plc} (h:Dft w v D) (hb:Below w.heap.size w w'):Dft w' v D:=by
 obtain ⟨p,c,h1,h2,h3,h4⟩:=h
 refine ⟨p,c,h1,h2,h3,fun h0=>?_⟩
 obtain ⟨b,off,e1,e2,e3⟩:=h4 h0
 exact ⟨b,off,e1,Nat.lt_of_lt_of_le e2 hb.size,fun i hi=>⟨(e3 i hi).1,fun j hj=>(hb.cell (p:=⟨b,off+i*6+j,none⟩) e2).trans ((e3 i hi).2 j hj)⟩⟩
def ptsD (D:List Plc):List QP:=(D.take 8).map pq
def dptsTo (D:List Plc) (k:Nat):List QP:=(D.take k).map pq
theorem dptsTo_succ {D:List Plc} {k:Nat} (hk:k<D.length):dptsTo D (k+1)=dptsTo D k ++ [pq D[k]]:=by
 unfold dptsTo
 rw [List.take_succ_eq_append_getElem hk,List.map_append]
 rfl
theorem dptsTo_len {D:List Plc} {k:Nat} (hk:k≤D.length):(dptsTo D k).length=k:=by unfold dptsTo;simp;omega
theorem dptsTo_all {D:List Plc} {k:Nat} (hk:k≤D.length) (h8:k≤8) (h:¬ (k<D.length∧k<8)):dptsTo D k=ptsD D:=by
 unfold dptsTo ptsD
 rcases Nat.lt_or_ge k 8 with h1 | h1
 ·have:k=D.length:=by omega
  rw [List.take_of_length_le (by omega),List.take_of_length_le (by omega)]
 ·rw [show k=8 by omega]
def SmV (n d:Int):Value:=.agg #[.int .i16 n,.int .u8 d]
theorem law02_make (n d:Int) (h:okSm n d) (w:World) (hw:Good w):Calls Tryz.prog 30 #[SmV n d] w (RV (.string (tx (sm n d))) w):=by
 obtain ⟨h1,h2,h3,h4⟩:=h
 have HO:=hid (fun w' (hg:Good w')=>r_of n (1+d) (by omega) (by omega) (by omega) w' hg)
 rw [show Rat.divInt n (1+d)=sm n d from rfl] at HO
 unfold RV at HO
 generalize tx (sm n d)=r at *
 obtain ⟨wA,hwA⟩ : ∃ wA,wA=w.alloc (Obj.cells #[.int .i16 n,.int .u8 d] 55):=⟨_,rfl⟩
 have HWA:=hid hwA
 obtain ⟨hbA,hx⟩:=box_any hwA
 clear hwA
 unfold SmV
 have c0:=blk_cell (i:=0) hx rfl
 have c1:=blk_cell (i:=1) hx rfl
 have k1:IntKind.i64.wrap (1+d)=1+d:=IntWalk.i64_in _ (by omega)
 have k2:IntKind.i64.wrap n=n:=IntWalk.i64_in _ (by omega)
 have k3:IntKind.i64.wrap d=d:=IntWalk.i64_in _ (by omega)
 clear hx
 go_enter Tryz.func30,Tryz.ntmps30
 go_upto_region 1 with fail
 rw [←HWA.out]
 go_wp2_with fail
 refine (HO.out _ (hw.below hbA)).mono ?_
 rintro e w1 ⟨rfl,hb1⟩
 go_wp2
 go_ret
 exact ⟨rfl,hbA.trans (hb1.mono hbA.size)⟩
theorem law05_point (x:Plc) (hx:okPlc x) (w:World) (hw:Good w):Calls Tryz.prog 111 #[.agg (plcC x)] w (RV (ptV (pq x)) w):=by
 have H1:=hid (fun w' (hg:Good w')=>law02_make x.a x.b hx.1 w' hg)
 have H2:=hid (fun w' (hg:Good w')=>law02_make x.c x.d hx.2.1 w' hg)
 unfold RV SmV at H1 H2
 show Calls Tryz.prog 111 #[.agg #[.int .i16 x.a,.int .u8 x.b,.int .i16 x.c,.int .u8 x.d,.int .i16 x.e,.int .u8 x.f]] w (RV (.agg #[.string (tx (sm x.a x.b)),.string (tx (sm x.c x.d))]) w)
 clear hx
 generalize tx (sm x.a x.b)=r at *
 generalize tx (sm x.c x.d)=s at *
 obtain ⟨xa,xb,xc,xd,xe,xf⟩:=x
 dsimp only at *
 obtain ⟨wA,hwA⟩ : ∃ wA,wA=w.alloc (Obj.cells #[.int .i16 xa,.int .u8 xb,.int .i16 xc,.int .u8 xd,.int .i16 xe,.int .u8 xf] 84):=⟨_,rfl⟩
 obtain ⟨wB,hwB⟩ : ∃ wB,wB=wA.alloc (Obj.cells #[.string ⟨#[]⟩,.string ⟨#[]⟩] 31):=⟨_,rfl⟩
 obtain ⟨hbA,hxA⟩:=box_any hwA
 obtain ⟨hbAB,hxB⟩:=box_any hwB
 have hbB:=hbA.trans (hbAB.mono hbA.size)
 have hxA2:=(hbAB.block _ (lt_of_blk hxA)).trans hxA
 have l1:=lt_of_blk hxA2
 have sA:wA.heap.size=w.heap.size+1:=by rw [hwA];simp
 rw [hwA] at hwB
 have HWB:=hid hwB
 rw [sA] at hxB
 have X3:=hid hxB
 have c0:=blk_cell (i:=0) hxA2 rfl
 have c1:=blk_cell (i:=1) hxA2 rfl
 have c2:=blk_cell (i:=2) hxA2 rfl
 have c3:=blk_cell (i:=3) hxA2 rfl
 clear hxA hxA2 hxB hwA hwB hbAB hbA sA
 go_enter Tryz.func111,Tryz.ntmps111
 go_wp2_with fail
 rw [←HWB.out]
 refine wp_held_list (fun W'=>Below wB.heap.size wB W') [0,1,3,4] [2,5] 6 (by kernel_rfl) (by kernel_rfl) ⟨rfl,rfl,rfl,Nat.le_refl _,fun _ _=>rfl⟩ ?_
 iterate 4
  refine wpTakeL_step rfl ?_ rfl ?_ ?_
  rotate_left
  ·intro W' hS'
   have s0:=(hS'.cell (p:=⟨w.heap.size,0,none⟩) l1).trans c0
   have s1:=(hS'.cell (p:=⟨w.heap.size,1,none⟩) l1).trans c1
   have s2:=(hS'.cell (p:=⟨w.heap.size,2,none⟩) l1).trans c2
   have s3:=(hS'.cell (p:=⟨w.heap.size,3,none⟩) l1).trans c3
   go_simp
   try with_reducible rfl
  try simp only [zA,zB,zC,Act.put,zD,zE,zF]
 have hR0:Below wB.heap.size wB wB.drew:=⟨rfl,rfl,rfl,Nat.le_refl _,fun _ _=>rfl⟩
 refine wpKeepL_step rfl rfl (fun K hK=>?_)
 go_simp
 refine (H1.out _ (hw.below (hbB.trans (hR0.mono hbB.size)))).mono ?_
 rintro e u1 ⟨rfl,hbu1⟩
 have hR1:=hR0.trans (hbu1.mono hR0.size)
 refine hK _ _ ⟨hR1,?_⟩
 clear hK K
 try simp only [zA,zB,zC,Act.put,zD,zE,zF]
 refine wpKeepL_step rfl rfl (fun K hK=>?_)
 go_simp
 refine (H2.out _ (hw.below (hbB.trans (hR1.mono hbB.size)))).mono ?_
 rintro e u2 ⟨rfl,hbu2⟩
 have hR2:=hR1.trans (hbu2.mono hR1.size)
 refine hK _ _ ⟨hR2,?_⟩
 clear hK K
 try simp only [zA,zB,zC,Act.put,zD,zE,zF]
 have X4:=hid ((hR2.block _ (lt_of_blk X3.out)).trans X3.out)
 have hbZ:=hbB.trans (hR2.mono hbB.size)
 have hp3:=X4.out
 obtain ⟨_,_,_,_⟩:=two_cells hp3
 have hpz:=two_set1 (.string s) (two_set0 (.string r) hp3)
 obtain ⟨q0,q1,_,_⟩:=two_cells hpz
 have Q0:=hid q0
 have Q1:=hid q1
 clear hpz hp3 q0 q1
 unfold wpKeepL
 simp only [List.drop_succ_cons,List.drop_zero]
 try simp only [zA,zB,zC,Act.put,zD,zE,zF]
 refine wpKeep_step rfl (fun K hK=>?_)
 go_simp
 refine hK _ _ ⟨trivial,?_⟩
 clear hK K
 try simp only [zA,zB,zC,Act.put,zD,zE,zF]
 refine wpKeep_step rfl (fun K hK=>?_)
 go_simp
 refine hK _ _ ⟨trivial,wpKeep_nil ?_⟩
 clear hK K
 try simp only [zA,zB,zC,Act.put,zD,zE,zF]
 refine NormalOnly.mk ?_
 go_wp2
 have q0:=Q0.out
 have q1:=Q1.out
 refine bodyPost_ret (v:=.agg #[.string r,.string s]) (by simp [results,Tryz.results111,go_sem,q0,q1]) rfl ⟨rfl,?_⟩
 exact (hbZ.setCell (p:=⟨w.heap.size+1,0,none⟩) (by simp <;> omega) _).setCell (p:=⟨w.heap.size+1,1,none⟩) (by simp <;> omega) _
theorem law_points (v:Value) (D:List Plc) (w:World) (hw:Good w) (hv:Dft w v D):Calls Tryz.prog 64 #[v] w (ListPost (ptsD D) w):=by
 obtain ⟨p,c,rfl,hcl,hcm,hblk⟩:=hv
 unfold maxLen at hcm
 have HC:Hid (∀ k (hk:k<D.length),∃ b off,p=some ⟨b,off,none⟩∧b<w.heap.size∧okPlc D[k]∧∀ j (hj:j<6),w.cell? ⟨b,off+k*6+j,none⟩=some ((plcC D[k])[j]'hj)):=hid fun k hk=>by
  obtain ⟨b,off,h1,h2,h3⟩:=hblk (by omega)
  exact ⟨b,off,h1,h2,h3 k hk⟩
 clear hblk
 have hown0:w.ownsRow w.heap.size 31 2 (.slice none 0 0) 0 (cellsS ((dptsTo D 0).map textP)):=⟨rfl,.inl ⟨rfl,rfl⟩⟩
 have HO0:=hid hown0
 clear hown0
 go_enter Tryz.func64,Tryz.ntmps64
 go_wp2_with fail
 go_loopw [3,4] (fun ov iv wr=>∃ k:Nat,iv=.int .i64 (k:Int)∧k≤D.length∧k≤8∧wr.ownsRow w.heap.size 31 2 ov k (cellsS ((dptsTo D k).map textP))∧Below w.heap.size w wr) (fun _ iv _=>D.length-(intOf iv).toNat)
 case atStart=>exact ⟨0,rfl,Nat.zero_le _,Nat.zero_le _,HO0.out,Below.refl _ _⟩
 case round =>
  obtain ⟨k,rfl,hkl,h8,hown,hbr⟩:=hrel
  have HO:=hid hown
  by_cases hk:k<D.length∧k<8
  ·obtain ⟨hk,hk8⟩:=hk
   obtain ⟨b,off,rfl,hbl,hok,hcell⟩:=HC.out k hk
   have c0:=(hbr.cell (p:=⟨b,off+k*6+0,none⟩) hbl).trans (hcell 0 (by decide))
   have c1:=(hbr.cell (p:=⟨b,off+k*6+1,none⟩) hbl).trans (hcell 1 (by decide))
   have c2:=(hbr.cell (p:=⟨b,off+k*6+2,none⟩) hbl).trans (hcell 2 (by decide))
   have c3:=(hbr.cell (p:=⟨b,off+k*6+3,none⟩) hbl).trans (hcell 3 (by decide))
   have c4:=(hbr.cell (p:=⟨b,off+k*6+4,none⟩) hbl).trans (hcell 4 (by decide))
   have c5:=(hbr.cell (p:=⟨b,off+k*6+5,none⟩) hbl).trans (hcell 5 (by decide))
   have H1:=hid (fun w' (hg:Good w')=>law05_point D[k] hok w' hg)
   have HS:=hid (dptsTo_succ hk)
   have HLEN:=hid (dptsTo_len (Nat.le_of_lt hk))
   unfold RV ptV at H1
   unfold plcC at c0 c1 c2 c3 c4 c5 H1
   rw [Nat.add_zero] at c0
   generalize pq D[k]=z at *
   generalize D[k]=x at *
   obtain ⟨xa,xb,xc,xd,xe,xf⟩:=x
   clear hcell hok hown
   simp only [List.getElem_toArray,List.getElem_cons_zero,List.getElem_cons_succ] at c0 c1 c2 c3 c4 c5
   go_wp2_with fail
   refine (H1.out _ (hw.below hbr)).mono ?_
   rintro e w1 ⟨rfl,hb1⟩
   have hbw1:=hbr.trans (hb1.mono hbr.size)
   have HO1:=hid (owns_below HO.out hb1)
   have hbase:w.heap.size≤w1.heap.size:=hbw1.size
   have HL:=hid (cells_last (dptsTo D k) z)
   clear c0 c1 c2 c3 c4 c5
   go_wp2_with (at_builtin;refine app_new slPt rfl _ _ rfl w.heap.size _ k _ rfl HO1.out 1 1 _ rfl rfl (oneTwo _ _) (by omega) (by decide) hbase _ HL.out ?_;intro v1 w9 hown2 hb9;rw [←HS.out] at hown2;have HO2:=hid hown2;clear hown2)
   obtain ⟨g2,cp2,rfl⟩:=ownsRow_succ HO2.out
   refine ⟨⟨k+1,int_succ k,hk,hk8,HO2.out,hbw1.trans hb9⟩,?_⟩
   show D.length-((k:Int)+1).toNat<D.length-((k:Int)).toNat
   omega
  ·have HA:=hid (dptsTo_all hkl h8 hk)
   have HLEN:=hid (dptsTo_len hkl)
   have HP:=hid (show Pts wr _ (ptsD D) from by rw [←HA.out];exact pairs_of_cells (by rw [List.length_map,HLEN.out];exact hown))
   clear hown
   by_cases h1:k<D.length
   ·have h2:¬ k<8:=fun h=>hk ⟨h1,h⟩
    clear hk
    go_wp2
    go_ret
    exact ⟨_,rfl,HP.out,hbr⟩
   ·clear hk
    go_wp2
    go_ret
    exact ⟨_,rfl,HP.out,hbr⟩
theorem r9_hull_none (p:Option Addr) (c:Nat) (w:World):Calls Tryz.prog 16 #[.slice p 0 c] w fun e w'=>e=.returned (.slice none 0 0)∧w=w':=by
 go_enter Tryz.func16,Tryz.ntmps16
 go_wp2
 go_ret
 exact ⟨rfl,rfl⟩
def triP:List QP:=[(0,0),(3,0),(1,2)]
theorem tri_drf:Drf triP:=⟨poly_of triP (by decide) (by decide +kernel) (by decide +kernel),by decide,by decide +kernel⟩
theorem ptsD_small {D:List Plc} (h:∀ x∈D,okPlc x):∀ p∈ptsD D,(p.1.num.natAbs≤32768∧p.1.den≤256)∧(p.2.num.natAbs≤32768∧p.2.den≤256):=fun p hp=>by
 unfold ptsD at hp
 obtain ⟨x,hx,rfl⟩:=List.mem_map.1 hp
 have:=h x (List.mem_of_mem_take hx)
 exact ⟨sm_small this.1,sm_small this.2.1⟩
theorem Dft.okD {w:World} {v:Value} {D:List Plc} (h:Dft w v D):∀ x∈D,okPlc x:=fun x hx=>by
 obtain ⟨p,c,_,_,_,h4⟩:=h
 obtain ⟨i,hi,rfl⟩:=List.getElem_of_mem hx
 obtain ⟨b,off,_,_,h5⟩:=h4 (by omega)
 exact (h5 i hi).1
def MadeD (w:World) (e:Ending) (w':World):Prop:=∃ r P,e=.returned r∧Drf P∧Pts w' r P∧Below w.heap.size w w'
theorem hull_drf {D:List Plc} (h:∀ x∈D,okPlc x) {P:List QP} (hP:Wrap (ptsD D) P) (h3:¬ P.length<3):Drf P:=
 ⟨hP.poly (by omega),Nat.le_trans hP.toPart.len (by unfold ptsD;simp;omega),fun p hp=>ptsD_small h p (hP.mem p hp)⟩
theorem law_make (v:Value) (D:List Plc) (w:World) (hw:Good w) (hv:Dft w v D):Calls Tryz.prog 20 #[v] w (MadeD w):=by
 have HPT:=hid (law_points v D w hw hv)
 have HD:=hid hv.okD
 have A0_0:=hid (fun w' (hg:Good w')=>at_pt 0 0 0 0 (by decide +kernel) (by decide +kernel) (by decide) (by decide) w' hg)
 have A3_0:=hid (fun w' (hg:Good w')=>at_pt 3 0 3 0 (by decide +kernel) (by decide +kernel) (by decide) (by decide) w' hg)
 have A1_2:=hid (fun w' (hg:Good w')=>at_pt 1 2 1 2 (by decide +kernel) (by decide +kernel) (by decide) (by decide) w' hg)
 have HN:=hid (fun w'=>pts_new w' triP (by decide) (by decide) #[.string (tx 0),.string (tx 0),.string (tx 3),.string (tx 0),.string (tx 1),.string (tx 2)] rfl)
 rw [show triP.length=3 from rfl] at HN
 have HSM:=hid (fun p hp=>show Sz2 402 p from ⟨(ok_nat (ptsD_small HD.out p hp).1 (by decide) (by decide)).sz,(ok_nat (ptsD_small HD.out p hp).2 (by decide) (by decide)).sz⟩)
 have HHD:=hid (fun P (hP:Wrap (ptsD D) P) h3=>hull_drf HD.out hP h3)
 have HL8:=hid (show (ptsD D).length≤8 by unfold ptsD;simp;omega)
 unfold ListPost at HPT
 unfold RV at A0_0 A3_0 A1_2
 generalize tx 0=z0 at *
 generalize tx 1=z1 at *
 generalize tx 2=z2 at *
 generalize tx 3=z3 at *
 clear hv HD
 generalize ptsD D=L at *
 go_enter Tryz.func20,Tryz.ntmps20
 go_wp2_with fail
 refine HPT.out.mono ?_
 rintro e w1 ⟨r,rfl,hPL,hb1⟩
 have hg1:=hw.below hb1
 obtain ⟨pr,cr,rfl,hcr,hcm⟩:=hPL.slice
 have HPL:=hid hPL
 have hl8:=HL8.out
 clear hPL
 by_cases h0:L.length=0
 ·rw [h0]
  go_wp2_with fail
  refine (r9_hull_none pr cr w1).mono ?_
  rintro e w2 ⟨rfl,rfl⟩
  go_wp2_with fail
  refine (A0_0.out _ hg1).mono ?_
  rintro e wa ⟨rfl,ha⟩
  have hba:=hb1.trans (ha.mono hb1.size)
  go_wp2_with fail
  refine (A3_0.out _ (hw.below hba)).mono ?_
  rintro e wb ⟨rfl,hb⟩
  have hbb:=hba.trans (hb.mono hba.size)
  go_wp2_with fail
  refine (A1_2.out _ (hw.below hbb)).mono ?_
  rintro e wc ⟨rfl,hc⟩
  have hbc:=hbb.trans (hc.mono hbb.size)
  go_wp2
  go_ret
  exact ⟨_,triP,rfl,tri_drf,HN.out wc,hbc.trans ((alloc_below _ _).mono hbc.size)⟩
 ·have HHU:=hid (r9_hull (.slice pr L.length cr) L (by omega) (by omega) (fun p hp=>(HSM.out p hp).mono (by decide)) w1 hg1 HPL.out)
  unfold HullPost at HHU
  go_wp2_with fail
  refine HHU.out.mono ?_
  rintro e w2 ⟨r,P,rfl,hP,hPr,hb2⟩
  have hb12:=hb1.trans (hb2.mono hb1.size)
  have hg2:=hw.below hb12
  by_cases h3:P.length<3
  ·rw [if_pos h3] at hPr
   obtain ⟨p2,c2,rfl,_,_⟩:=hPr.slice
   clear hPr hP
   go_wp2_with fail
   refine (A0_0.out _ hg2).mono ?_
   rintro e wa ⟨rfl,ha⟩
   have hba:=hb12.trans (ha.mono hb12.size)
   go_wp2_with fail
   refine (A3_0.out _ (hw.below hba)).mono ?_
   rintro e wb ⟨rfl,hb⟩
   have hbb:=hba.trans (hb.mono hba.size)
   go_wp2_with fail
   refine (A1_2.out _ (hw.below hbb)).mono ?_
   rintro e wc ⟨rfl,hc⟩
   have hbc:=hbb.trans (hc.mono hbb.size)
   go_wp2
   go_ret
   exact ⟨_,triP,rfl,tri_drf,HN.out wc,hbc.trans ((alloc_below _ _).mono hbc.size)⟩
  ·rw [if_neg h3] at hPr
   obtain ⟨p2,c2,rfl,_,hcm2⟩:=hPr.slice
   have HPR:=hid hPr
   have HDR:=hid (HHD.out P hP h3)
   have e0:((P.length:Int) == 0)=false:=beq_eq_false_iff_ne.2 (by omega)
   clear hPr hP
   go_wp2
   go_ret
   exact ⟨_,P,rfl,HDR.out,HPR.out,hb12⟩
theorem law_fits (v:Value) (D:List Plc) (w:World) (hv:Dft w v D):Calls Tryz.prog 19 #[v] w fun e w'=>e=.returned (.bool (decide (D.length≤8)))∧w=w':=by
 obtain ⟨p,c,rfl,hcl,hcm,_⟩:=hv
 unfold maxLen at hcm
 by_cases h:D.length≤8
 ·rw [decide_eq_true h]
  have q1:decide ((D.length:Int)≤8)=true:=decide_eq_true (by omega)
  go_enter Tryz.func19,Tryz.ntmps19
  go_wp2
  go_ret
  exact ⟨rfl,rfl⟩
 ·rw [decide_eq_false h]
  have q1:decide ((D.length:Int)≤8)=false:=decide_eq_false (by omega)
  go_enter Tryz.func19,Tryz.ntmps19
  go_wp2
  go_ret
  exact ⟨rfl,rfl⟩
end Go.Proofs.YtgohnjdgoglcfaaGreatDoor
