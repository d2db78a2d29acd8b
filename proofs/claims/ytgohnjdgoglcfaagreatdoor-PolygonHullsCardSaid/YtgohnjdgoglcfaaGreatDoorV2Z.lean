import Derived.Test.YtgohnjdgoglcfaaGreatDoorV1Z
import Derived.Test.YtgohnjdgoglcfaaGreatDoorHeldPZ
import Derived.Test.YtgohnjdgoglcfaaGreatDoorBxZ
namespace Go.Proofs.YtgohnjdgoglcfaaGreatDoor
open Go.RowKit Go.Shelf
open Go.Lib (decDigits itoa nDigits)
theorem at_pt (x y:Int) (a b:Rat) (ha:a=(x:Rat)) (hb:b=(y:Rat)) (hx:x.natAbs≤1000000000) (hy:y.natAbs≤1000000000) (w:World) (hw:Good w) :
  Calls Tryz.prog 44 #[.int .i64 x,.int .i64 y] w (RV (.agg #[.string (tx a),.string (tx b)]) w):=by
 subst ha hb
 exact r5_at x y hx hy w hw
theorem pairs_new (w:World) (t:TypeId) (L:List Pair) (_h0:0<L.length) (hm:L.length≤maxLen) (cs:Array Value) (hcs:cs.toList=cellsS L):Pairs (w.alloc (Obj.cells cs t)) (.slice (some ⟨w.heap.size,0,none⟩) L.length L.length) L:=by
 have hl:cs.size=L.length*2:=by rw [←cellsS_len,←hcs,Array.length_toList]
 have key:∀ i (hi:i<L.length) j (hj:j<2),(w.alloc (Obj.cells cs t)).cell? ⟨w.heap.size,i*2+j,none⟩=some ([Value.string L[i].1,.string L[i].2][j]):=fun i hi j hj=>by
  have h:=cellsS_get L i hi j hj
  rw [←hcs] at h
  rw [alloc_cells w cs t (i*2+j) (by omega)]
  rw [List.getElem?_eq_getElem (by rw [Array.length_toList];omega)] at h
  simpa using h
 refine ⟨_,_,rfl,Nat.le_refl _,hm,fun _=>⟨w.heap.size,0,rfl,by simp,fun i hi=>?_⟩⟩
 rw [Nat.zero_add]
 exact ⟨key i hi 0 (by decide),key i hi 1 (by decide)⟩
theorem pts_new (w:World) (L:List QP) (h0:0<L.length) (hm:L.length≤maxLen) (cs:Array Value) (hcs:cs.toList=cellsS (L.map textP)):Pts (w.alloc (Obj.cells cs 31)) (.slice (some ⟨w.heap.size,0,none⟩) L.length L.length) L:=by
 have:=pairs_new w 31 (L.map textP) (by simpa using h0) (by simpa using hm) cs hcs
 rw [List.length_map] at this
 exact this
def ListPost (L:List QP) (w:World) (e:Ending) (w':World):Prop:=∃ r,e=.returned r∧Pts w' r L∧Below w.heap.size w w'
set_option maxRecDepth 100000 in
set_option maxHeartbeats 8000000 in
theorem law_square (w:World) (hw:Good w):Calls Tryz.prog 51 #[] w (ListPost sqP w):=by
 have A0_0:=Lib.hid (fun w' (hg:Good w')=>at_pt (0) 0 0 0 (by decide +kernel) (by decide +kernel) (by decide) (by decide) w' hg)
 have A4_0:=Lib.hid (fun w' (hg:Good w')=>at_pt (4) 0 4 0 (by decide +kernel) (by decide +kernel) (by decide) (by decide) w' hg)
 have A4_4:=Lib.hid (fun w' (hg:Good w')=>at_pt (4) 4 4 4 (by decide +kernel) (by decide +kernel) (by decide) (by decide) w' hg)
 have A0_4:=Lib.hid (fun w' (hg:Good w')=>at_pt (0) 4 0 4 (by decide +kernel) (by decide +kernel) (by decide) (by decide) w' hg)
 unfold RV at A0_0 A4_0 A4_4 A0_4
 have HN:=Lib.hid (fun w'=>pts_new w' sqP (by decide) (by decide) #[.string (tx 0),.string (tx 0),.string (tx 4),.string (tx 0),.string (tx 4),.string (tx 4),.string (tx 0),.string (tx 4)] rfl)
 rw [show sqP.length=4 from rfl] at HN
 generalize tx 0=z0 at *
 generalize tx 4=z4 at *
 have hb0:=Below.refl w.heap.size w
 have hg0:=hw
 go_enter Tryz.func51,Tryz.ntmps51
 go_wp2_with fail
 refine (A0_0.out _ hg0).mono ?_
 rintro e w1 ⟨rfl,h1⟩
 have hb1:=hb0.trans (h1.mono hb0.size)
 have hg1:=hw.below hb1
 go_wp2_with fail
 refine (A4_0.out _ hg1).mono ?_
 rintro e w2 ⟨rfl,h2⟩
 have hb2:=hb1.trans (h2.mono hb1.size)
 have hg2:=hw.below hb2
 go_wp2_with fail
 refine (A4_4.out _ hg2).mono ?_
 rintro e w3 ⟨rfl,h3⟩
 have hb3:=hb2.trans (h3.mono hb2.size)
 have hg3:=hw.below hb3
 go_wp2_with fail
 refine (A0_4.out _ hg3).mono ?_
 rintro e w4 ⟨rfl,h4⟩
 have hb4:=hb3.trans (h4.mono hb3.size)
 have hg4:=hw.below hb4
 go_wp2
 go_ret
 exact ⟨_,rfl,HN.out w4,hb4.trans ((alloc_below _ _).mono hb4.size)⟩
theorem clip_known {e:Ending} {w':World} {w:World} (h:ClipPost (valP 1 1 4) sqP w e w'):∃ r,e=.returned (.tuple #[r,.bool true,.int .i64 0])∧Pts w' r clP∧Below w.heap.size w w':=by
 obtain ⟨h1,h2⟩:=h
 rcases h1 with ⟨_,r,t,he,hl,hp⟩ | ⟨hn,_⟩
 ·rw [sq_clip] at hl hp
  rw [sq_begin hl] at hp
  exact ⟨r,he,hp,h2⟩
 ·exact absurd sq_some hn
theorem hull_known {e:Ending} {w w':World} (h:PHullPost hlL w e w'):∃ r,e=.returned (.tuple #[r,.int .i64 0])∧Pts w' r hlP∧Below w.heap.size w w':=by
 obtain ⟨h1,h2⟩:=h
 rcases h1 with ⟨_,hn⟩ | ⟨r,P,he,hP,_,hp⟩
 ·exact absurd (hn hlP hl_wrap) (by decide)
 ·rw [hP.unique hl_wrap] at hp
  exact ⟨r,he,hp,h2⟩
theorem chord_known {e:Ending} {w w':World} (h:∃ r,e=.returned r∧ChordOut sqP (-4,2) (4,2) r∧Below w.heap.size w w'):e=.returned (.tuple #[.string (tx (1/2)),.string (tx 1),.bool true,.int .i64 0])∧Below w.heap.size w w':=by
 obtain ⟨r,he,h1,h2⟩:=h
 have hlt:loP sqP (-4,2) (4,2) sqP.length<hiP sqP (-4,2) (4,2) sqP.length:=by rw [sq_chord_lo,sq_chord_hi];decide +kernel
 rcases h1 with ⟨_,_,hv⟩ | ⟨hn,_⟩
 ·rw [sq_chord_lo,sq_chord_hi] at hv
  rw [he,hv]
  exact ⟨rfl,h2⟩
 ·exact absurd ⟨sq_chord_in,hlt⟩ hn
set_option maxRecDepth 100000 in
set_option maxHeartbeats 8000000 in
theorem law_known (w:World) (hw:Good w):Calls Tryz.prog 12 #[] w (RV (.bool true) w):=by
 have A0_0:=Lib.hid (fun w' (hg:Good w')=>at_pt (0) 0 0 0 (by decide +kernel) (by decide +kernel) (by decide) (by decide) w' hg)
 have A4_0:=Lib.hid (fun w' (hg:Good w')=>at_pt (4) 0 4 0 (by decide +kernel) (by decide +kernel) (by decide) (by decide) w' hg)
 have A4_4:=Lib.hid (fun w' (hg:Good w')=>at_pt (4) 4 4 4 (by decide +kernel) (by decide +kernel) (by decide) (by decide) w' hg)
 have A0_4:=Lib.hid (fun w' (hg:Good w')=>at_pt (0) 4 0 4 (by decide +kernel) (by decide +kernel) (by decide) (by decide) w' hg)
 have A2_0:=Lib.hid (fun w' (hg:Good w')=>at_pt (2) 0 2 0 (by decide +kernel) (by decide +kernel) (by decide) (by decide) w' hg)
 have A1_1:=Lib.hid (fun w' (hg:Good w')=>at_pt (1) 1 1 1 (by decide +kernel) (by decide +kernel) (by decide) (by decide) w' hg)
 have A1_3:=Lib.hid (fun w' (hg:Good w')=>at_pt (1) 3 1 3 (by decide +kernel) (by decide +kernel) (by decide) (by decide) w' hg)
 have A0_2:=Lib.hid (fun w' (hg:Good w')=>at_pt (0) 2 0 2 (by decide +kernel) (by decide +kernel) (by decide) (by decide) w' hg)
 have Am4_2:=Lib.hid (fun w' (hg:Good w')=>at_pt (-4) 2 (-4) 2 (by decide +kernel) (by decide +kernel) (by decide) (by decide) w' hg)
 have A4_2:=Lib.hid (fun w' (hg:Good w')=>at_pt (4) 2 4 2 (by decide +kernel) (by decide +kernel) (by decide) (by decide) w' hg)
 have A2_2:=Lib.hid (fun w' (hg:Good w')=>at_pt (2) 2 2 2 (by decide +kernel) (by decide +kernel) (by decide) (by decide) w' hg)
 unfold RV at A0_0 A4_0 A4_4 A0_4 A2_0 A1_1 A1_3 A0_2 Am4_2 A4_2 A2_2
 have HSQ:=Lib.hid law_square
 have HAR:=Lib.hid (fun v w' (hg:Good w') (hp:Pts w' v sqP)=>pg_Area v sqP sq_poly (by decide) sq_ok (fun k hk=>(sq_areaTo k hk).mono (by decide)) (by rw [sq_area];exact okB_small _ (by decide +kernel) (by decide +kernel)) w' hg hp)
 rw [sq_area,tx_32] at HAR
 have HCE:=Lib.hid (fun v w' (hg:Good w') (hp:Pts w' v sqP)=>pg_Centroid v sqP sq_poly (by decide) sq_ok (fun k hk=>(sq_areaTo k hk).mono (by decide)) (fun k hk=>(sq_cenX k hk).mono (by decide)) (fun k hk=>(sq_cenY k hk).mono (by decide)) (by rw [sq_cen];exact ⟨okB_small _ (by decide +kernel) (by decide +kernel),okB_small _ (by decide +kernel) (by decide +kernel)⟩) w' hg hp)
 rw [sq_cen] at HCE
 have HCL:=Lib.hid (fun v w' (hg:Good w') (hp:Pts w' v sqP)=>(pg_Clip v sqP sq_poly (by decide) sq_ok 1 1 4 sq_line sq_clip_ok w' hg hp).mono fun e w'' h=>clip_known h)
 have HHU:=Lib.hid (fun v w' (hg:Good w') (hp:Pts w' v hlL)=>(pg_hull v hlL (by decide) (by decide) hl_ok w' hg hp).mono fun e w'' h=>hull_known h)
 have HCH:=Lib.hid (fun v w' (hg:Good w') (hp:Pts w' v sqP)=>(pg_Chord v sqP (-4,2) (4,2) sq_poly (by decide) sq_ok (all_small [(-4,2)] (by decide +kernel) _ (List.mem_singleton.2 rfl)) (all_small [(4,2)] (by decide +kernel) _ (List.mem_singleton.2 rfl)) (by decide +kernel) (fun _=>by rw [sq_chord_lo,sq_chord_hi];exact ⟨okB_small _ (by decide +kernel) (by decide +kernel),okB_small _ (by decide +kernel) (by decide +kernel)⟩) w' hg hp).mono fun e w'' h=>chord_known h)
 have HEQ:=Lib.hid (fun v u L w' (hv:Pts w' v L) (hu:Pts w' u L)=>r9_equal pointNeq v u (L.map textP) (L.map textP) w' hv hu)
 have heq:=eqlPts (2,2) (2,2)
 have hguard:=guardPts
 have HN5:=Lib.hid (fun w'=>pts_new w' hlL (by decide) (by decide) #[.string (tx 0),.string (tx 0),.string (tx 2),.string (tx 0),.string (tx 1),.string (tx 1),.string (tx 1),.string (tx 3),.string (tx 0),.string (tx 2)] rfl)
 have HN3:=Lib.hid (fun w'=>pts_new w' clP (by decide) (by decide) #[.string (tx 0),.string (tx 4),.string (tx 4),.string (tx 0),.string (tx 4),.string (tx 4)] rfl)
 have HN4:=Lib.hid (fun w'=>pts_new w' hlP (by decide) (by decide) #[.string (tx 0),.string (tx 0),.string (tx 2),.string (tx 0),.string (tx 1),.string (tx 3),.string (tx 0),.string (tx 2)] rfl)
 rw [show hlL.length=5 from rfl] at HN5
 rw [show clP.length=3 from rfl] at HN3
 rw [show hlP.length=4 from rfl] at HN4
 rw [decide_eq_true rfl] at heq
 unfold RV at HAR HCE
 unfold ListPost at HSQ
 unfold ptV at HCE HCH
 unfold lnV at HCL
 dsimp only at HCE HCH heq
 rw [tx_half] at HCH
 generalize tx 0=z0 at *
 generalize tx 2=z2 at *
 generalize tx 3=z3 at *
 generalize tx (-4)=m4 at *
 rw [tx1,tx_4] at HCL
 rw [tx1] at HCH
 generalize tx 1=z1 at *
 generalize tx 4=z4 at *
 have hb0:=Below.refl w.heap.size w
 have hg0:=hw
 go_enter Tryz.func12,Tryz.ntmps12
 go_wp2_with fail
 refine (HSQ.out _ hg0).mono ?_
 rintro e w1 ⟨q1,rfl,hp1,h1⟩
 have hb1:=hb0.trans (h1.mono hb0.size)
 have hg1:=hw.below hb1
 go_wp2_with fail
 refine (HAR.out _ _ hg1 hp1).mono ?_
 rintro e w2 ⟨rfl,h2⟩
 have hb2:=hb1.trans (h2.mono hb1.size)
 have hg2:=hw.below hb2
 go_wp2_with fail
 refine (HSQ.out _ hg2).mono ?_
 rintro e w3 ⟨q3,rfl,hp3,h3⟩
 have hb3:=hb2.trans (h3.mono hb2.size)
 have hg3:=hw.below hb3
 go_wp2_with fail
 refine (HCE.out _ _ hg3 hp3).mono ?_
 rintro e w4 ⟨rfl,h4⟩
 have hb4:=hb3.trans (h4.mono hb3.size)
 have hg4:=hw.below hb4
 go_wp2_with fail
 obtain ⟨w5,hw5⟩ : ∃ w5,w5=w4.alloc (Obj.cells #[.string z2,.string z2] 31):=⟨_,rfl⟩
 obtain ⟨h5,hx5⟩:=box_any hw5
 have hb5:=hb4.trans (h5.mono hb4.size)
 have hg5:=hw.below hb5
 have HX5:=Lib.hid hx5
 rw [←hw5]
 clear hw5 hx5 hp1 hp3
 refine (HSQ.out _ hg5).mono ?_
 rintro e w6 ⟨q6,rfl,hp6,h6⟩
 have hb6:=hb5.trans (h6.mono hb5.size)
 have hg6:=hw.below hb6
 go_wp2_with fail
 refine (HCL.out _ _ hg6 hp6).mono ?_
 rintro e w7 ⟨q7,rfl,hp7,h7⟩
 have hb7:=hb6.trans (h7.mono hb6.size)
 have hg7:=hw.below hb7
 go_wp2_with fail
 refine (A0_0.out _ hg7).mono ?_
 rintro e w8 ⟨rfl,h8⟩
 have hb8:=hb7.trans (h8.mono hb7.size)
 have hg8:=hw.below hb8
 go_wp2_with fail
 refine (A2_0.out _ hg8).mono ?_
 rintro e w9 ⟨rfl,h9⟩
 have hb9:=hb8.trans (h9.mono hb8.size)
 have hg9:=hw.below hb9
 go_wp2_with fail
 refine (A1_1.out _ hg9).mono ?_
 rintro e w10 ⟨rfl,h10⟩
 have hb10:=hb9.trans (h10.mono hb9.size)
 have hg10:=hw.below hb10
 go_wp2_with fail
 refine (A1_3.out _ hg10).mono ?_
 rintro e w11 ⟨rfl,h11⟩
 have hb11:=hb10.trans (h11.mono hb10.size)
 have hg11:=hw.below hb11
 go_wp2_with fail
 refine (A0_2.out _ hg11).mono ?_
 rintro e w12 ⟨rfl,h12⟩
 have hb12:=hb11.trans (h12.mono hb11.size)
 have hg12:=hw.below hb12
 go_wp2_with fail
 obtain ⟨w13,hw13⟩ : ∃ w13,w13=w12.alloc (Obj.cells #[.string z0,.string z0,.string z2,.string z0,.string z1,.string z1,.string z1,.string z3,.string z0,.string z2] 31):=⟨_,rfl⟩
 obtain ⟨h13,_⟩:=box_any hw13
 have hp13:=HN5.out w12
 rw [←hw13] at hp13
 have hb13:=hb12.trans (h13.mono hb12.size)
 have hg13:=hw.below hb13
 rw [←hw13]
 clear hw13
 refine (HHU.out _ _ hg13 hp13).mono ?_
 rintro e w14 ⟨q14,rfl,hp14,h14⟩
 have hb14:=hb13.trans (h14.mono hb13.size)
 have hg14:=hw.below hb14
 clear hp13
 go_wp2_with fail
 refine (HSQ.out _ hg14).mono ?_
 rintro e w15 ⟨q15,rfl,hp15,h15⟩
 have hb15:=hb14.trans (h15.mono hb14.size)
 have hg15:=hw.below hb15
 go_wp2_with fail
 refine (Am4_2.out _ hg15).mono ?_
 rintro e w16 ⟨rfl,h16⟩
 have hb16:=hb15.trans (h16.mono hb15.size)
 have hg16:=hw.below hb16
 go_wp2_with fail
 refine (A4_2.out _ hg16).mono ?_
 rintro e w17 ⟨rfl,h17⟩
 have hb17:=hb16.trans (h17.mono hb16.size)
 have hg17:=hw.below hb17
 have hp17:=(hp15.below h16).below h17
 go_wp2_with fail
 refine (HCH.out _ _ hg17 hp17).mono ?_
 rintro e w18 ⟨rfl,h18⟩
 have hb18:=hb17.trans (h18.mono hb17.size)
 have hg18:=hw.below hb18
 have l5:w4.heap.size<w18.heap.size:=by
  have:=lt_of_blk HX5.out
  have:=h6.size;have:=h7.size;have:=h8.size;have:=h9.size;have:=h10.size;have:=h11.size;have:=h12.size;have:=h13.size;have:=h14.size;have:=h15.size;have:=h16.size;have:=h17.size;have:=h18.size
  omega
 have hb5_18:Below w5.heap.size w5 w18:=by
  have a6:=h6
  have a7:=a6.trans (h7.mono a6.size)
  have a8:=a7.trans (h8.mono a7.size)
  have a9:=a8.trans (h9.mono a8.size)
  have a10:=a9.trans (h10.mono a9.size)
  have a11:=a10.trans (h11.mono a10.size)
  have a12:=a11.trans (h12.mono a11.size)
  have a13:=a12.trans (h13.mono a12.size)
  have a14:=a13.trans (h14.mono a13.size)
  have a15:=a14.trans (h15.mono a14.size)
  have a16:=a15.trans (h16.mono a15.size)
  have a17:=a16.trans (h17.mono a16.size)
  exact a17.trans (h18.mono a17.size)
 have hx18:=(hb5_18.block _ (lt_of_blk HX5.out)).trans HX5.out
 obtain ⟨c0,c1,_,_⟩:=two_cells hx18
 have HP7:=Lib.hid (show Pts w18 q7 clP by
  have a8:=h8
  have a9:=a8.trans (h9.mono a8.size)
  have a10:=a9.trans (h10.mono a9.size)
  have a11:=a10.trans (h11.mono a10.size)
  have a12:=a11.trans (h12.mono a11.size)
  have a13:=a12.trans (h13.mono a12.size)
  have a14:=a13.trans (h14.mono a13.size)
  have a15:=a14.trans (h15.mono a14.size)
  have a16:=a15.trans (h16.mono a15.size)
  have a17:=a16.trans (h17.mono a16.size)
  exact hp7.below (a17.trans (h18.mono a17.size)))
 have HP14:=Lib.hid (show Pts w18 q14 hlP by
  have a15:=h15
  have a16:=a15.trans (h16.mono a15.size)
  have a17:=a16.trans (h17.mono a16.size)
  exact hp14.below (a17.trans (h18.mono a17.size)))
 clear hb5_18 hx18 hp6 hp7 hp14 hp15 hp17 h2 h4 h5 h6 h7 h8 h9 h10 h11 h12 h13 h14 h15 h16 h17 h18 hb1 hb2 hb3 hb4 hb5 hb6 hb7 hb8 hb9 hb10 hb11 hb12 hb13 hb14 hb15 hb16 hb17 hg1 hg2 hg3 hg4 hg5 hg6 hg7 hg8 hg9 hg10 hg11 hg12 hg13 hg14 hg15 hg16 hg17 HX5 HSQ HAR HCE HCL HHU HCH HN5
 go_wp2_with fail
 refine wp_held_ph (fun W'=>Below w18.heap.size w18 W') [(true,0),(true,1),(true,2),(true,3),(true,4),(true,5),(true,6),(true,7),(true,8),(true,9),(true,10),(true,11),(false,12),(true,13),(true,14),(true,15),(true,16),(true,17),(true,18),(true,19),(true,20),(true,21),(true,22),(true,23),(false,24),(false,25),(false,26),(false,27),(false,28),(true,29),(true,30),(true,31),(true,32),(true,33),(true,34),(true,35),(false,36),(false,37),(false,38),(false,39),(false,40),(false,41),(true,42),(true,43),(true,44),(true,45),(true,46),(true,47),(true,48),(true,49),(true,50),(true,51),(true,52),(true,53),(true,54),(true,55),(true,56),(true,57)] 58 (by kernel_rfl) (by kernel_rfl) ⟨rfl,rfl,rfl,Nat.le_refl _,fun _ _=>rfl⟩ ?_
 have hK0:Below w18.heap.size w18 w18.drew:=⟨rfl,rfl,rfl,Nat.le_refl _,fun _ _=>rfl⟩
 iterate 12
  refine wpPh_take rfl ?_ rfl ?_ ?_
  rotate_left
  ·intro W' hS'
   have s0:=(hS'.cell (p:=⟨w4.heap.size,0,none⟩) l5).trans c0
   have s1:=(hS'.cell (p:=⟨w4.heap.size,1,none⟩) l5).trans c1
   go_simp
   try with_reducible rfl
  try simp only [zA,zB,zC,Act.put,zD,zE,zF]
 refine wpPh_keep rfl rfl (fun K hK=>?_)
 go_simp
 refine (A2_2.out _ (hw.below (hb18.trans (hK0.mono hb18.size)))).mono ?_
 rintro e x62 ⟨rfl,hbx62⟩
 have hK1:=hK0.trans (hbx62.mono hK0.size)
 refine hK _ _ ⟨hK1,?_⟩
 clear hK K
 try simp only [zA,zB,zC,Act.put,zD,zE,zF]
 iterate 11
  refine wpPh_take rfl ?_ rfl ?_ ?_
  rotate_left
  ·intro W' hS'
   have s0:=(hS'.cell (p:=⟨w4.heap.size,0,none⟩) l5).trans c0
   have s1:=(hS'.cell (p:=⟨w4.heap.size,1,none⟩) l5).trans c1
   go_simp
   try with_reducible rfl
  try simp only [zA,zB,zC,Act.put,zD,zE,zF]
 refine wpPh_keep rfl rfl (fun K hK=>?_)
 go_simp
 refine (A0_4.out _ (hw.below (hb18.trans (hK1.mono hb18.size)))).mono ?_
 rintro e x74 ⟨rfl,hbx74⟩
 have hK2:=hK1.trans (hbx74.mono hK1.size)
 refine hK _ _ ⟨hK2,?_⟩
 clear hK K
 try simp only [zA,zB,zC,Act.put,zD,zE,zF]
 refine wpPh_keep rfl rfl (fun K hK=>?_)
 go_simp
 refine (A4_0.out _ (hw.below (hb18.trans (hK2.mono hb18.size)))).mono ?_
 rintro e x75 ⟨rfl,hbx75⟩
 have hK3:=hK2.trans (hbx75.mono hK2.size)
 refine hK _ _ ⟨hK3,?_⟩
 clear hK K
 try simp only [zA,zB,zC,Act.put,zD,zE,zF]
 refine wpPh_keep rfl rfl (fun K hK=>?_)
 go_simp
 refine (A4_4.out _ (hw.below (hb18.trans (hK3.mono hb18.size)))).mono ?_
 rintro e x76 ⟨rfl,hbx76⟩
 have hK4:=hK3.trans (hbx76.mono hK3.size)
 refine hK _ _ ⟨hK4,?_⟩
 clear hK K
 try simp only [zA,zB,zC,Act.put,zD,zE,zF]
 refine wpPh_keep rfl rfl (fun K hK=>?_)
 go_simp
 obtain ⟨x77,hwx77⟩ : ∃ x77,x77=x76.alloc (Obj.cells #[.string z0,.string z4,.string z4,.string z0,.string z4,.string z4] 31):=⟨_,rfl⟩
 obtain ⟨hbx77,_⟩:=box_any hwx77
 have hNx77:=HN3.out x76
 rw [←hwx77] at hNx77
 have hK5:=hK4.trans (hbx77.mono hK4.size)
 rw [←hwx77]
 refine hK _ _ ⟨hK5,?_⟩
 clear hK K hwx77
 try simp only [zA,zB,zC,Act.put,zD,zE,zF]
 refine wpPh_keep rfl rfl (fun K hK=>?_)
 go_simp
 refine ((HEQ.out q7 _ clP _ (HP7.out.below hK5) hNx77)).mono ?_
 rintro e x78 ⟨rfl,hbx78⟩
 have hK6:=hK5.trans (hbx78.mono hK5.size)
 refine hK _ _ ⟨hK6,?_⟩
 clear hK K
 try simp only [zA,zB,zC,Act.put,zD,zE,zF]
 iterate 7
  refine wpPh_take rfl ?_ rfl ?_ ?_
  rotate_left
  ·intro W' hS'
   have s0:=(hS'.cell (p:=⟨w4.heap.size,0,none⟩) l5).trans c0
   have s1:=(hS'.cell (p:=⟨w4.heap.size,1,none⟩) l5).trans c1
   go_simp
   try with_reducible rfl
  try simp only [zA,zB,zC,Act.put,zD,zE,zF]
 refine wpPh_keep rfl rfl (fun K hK=>?_)
 go_simp
 refine (A0_0.out _ (hw.below (hb18.trans (hK6.mono hb18.size)))).mono ?_
 rintro e x86 ⟨rfl,hbx86⟩
 have hK7:=hK6.trans (hbx86.mono hK6.size)
 refine hK _ _ ⟨hK7,?_⟩
 clear hK K
 try simp only [zA,zB,zC,Act.put,zD,zE,zF]
 refine wpPh_keep rfl rfl (fun K hK=>?_)
 go_simp
 refine (A2_0.out _ (hw.below (hb18.trans (hK7.mono hb18.size)))).mono ?_
 rintro e x87 ⟨rfl,hbx87⟩
 have hK8:=hK7.trans (hbx87.mono hK7.size)
 refine hK _ _ ⟨hK8,?_⟩
 clear hK K
 try simp only [zA,zB,zC,Act.put,zD,zE,zF]
 refine wpPh_keep rfl rfl (fun K hK=>?_)
 go_simp
 refine (A1_3.out _ (hw.below (hb18.trans (hK8.mono hb18.size)))).mono ?_
 rintro e x88 ⟨rfl,hbx88⟩
 have hK9:=hK8.trans (hbx88.mono hK8.size)
 refine hK _ _ ⟨hK9,?_⟩
 clear hK K
 try simp only [zA,zB,zC,Act.put,zD,zE,zF]
 refine wpPh_keep rfl rfl (fun K hK=>?_)
 go_simp
 refine (A0_2.out _ (hw.below (hb18.trans (hK9.mono hb18.size)))).mono ?_
 rintro e x89 ⟨rfl,hbx89⟩
 have hK10:=hK9.trans (hbx89.mono hK9.size)
 refine hK _ _ ⟨hK10,?_⟩
 clear hK K
 try simp only [zA,zB,zC,Act.put,zD,zE,zF]
 refine wpPh_keep rfl rfl (fun K hK=>?_)
 go_simp
 obtain ⟨x90,hwx90⟩ : ∃ x90,x90=x89.alloc (Obj.cells #[.string z0,.string z0,.string z2,.string z0,.string z1,.string z3,.string z0,.string z2] 31):=⟨_,rfl⟩
 obtain ⟨hbx90,_⟩:=box_any hwx90
 have hNx90:=HN4.out x89
 rw [←hwx90] at hNx90
 have hK11:=hK10.trans (hbx90.mono hK10.size)
 rw [←hwx90]
 refine hK _ _ ⟨hK11,?_⟩
 clear hK K hwx90
 try simp only [zA,zB,zC,Act.put,zD,zE,zF]
 refine wpPh_keep rfl rfl (fun K hK=>?_)
 go_simp
 refine ((HEQ.out q14 _ hlP _ (HP14.out.below hK11) hNx90)).mono ?_
 rintro e x91 ⟨rfl,hbx91⟩
 have hK12:=hK11.trans (hbx91.mono hK11.size)
 refine hK _ _ ⟨hK12,?_⟩
 clear hK K
 try simp only [zA,zB,zC,Act.put,zD,zE,zF]
 iterate 16
  refine wpPh_take rfl ?_ rfl ?_ ?_
  rotate_left
  ·intro W' hS'
   have s0:=(hS'.cell (p:=⟨w4.heap.size,0,none⟩) l5).trans c0
   have s1:=(hS'.cell (p:=⟨w4.heap.size,1,none⟩) l5).trans c1
   go_simp
   try with_reducible rfl
  try simp only [zA,zB,zC,Act.put,zD,zE,zF]
 unfold wpPh
 simp only [List.drop_succ_cons,List.drop_zero]
 have hbz:=hb18.trans (hK12.mono hb18.size)
 go_wp2
 refine NormalOnly.mk ?_
 go_wp2
 go_ret
 exact ⟨rfl,hbz⟩
end Go.Proofs.YtgohnjdgoglcfaaGreatDoor
