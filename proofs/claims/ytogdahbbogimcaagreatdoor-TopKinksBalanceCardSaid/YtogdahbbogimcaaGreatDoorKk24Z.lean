import Derived.Test.YtogdahbbogimcaaGreatDoorKk12Z
import Derived.Test.YtogdahbbogimcaaGreatDoorAtLawZ
set_option maxRecDepth 100000
set_option maxHeartbeats 8000000
namespace Go.Proofs.YtogdahbbogimcaaGreatDoor
open Go.RowKit Go.Shelf
open Go.Lib (decDigits itoa nDigits)
def planD1 (d:Duo):Rat × Rat:=(Rat.divInt (d.1.tmod 6) 6,((1+(max d.2 (-d.2)).tmod 6:Int):Rat))
def planD (D0:List Duo):List (Rat × Rat):=if D0.length=0 then [(0,1)] else D0.map planD1
def planS (a b:Int):QP:=(((a.tmod 10:Int):Rat),((b.tmod 10:Int):Rat))
theorem tmod_lt10 (a:Int):-9≤a.tmod 10∧a.tmod 10≤9:=by
 have h1:=Int.tmod_lt_of_pos a (show (0:Int)<10 by decide)
 have h2:=Int.lt_tmod_of_pos a (show (0:Int)<10 by decide)
 omega
theorem tmod_lt6 (a:Int):-5≤a.tmod 6∧a.tmod 6≤5:=by
 have h1:=Int.tmod_lt_of_pos a (show (0:Int)<6 by decide)
 have h2:=Int.lt_tmod_of_pos a (show (0:Int)<6 by decide)
 omega
theorem divInt_six (j:Int):Rat.divInt j 6*6=(j:Rat):=by
 rw [show (Rat.divInt j 6)=(j:Rat)/((6:Int):Rat) from Rat.divInt_eq_div j 6]
 exact Rat.div_mul_cancel (by decide +kernel)
theorem plan_plan {D0:List Duo} (a b:Int) (hl:D0.length≤4):Plan (planS a b) (planD D0) where
 s1:=Fq.int (by have:=tmod_lt10 a;omega)
 s2:=Fq.int (by have:=tmod_lt10 b;omega)
 d:=fun x hx=>by
  unfold planD at hx
  split at hx
  ·rw [List.mem_singleton.1 hx]
   exact ⟨⟨0,by decide,by decide,by decide +kernel⟩,1,by decide,by decide,by decide +kernel⟩
  ·obtain ⟨d,_,rfl⟩:=List.mem_map.1 hx
   have h1:=tmod_lt6 d.1
   have h2:=tmod_lt6 (max d.2 (-d.2))
   have h3:=Int.tmod_nonneg 6 (show 0≤max d.2 (-d.2) by omega)
   refine ⟨⟨d.1.tmod 6,h1.1,h1.2,divInt_six _⟩,_,?_,?_,rfl⟩
   ·omega
   ·omega
 n:=by unfold planD;split <;> simp <;> omega
 ne:=by unfold planD;split <;> simp <;> omega
theorem own_set {W:World} {base:Nat} {e:TypeId} {size n:Nat} {v:Value} {xs:List Value} (h:W.ownsRow base e size v n xs) {a:Addr} (ha:a.block<base) (u:Value):(W.setCell a u).ownsRow base e size v n xs:=
 h.kept (row:=some a.block) ⟨rfl,rfl,rfl,by simp [World.setCell],fun j _ hne=>Below.heap_setCell W a u j (fun e=>hne (by rw [e]))⟩ (.inr fun e=>by have:=(h.lt _ e).1;omega)
theorem four_set {W w7:World} {B:Nat} {t:TypeId} {a b c d a' b' c' d':Value} (h:W.heap[B]?=some (.cells #[a,b,c,d] t (0,0)))
  (hw:w7=(((W.setCell ⟨B,0,none⟩ a').setCell ⟨B,1,none⟩ b').setCell ⟨B,2,none⟩ c').setCell ⟨B,3,none⟩ d') :
  w7.heap[B]?=some (.cells #[a',b',c',d'] t (0,0))∧(∀ k,k≠B→w7.heap[k]?=W.heap[k]?)∧(∀ n,n≤B→Below n W w7):=by
 refine ⟨?_,fun k hk=>?_,fun n hn=>?_⟩
 ·rw [hw]
  have h7:=set_block (i:=3) d' (set_block (i:=2) c' (set_block (i:=1) b' (set_block (i:=0) a' h)))
  simp only [List.setIfInBounds_toArray,List.set_cons_zero,List.set_cons_succ] at h7
  exact h7
 ·rw [hw]
  simp only [Below.heap_setCell _ (⟨B,_,none⟩ : Addr) _ k hk]
 ·rw [hw]
  exact ((((Below.refl n W).setCell (p:=⟨B,0,none⟩) hn _).setCell (p:=⟨B,1,none⟩) hn _).setCell (p:=⟨B,2,none⟩) hn _).setCell (p:=⟨B,3,none⟩) hn _
structure MkInv (wI:World) (B:Nat) (s:QP) (f g:Nat→Rat) (k m:Nat) (vd vl:Value) (W:World):Prop where
 low:Below B wI W
 box:W.heap[B]?=some (profO s vd vl)
 rd:W.ownsRow (B+1) 28 1 vd k (rCs f k)
 rl:W.ownsRow (B+1) 28 1 vl m (rCs g m)
 apart:Aprt vd vl
theorem MkInv.below {wI:World} {B:Nat} {s:QP} {f g:Nat→Rat} {k m:Nat} {vd vl:Value} {W W':World} (h:MkInv wI B s f g k m vd vl W) (hb:Below W.heap.size W W') (hB:B<wI.heap.size):MkInv wI B s f g k m vd vl W':=
 have hs:=h.low.size
 ⟨h.low.trans (hb.mono (by omega)),(hb.block _ (lt_of_some h.box)).trans h.box,owns_below h.rd hb,owns_below h.rl hb,h.apart⟩
theorem MkInv.dip {wI:World} {B:Nat} {s:QP} {f g:Nat→Rat} {k m:Nat} {vd vl:Value} {W:World} (h:MkInv wI B s f g k m vd vl W) {v':Value} {W':World} (hg:W.grownBy W' vd.ownBlock) (ho:W'.ownsRow (B+1) 28 1 v' (k+1) (rCs f k ++ [.string (tx (f k))]))
  (hv:v'.ownBlock=vd.ownBlock∨∃ g,v'.ownBlock=some g∧W.heap.size≤g) (hB:B<wI.heap.size):MkInv wI B s f g (k+1) m v' vl (W'.setCell ⟨B,2,none⟩ v'):=by
 obtain ⟨ha,hr⟩:=h.apart.symm.grown h.rl hg hv
 have hbb:W'.heap[B]?=W.heap[B]?:=hg.block _ (lt_of_some h.box) (fun e=>by have:=(h.rd.lt _ e.symm).1;omega)
 refine ⟨?_,?_,own_set (by rw [rCs_succ];exact ho) (by show B<B+1;omega) _,own_set hr (by show B<B+1;omega) _,ha.symm⟩
 ·have h1:Below B wI W':=h.low.grown hg (by have:=h.low.size;omega) (fun g hg=>by have:=(h.rd.lt g hg).1;omega)
  exact h1.setCell (p:=⟨B,2,none⟩) (Nat.le_refl _) _
 ·have:=set_block (i:=2) v' (hbb.trans h.box)
  exact this
theorem MkInv.len {wI:World} {B:Nat} {s:QP} {f g:Nat→Rat} {k m:Nat} {vd vl:Value} {W:World} (h:MkInv wI B s f g k m vd vl W) {v':Value} {W':World} (hg:W.grownBy W' vl.ownBlock) (ho:W'.ownsRow (B+1) 28 1 v' (m+1) (rCs g m ++ [.string (tx (g m))]))
  (hv:v'.ownBlock=vl.ownBlock∨∃ g,v'.ownBlock=some g∧W.heap.size≤g) (hB:B<wI.heap.size):MkInv wI B s f g k (m+1) vd v' (W'.setCell ⟨B,3,none⟩ v'):=by
 obtain ⟨ha,hr⟩:=h.apart.grown h.rd hg hv
 have hbb:W'.heap[B]?=W.heap[B]?:=hg.block _ (lt_of_some h.box) (fun e=>by have:=(h.rl.lt _ e.symm).1;omega)
 refine ⟨?_,?_,own_set hr (by show B<B+1;omega) _,own_set (by rw [rCs_succ];exact ho) (by show B<B+1;omega) _,ha⟩
 ·have h1:Below B wI W':=h.low.grown hg (by have:=h.low.size;omega) (fun g hg=>by have:=(h.rl.lt g hg).1;omega)
  exact h1.setCell (p:=⟨B,3,none⟩) (Nat.le_refl _) _
 ·have:=set_block (i:=3) v' (hbb.trans h.box)
  exact this
theorem MkInv.boxD {wI:World} {B:Nat} {s:QP} {f g:Nat→Rat} {k m:Nat} {vd vl:Value} {W:World} (h:MkInv wI B s f g k m vd vl W) {W':World} (hg:W.grownBy W' vd.ownBlock):W'.heap[B]?=some (profO s vd vl):=
 (hg.block _ (lt_of_some h.box) (fun e=>by have:=(h.rd.lt _ e.symm).1;omega)).trans h.box
theorem MkInv.boxL {wI:World} {B:Nat} {s:QP} {f g:Nat→Rat} {k m:Nat} {vd vl:Value} {W:World} (h:MkInv wI B s f g k m vd vl W) {W':World} (hg:W.grownBy W' vl.ownBlock):W'.heap[B]?=some (profO s vd vl):=
 (hg.block _ (lt_of_some h.box) (fun e=>by have:=(h.rl.lt _ e.symm).1;omega)).trans h.box
open Go.Lib (hid)
def fD (D0:List Duo) (i:Nat):Rat:=(planD1 (D0.getD i (0,0))).1
def gD (D0:List Duo) (i:Nat):Rat:=(planD1 (D0.getD i (0,0))).2
theorem range_fD (D0:List Duo) (h:D0.length≠0):(List.range D0.length).map (fD D0)=(planD D0).map (·.1):=by
 unfold planD
 rw [if_neg h,List.map_map]
 refine List.ext_getElem (by simp) fun i h1 h2=>?_
 simp only [List.getElem_map,List.getElem_range,Function.comp]
 unfold fD
 rw [getD_eq (by simpa using h1)]
theorem range_gD (D0:List Duo) (h:D0.length≠0):(List.range D0.length).map (gD D0)=(planD D0).map (·.2):=by
 unfold planD
 rw [if_neg h,List.map_map]
 refine List.ext_getElem (by simp) fun i h1 h2=>?_
 simp only [List.getElem_map,List.getElem_range,Function.comp]
 unfold gD
 rw [getD_eq (by simpa using h1)]
def MakePost (s:QP) (D:List (Rat × Rat)) (w:World) (e:Ending) (w':World):Prop:=
 ∃ vd vl,e=.returned (profV s vd vl)∧Txs w' vd (D.map (·.1))∧Txs w' vl (D.map (·.2))∧Below w.heap.size w w'
theorem txs_one {W:World} (a:Rat) {b:Nat} {t:TypeId} (h:W.heap[b]?=some (.cells #[.string (tx a)] t (0,0))):Txs W (.slice (some ⟨b,0,none⟩) 1 1) [a]:=by
 refine ⟨b,1,rfl,Nat.le_refl _,by decide,lt_of_some h,fun i hi=>?_⟩
 match i,hi with
 | 0,_=>simp [World.cell?,h]
theorem txs_moved {W W':World} {v:Value} {C:List Rat} (h:Txs W v C) {g n c:Nat} (hv:v=.slice (some ⟨g,0,none⟩) n c) (hs:W.heap.size≤W'.heap.size) (hc:∀ i,W'.cell? ⟨g,i,none⟩=W.cell? ⟨g,i,none⟩):Txs W' v C:=by
 obtain ⟨b,c',h1,h2,h3,h4,h5⟩:=h
 rw [hv] at h1
 have e:g=b:=by
  simp only [Value.slice.injEq,Option.some.injEq,Addr.mk.injEq,and_true] at h1
  exact h1.1
 subst e
 exact ⟨g,c',by rw [hv];exact h1,h2,h3,Nat.lt_of_lt_of_le h4 hs,fun i hi=>(hc i).trans (h5 i hi)⟩
theorem law40_Make (a b:Int) (ha0:-128≤a) (ha1:a≤127) (hb0:-128≤b) (hb1:b≤127) (v:Value) (D0:List Duo) (hl:D0.length≤4) (w:World) (hw:Good w) (hv:Duos w v D0) :
  Calls Tryz.prog 5 #[.agg #[.int .i8 a,.int .i8 b,v]] w (MakePost (planS a b) (planD D0) w):=by
 have k1:IntKind.i64.wrap a=a:=IntWalk.i64_in _ (by omega)
 have k2:IntKind.i64.wrap b=b:=IntWalk.i64_in _ (by omega)
 have ta:=tmod_lt10 a
 have tb:=tmod_lt10 b
 have k3:IntKind.i64.wrap (a.tmod 10)=a.tmod 10:=IntWalk.i64_in _ (by omega)
 have k4:IntKind.i64.wrap (b.tmod 10)=b.tmod 10:=IntWalk.i64_in _ (by omega)
 have HAT:=hid (fun (W:World) (hg:Good W)=>vec_At (a.tmod 10) (b.tmod 10) (by omega) (by omega) (by omega) (by omega) W hg)
 unfold RV ptV at HAT
 have HS:=hid (show profV (planS a b)=fun vd vl=>.agg #[.string (tx ((a.tmod 10:Int):Rat)),.string (tx ((b.tmod 10:Int):Rat)),vd,vl] from rfl)
 have HS2:=hid (show profO (planS a b)=fun vd vl=>.cells #[.string (tx ((a.tmod 10:Int):Rat)),.string (tx ((b.tmod 10:Int):Rat)),vd,vl] 33 from rfl)
 generalize planS a b=s at *
 generalize tx ((a.tmod 10:Int):Rat)=s1 at *
 generalize tx ((b.tmod 10:Int):Rat)=s2 at *
 have HOK:=hid hv.ok
 obtain ⟨p,c,rfl,hc,hmx,hxx⟩:=hv
 obtain ⟨wP,hwP⟩ : ∃ wP,wP=w.alloc (Obj.cells #[.int .i8 a,.int .i8 b,.slice p D0.length c] 26):=⟨_,rfl⟩
 obtain ⟨wA,hwA⟩ : ∃ wA,wA=wP.alloc (Obj.cells #[.string ⟨#[]⟩,.string ⟨#[]⟩,.slice none 0 0,.slice none 0 0] 33):=⟨_,rfl⟩
 have hbP:Below w.heap.size w wP:=by rw [hwP];exact alloc_below _ _
 have hbA:Below wP.heap.size wP wA:=by rw [hwA];exact alloc_below _ _
 have hsP:wP.heap.size=w.heap.size+1:=by rw [hwP];simp
 have hsA:wA.heap.size=w.heap.size+2:=by rw [hwA];simp [hsP]
 have hp0:wP.heap[w.heap.size]?=some (.cells #[.int .i8 a,.int .i8 b,.slice p D0.length c] 26 (0,0)):=by rw [hwP];exact World.alloc_heap_new _ _
 have HPA:=hid ((hbA.block _ (by omega)).trans hp0)
 have HRA:=hid (show wA.heap[w.heap.size+1]?=some (.cells #[.string ⟨#[]⟩,.string ⟨#[]⟩,.slice none 0 0,.slice none 0 0] 33 (0,0)) by rw [hwA,←hsP];exact World.alloc_heap_new _ _)
 have hbw:Below w.heap.size w wA:=hbP.trans (hbA.mono hbP.size)
 rw [hwP] at hwA
 have HWA:=hid hwA
 have HSA:=hid hsA
 have c0:wA.cell? ⟨w.heap.size,0,none⟩=some (.int .i8 a):=by simp [World.cell?,HPA.out]
 have c1:wA.cell? ⟨w.heap.size,1,none⟩=some (.int .i8 b):=by simp [World.cell?,HPA.out]
 rw [hwA] at c0 c1
 clear hwP hwA hp0 hsP hbP hbA hsA
 go_enter Tryz.func5,Tryz.ntmps5
 go_wp2_with fail
 rw [←HWA.out]
 refine (HAT.out _ (hw.below hbw)).mono ?_
 rintro e w1 ⟨rfl,hb1⟩
 have hs1:=hb1.size
 have hbw1:=hbw.trans (hb1.mono hbw.size)
 obtain ⟨wI,hwI⟩ : ∃ wI,wI=w1.alloc (Obj.cells #[.string s1,.string s2,.slice none 0 0,.slice none 0 0] 33):=⟨_,rfl⟩
 have hbI:Below w1.heap.size w1 wI:=by rw [hwI];exact alloc_below _ _
 have hxI:wI.heap[w1.heap.size]?=some (profO s (.slice none 0 0) (.slice none 0 0)):=by rw [HS2.out,hwI];exact World.alloc_heap_new _ _
 have hsI:w1.heap.size<wI.heap.size:=lt_of_some hxI
 have hsA:=HSA.out
 have hPI:wI.heap[w.heap.size]?=some (.cells #[.int .i8 a,.int .i8 b,.slice p D0.length c] 26 (0,0)):=(hbI.block _ (by omega)).trans ((hb1.block _ (by omega)).trans HPA.out)
 have hRI:wI.heap[w.heap.size+1]?=some (.cells #[.string ⟨#[]⟩,.string ⟨#[]⟩,.slice none 0 0,.slice none 0 0] 33 (0,0)):=(hbI.block _ (by omega)).trans ((hb1.block _ (by omega)).trans HRA.out)
 have hbwI:=hbw1.trans (hbI.mono hbw1.size)
 have hst:MkInv wI w1.heap.size s (fD D0) (gD D0) 0 0 (.slice none 0 0) (.slice none 0 0) wI:=⟨Below.refl _ _,hxI,World.ownsRow_nil _ _ _ _,World.ownsRow_nil _ _ _ _,.inl rfl⟩
 have HST:=hid hst
 have HPI:=hid hPI
 have HRI:=hid hRI
 have HWI:=hid hwI
 have HBI:=hid hbwI
 have HSI:=hid hsI
 clear c0 c1 hst hPI hRI hwI hbI hxI hsI hsA
 go_wp2_with fail
 rw [←HWI.out]
 go_loopw [4,5,6] (fun iv _ _ wr=>∃ (k:Nat) (vd vl:Value),iv=.int .i64 (k:Int)∧k≤D0.length∧MkInv wI w1.heap.size s (fD D0) (gD D0) k k vd vl wr) (fun iv _ _ _=>D0.length-(intOf iv).toNat)
 case atStart=>exact ⟨0,_,_,rfl,Nat.zero_le _,HST.out⟩
 case round =>
  obtain ⟨k,vd,vl,rfl,hk,hinv⟩:=hrel
  have hsI:=HSI.out
  have HI:=hid hinv
  have hlo:=hinv.low
  have hws:=hbwI.size
  have hbwr:Below w.heap.size w wr:=hbwI.trans (hlo.mono (by have:=hbw1.size;omega))
  have hgr:=hw.below hbwr
  have hPr:=(hlo.block w.heap.size (by have:=hs1;have:=HSA.out;omega)).trans HPI.out
  have p2:wr.cell? ⟨w.heap.size,2,none⟩=some (.slice p D0.length c):=by simp [World.cell?,hPr]
  have hlp:=lt_of_some hPr
  by_cases hkl:k<D0.length
  ·obtain ⟨b0,off,rfl,hbl,hcell⟩:=hxx (by omega)
   obtain ⟨okd,c0,c1⟩:=hcell k hkl
   have C1:=hid c1
   rw [←hbwr.cell (p:=⟨b0,off+k*2,none⟩) hbl] at c0
   rw [←hbwr.cell (p:=⟨b0,off+k*2+1,none⟩) hbl] at c1
   have hblr:b0<wr.heap.size:=Nat.lt_of_lt_of_le hbl hbwr.size
   have hkn:decide ((k:Int)<(D0.length:Int))=true:=decide_eq_true (by omega)
   have hk4:decide ((k:Int)<4)=true:=decide_eq_true (by omega)
   have i1:(0:Int)≤(k:Int):=by omega
   have i2:(k:Int)<(D0.length:Int):=by omega
   unfold okDuo at okd
   have HFD:=hid (show fD D0 k=Rat.divInt (D0[k].1.tmod 6) 6 by unfold fD;rw [getD_eq hkl];rfl)
   have HGD:=hid (show gD D0 k=((1+(max D0[k].2 (-D0[k].2)).tmod 6:Int):Rat) by unfold gD;rw [getD_eq hkl];rfl)
   have t6:=tmod_lt6 D0[k].1
   have HOF:=hid (fun W' (hg:Good W')=>rat_Of (D0[k].1.tmod 6) 6 (by omega) (by omega) (by decide) (by decide) (by decide) W' hg)
   have t7:=Int.tmod_lt_of_pos (max D0[k].2 (-D0[k].2)) (show (0:Int)<6 by decide)
   have t8:=Int.tmod_nonneg 6 (show 0≤max D0[k].2 (-D0[k].2) by omega)
   have HWH:=hid (fun W' (hg:Good W')=>rat_Whole (1+(max D0[k].2 (-D0[k].2)).tmod 6) (by omega) (by omega) W' hg)
   unfold RV at HOF HWH
   rw [←HFD.out] at HOF
   rw [←HGD.out] at HWH
   have m1:IntKind.i64.wrap D0[k].1=D0[k].1:=IntWalk.i64_in _ (by omega)
   have m2:IntKind.i64.wrap D0[k].2=D0[k].2:=IntWalk.i64_in _ (by omega)
   have m3:IntKind.i64.wrap (-D0[k].2) = -D0[k].2:=IntWalk.i64_in _ (by omega)
   have m4:IntKind.i64.wrap (D0[k].1.tmod 6)=D0[k].1.tmod 6:=IntWalk.i64_in _ (by omega)
   have m5:IntKind.i64.wrap ((max D0[k].2 (-D0[k].2)).tmod 6)=(max D0[k].2 (-D0[k].2)).tmod 6:=IntWalk.i64_in _ (by omega)
   have m6:IntKind.i64.wrap (1+(max D0[k].2 (-D0[k].2)).tmod 6)=1+(max D0[k].2 (-D0[k].2)).tmod 6:=IntWalk.i64_in _ (by omega)
   obtain ⟨i0,hi,hz0,hz1,hz2⟩:=info_parts slTx.info
   clear hcell hxx hinv
   generalize D0[k].1=dd at *
   generalize D0[k].2=ll at *
   go_wp2_with fail
   refine (HOF.out _ hgr).mono ?_
   rintro e wq ⟨rfl,hbq⟩
   have hIq:=HI.out.below hbq hsI
   have HIQ:=hid hIq
   have hB:=hIq.box
   unfold profO at hB
   obtain ⟨z0,z1,z2,z3⟩:=four_cells hB
   clear hB hIq
   have hlq:=hbq.size
   have hlI:=hlo.size
   have c1q:=(hbq.cell (p:=⟨b0,off+k*2+1,none⟩) hblr).trans c1
   have p2q:=(hbq.cell (p:=⟨w.heap.size,2,none⟩) hlp).trans p2
   clear c0 c1 p2
   go_wp2_with (at_builtin;refine wpList_append_two _ rfl (.tmp 43) (.tmp 45) 31 rfl (w1.heap.size+1) 28 i0 (.string ⟨#[]⟩) 1 16 slTx.ht hi hz0 hz1 hz2 slTx.hzs slTx.hsz _ _ _ rfl (HIQ.out.rd.alloc _) ⟨wq.heap.size,0,none⟩ 1 1 [.string (tx (fD D0 k))] rfl rfl (cell_one_new _ _ _) (by simp [Value.oneCell']) (by unfold maxLen;omega) (by omega) (by simp;omega) ?_;intro v' w5 hown5 hgrow5 hvb5;obtain ⟨g5,c5,rfl⟩:=ownsRow_succ hown5;have hB5:=(HIQ.out.below (alloc_below wq (Obj.cells #[.string (tx (fD D0 k))] 28)) hsI).boxD hgrow5;unfold profO at hB5;obtain ⟨y0,y1,y2,y3⟩:=four_cells hB5;obtain ⟨x0,x1,x2,x3⟩:=four_free hB5)
   clear y0 y1 y2 y3 x0 x1 x2 x3 z0 z1 z2 z3 c1q p2q hB5
   obtain ⟨wz,hwz⟩ : ∃ wz,wz=w5.setCell ⟨w1.heap.size,2,none⟩ (.slice (some ⟨g5,0,none⟩) (k+1) c5):=⟨_,rfl⟩
   have HZ:=hid (show MkInv wI w1.heap.size s (fD D0) (gD D0) (k+1) k (.slice (some ⟨g5,0,none⟩) (k+1) c5) vl wz from hwz ▸ (HIQ.out.below (alloc_below wq _) hsI).dip hgrow5 hown5 hvb5 hsI)
   rw [←hwz]
   clear hwz hown5 hgrow5 hvb5
   have hlz:=HZ.out.low
   have hlzs:=hlz.size
   have hbwz:Below w.heap.size w wz:=hbwI.trans (hlz.mono (by have:=hbw1.size;omega))
   have hgz:=hw.below hbwz
   have hPz:=(hlz.block w.heap.size (by have:=hs1;have:=HSA.out;omega)).trans HPI.out
   have p2:wz.cell? ⟨w.heap.size,2,none⟩=some (.slice (some ⟨b0,off,none⟩) D0.length c):=by simp [World.cell?,hPz]
   have c1:=(hbwz.cell (p:=⟨b0,off+k*2+1,none⟩) hbl).trans C1.out
   have hBz:=HZ.out.box
   unfold profO at hBz
   obtain ⟨_,_,_,z3⟩:=four_cells hBz
   have hn1:w.heap.size<w1.heap.size+1:=by have:=hs1;have:=HSA.out;omega
   have hn2:b0<w1.heap.size+1:=by omega
   clear hPz hBz
   refine wp_held_list (fun W'=>Below (w1.heap.size+1) wz W') [0,1,2,3,4,5,6,7,8,9,10,11,12,13,14,15,16,17,18,19] [20,21,22] 23 (by kernel_rfl) (by kernel_rfl) ⟨rfl,rfl,rfl,Nat.le_refl _,fun _ _=>rfl⟩ ?_
   iterate 20
    refine wpTakeL_step rfl ?_ rfl ?_ ?_
    rotate_left
    ·intro W' hS'
     have q0:=(hS'.cell (p:=⟨w1.heap.size,3,none⟩) (Nat.lt_succ_self _)).trans z3
     have q1:=(hS'.cell (p:=⟨w.heap.size,2,none⟩) hn1).trans p2
     have q2:=(hS'.cell (p:=⟨b0,off+k*2+1,none⟩) hn2).trans c1
     go_simp
     try with_reducible rfl
    try simp only [zA,zB,zC,Act.put,zD,zE,zF]
   have hH0:Below wz.heap.size wz wz.drew:=⟨rfl,rfl,rfl,Nat.le_refl _,fun _ _=>rfl⟩
   have hBs:w1.heap.size+1≤wz.heap.size:=by omega
   clear p2 c1 z3
   refine wpKeepL_step rfl rfl (fun K hK=>?_)
   go_simp
   refine (HWH.out _ (hgz.below hH0)).mono ?_
   rintro e v1 ⟨rfl,hv1⟩
   have hH1:=hH0.trans (hv1.mono hH0.size)
   refine hK _ _ ⟨hH1.mono hBs,?_⟩
   clear hK K
   try simp only [zA,zB,zC,Act.put,zD,zE,zF]
   refine wpKeepL_step rfl rfl (fun K hK=>?_)
   go_simp
   have hH2:=hH1.trans ((alloc_below v1 (Obj.cells #[.string (tx (gD D0 k))] 28)).mono hH1.size)
   refine hK _ _ ⟨hH2.mono hBs,?_⟩
   clear hK K
   try simp only [zA,zB,zC,Act.put,zD,zE,zF]
   have HV2:=hid (HZ.out.below hH2 hsI)
   refine wpKeepL_step rfl rfl (fun K hK=>?_)
   refine wp_append_two _ (.tmp 49) (.tmp 69) 31 rfl (w1.heap.size+1) 28 i0 (.string ⟨#[]⟩) 1 16 slTx.ht hi hz0 hz1 hz2 slTx.hzs slTx.hsz _ _ _ rfl HV2.out.rl ⟨v1.heap.size,0,none⟩ 1 1 [.string (tx (gD D0 k))] rfl rfl (cell_one_new _ _ _) (by simp [Value.oneCell']) (by unfold maxLen;omega) (by omega) (by simp;have:=hH1.size;omega) ?_
   intro v9 w9 hown9 hgrow9 hvb9
   obtain ⟨g9,c9,rfl⟩:=ownsRow_succ hown9
   have HFIN:=hid (HV2.out.len hgrow9 hown9 hvb9 hsI)
   have hB9:=HV2.out.boxL hgrow9
   unfold profO at hB9
   obtain ⟨y0,y1,y2,y3⟩:=four_cells hB9
   obtain ⟨x0,x1,x2,x3⟩:=four_free hB9
   have hS9:Below (w1.heap.size+1) wz w9:=(hH2.mono hBs).grown hgrow9 (by simp;have:=hH1.size;omega) (fun g hg=>(HV2.out.rl.lt g hg).1)
   clear hown9 hgrow9 hvb9 hB9
   refine hK _ _ ⟨hS9,?_⟩
   clear hK K
   try simp only [zA,zB,zC,Act.put,zD,zE,zF]
   unfold wpKeepL
   simp only [List.drop_succ_cons,List.drop_zero]
   try simp only [zA,zB,zC,Act.put,zD,zE,zF]
   refine wpKeep_step rfl (fun K hK=>?_)
   go_simp
   refine hK _ _ ⟨trivial,?_⟩
   clear hK K
   try simp only [zA,zB,zC,Act.put,zD,zE,zF]
   refine wpKeep_step rfl (fun K hK=>?_)
   go_simp
   refine hK _ _ ⟨trivial,wpKeep_nil ?_⟩
   clear hK K
   try simp only [zA,zB,zC,Act.put,zD,zE,zF]
   refine NormalOnly.mk ?_
   go_wp2
   refine ⟨⟨k+1,_,_,int_succ k,hkl,HFIN.out⟩,?_⟩
   show D0.length-((k:Int)+1).toNat<D0.length-((k:Int)).toNat
   omega
  ·obtain rfl:k=D0.length:=by omega
   have hkn:decide ((D0.length:Int)<(D0.length:Int))=false:=decide_eq_false (by omega)
   have hRr:=(hlo.block (w.heap.size+1) (by have:=hs1;have:=HSA.out;omega)).trans HRI.out
   obtain ⟨r0,r1,r2,r3⟩:=four_cells hRr
   obtain ⟨f0,f1,f2,f3⟩:=four_free hRr
   have hBr:=hinv.box
   unfold profO at hBr
   obtain ⟨z0,z1,z2,z3⟩:=four_cells hBr
   have hne:w.heap.size+1≠w1.heap.size:=by have:=hs1;have:=HSA.out;omega
   clear hPr hRr hBr
   have hpv:=HS.out
   by_cases h0:D0.length=0
   ·have hrd:=HI.out.rd
    have hrl:=HI.out.rl
    rw [h0] at hrd hrl
    obtain ⟨pd,cd,rfl⟩ : ∃ pd cd,vd=.slice pd 0 cd:=by
     rcases hrd.2 with ⟨rfl,_⟩ | ⟨g,cap,cur,rfl,_⟩
     ·exact ⟨_,_,rfl⟩
     ·exact ⟨_,_,rfl⟩
    have hwrs:w1.heap.size<wr.heap.size:=by have:=hlo.size;omega
    have hne2:w.heap.size+1≠w1.heap.size:=by have:=hs1;have:=HSA.out;omega
    have hn1:w.heap.size+1<wr.heap.size:=by have:=hs1;have:=HSA.out;omega
    have hBr:=hinv.box
    unfold profO at hBr
    obtain ⟨t0,t1,t2,t3⟩:=four_free hBr
    have HBR:=hid hBr
    have HRR:=hid ((hlo.block (w.heap.size+1) (by have:=hs1;have:=HSA.out;omega)).trans HRI.out)
    have HPD:=hid (show planD D0=[(0,1)] by unfold planD;rw [if_pos h0])
    clear hrd hrl hBr r0 r1 r2 r3 f0 f1 f2 f3
    go_upto_region 10 with fail
    obtain ⟨wG,hwG⟩ : ∃ wG,wG=(wr.setCell ⟨w1.heap.size,2,none⟩ (.slice (some ⟨wr.heap.size,0,none⟩) 1 1)).setCell ⟨w1.heap.size,3,none⟩ (.slice (some ⟨wr.heap.size+1,0,none⟩) 1 1):=⟨_,rfl⟩
    obtain ⟨wV,hwV⟩ : ∃ wV,wV=(wG.alloc (Obj.cells #[.string ⟨#[48]⟩] 28)).alloc (Obj.cells #[.string ⟨#[49]⟩] 28):=⟨_,rfl⟩
    rw [←hwG,←hwV]
    have hsG:wG.heap.size=wr.heap.size:=by rw [hwG];simp
    have hbV:Below wG.heap.size wG wV:=by rw [hwV];exact (alloc_below _ _).trans ((alloc_below _ _).mono (by simp))
    have hBG:wG.heap[w1.heap.size]?=some (.cells #[.string (tx s.1),.string (tx s.2),.slice (some ⟨wr.heap.size,0,none⟩) 1 1,.slice (some ⟨wr.heap.size+1,0,none⟩) 1 1] 33 (0,0)):=by
     rw [hwG]
     have:=set_block (i:=3) (.slice (some ⟨wr.heap.size+1,0,none⟩) 1 1) (set_block (i:=2) (.slice (some ⟨wr.heap.size,0,none⟩) 1 1) HBR.out)
     exact this
    have hRG:wG.heap[w.heap.size+1]?=some (.cells #[.string ⟨#[]⟩,.string ⟨#[]⟩,.slice none 0 0,.slice none 0 0] 33 (0,0)):=by
     rw [hwG,Below.heap_setCell _ (⟨w1.heap.size,3,none⟩ : Addr) _ _ hne2,Below.heap_setCell _ (⟨w1.heap.size,2,none⟩ : Addr) _ _ hne2]
     exact HRR.out
    have hBV:=(hbV.block _ (by omega)).trans hBG
    have hRV:=(hbV.block _ (by omega)).trans hRG
    have hU0:wV.heap[wr.heap.size]?=some (.cells #[.string (tx 0)] 28 (0,0)):=by
     rw [hwV,tx0,←hsG]
     refine ((alloc_below _ _).block _ (by simp)).trans ?_
     exact World.alloc_heap_new _ _
    have hU1:wV.heap[wr.heap.size+1]?=some (.cells #[.string (tx 1)] 28 (0,0)):=by
     rw [hwV,tx1,←hsG]
     have:=World.alloc_heap_new (wG.alloc (Obj.cells #[.string ⟨#[48]⟩] 28)) (Obj.cells #[.string ⟨#[49]⟩] 28)
     rwa [World.size_alloc] at this
    have hbG:Below w.heap.size w wG:=hbwr.trans (by rw [hwG];exact ((Below.refl _ wr).setCell (p:=⟨w1.heap.size,2,none⟩) (by show w.heap.size≤_;have:=hbw1.size;omega) _).setCell (p:=⟨w1.heap.size,3,none⟩) (by show w.heap.size≤_;have:=hbw1.size;omega) _)
    have hbV0:=hbG.trans (hbV.mono hbG.size)
    obtain ⟨wF,hwF⟩ : ∃ wF,wF=(((wV.setCell ⟨w.heap.size+1,0,none⟩ (.string (tx s.1))).setCell ⟨w.heap.size+1,1,none⟩ (.string (tx s.2))).setCell ⟨w.heap.size+1,2,none⟩ (.slice (some ⟨wr.heap.size,0,none⟩) 1 1)).setCell ⟨w.heap.size+1,3,none⟩ (.slice (some ⟨wr.heap.size+1,0,none⟩) 1 1):=⟨_,rfl⟩
    obtain ⟨hF,hFo,hFb⟩:=four_set hRV hwF
    have HF:=hid hF
    have HT0:=hid (txs_one 0 ((hFo _ (by omega)).trans hU0))
    have HT1:=hid (txs_one 1 ((hFo _ (by omega)).trans hU1))
    have HFB:=hid (hbV0.trans (hFb _ (Nat.le_succ _)))
    have HFW:=hid hwF
    clear z0 z1 z2 z3 t0 t1 t2 t3
    obtain ⟨z0,z1,z2,z3⟩:=four_cells hBV
    obtain ⟨r0,r1,r2,r3⟩:=four_cells hRV
    obtain ⟨f0,f1,f2,f3⟩:=four_free hRV
    clear hwG hwV hsG hbV hBG hRG hBV hRV hU0 hU1 hbG hbV0 hwF hF hFo hFb
    go_wp2_with fail
    rw [←HFW.out]
    have q:=HF.out
    obtain ⟨q0,q1,q2,q3⟩:=four_cells q
    refine bodyPost_ret (v:=.agg #[.string (tx s.1),.string (tx s.2),.slice (some ⟨wr.heap.size,0,none⟩) 1 1,.slice (some ⟨wr.heap.size+1,0,none⟩) 1 1]) (by simp [results,Tryz.results5,go_sem,q0,q1,q2,q3]) rfl ⟨_,_,rfl,?_,?_,HFB.out⟩
    ·rw [HPD.out];exact HT0.out
    ·rw [HPD.out];exact HT1.out
   ·have HX:=hid (⟨range_fD D0 h0,range_gD D0 h0⟩ : _∧_)
    obtain ⟨m,hm⟩ : ∃ m,D0.length=m+1:=⟨D0.length-1,by omega⟩
    have hrd:=HI.out.rd
    have hrl:=HI.out.rl
    rw [hm] at hrd hrl
    obtain ⟨gd,cd,rfl⟩:=ownsRow_succ hrd
    obtain ⟨gl,cl,rfl⟩:=ownsRow_succ hrl
    have HTD:=hid (txs_of_row hrd)
    have HTL:=hid (txs_of_row hrl)
    rw [←hm] at HTD HTL
    obtain ⟨hx1,hx2⟩:=HX.out
    rw [hx1] at HTD
    rw [hx2] at HTL
    obtain ⟨wF,hwF⟩ : ∃ wF,wF=(((wr.setCell ⟨w.heap.size+1,0,none⟩ (.string (tx s.1))).setCell ⟨w.heap.size+1,1,none⟩ (.string (tx s.2))).setCell ⟨w.heap.size+1,2,none⟩ (.slice (some ⟨gd,0,none⟩) (m+1) cd)).setCell ⟨w.heap.size+1,3,none⟩ (.slice (some ⟨gl,0,none⟩) (m+1) cl):=⟨_,rfl⟩
    have hRr:=(hlo.block (w.heap.size+1) (by have:=hs1;have:=HSA.out;omega)).trans HRI.out
    obtain ⟨hF,hFo,hFb⟩:=four_set hRr hwF
    have HF:=hid hF
    have HFB:=hid (hbwr.trans (hFb _ (Nat.le_succ _)))
    have HFW:=hid hwF
    have hgd:w.heap.size+1<gd:=by
     have:=(hrd.lt gd rfl).1;have:=hs1;have:=HSA.out;omega
    have hgl:w.heap.size+1<gl:=by
     have:=(hrl.lt gl rfl).1;have:=hs1;have:=HSA.out;omega
    have HFX:=hid (fun g (hg:w.heap.size+1<g) i=>show wF.cell? ⟨g,i,none⟩=wr.cell? ⟨g,i,none⟩ from World.cell?_of_block (hFo g (by omega)))
    have HFS:=hid (show wr.heap.size≤wF.heap.size by rw [hwF];simp)
    have hm0:((m:Int)+1 == 0)=false:=beq_eq_false_iff_ne.2 (by omega)
    have HM:=hid hm
    clear hwF hF hFo hFb hrd hrl hx1 hx2 hRr hm
    go_wp2_with fail
    rw [←HFW.out]
    have q:=HF.out
    obtain ⟨q0,q1,q2,q3⟩:=four_cells q
    refine bodyPost_ret (v:=.agg #[.string (tx s.1),.string (tx s.2),.slice (some ⟨gd,0,none⟩) (m+1) cd,.slice (some ⟨gl,0,none⟩) (m+1) cl]) (by simp [results,Tryz.results5,go_sem,q0,q1,q2,q3]) rfl ⟨_,_,rfl,?_,?_,HFB.out⟩
    ·rw [←HM.out]
     exact txs_moved HTD.out rfl HFS.out (HFX.out _ hgd)
    ·rw [←HM.out]
     exact txs_moved HTL.out rfl HFS.out (HFX.out _ hgl)
end Go.Proofs.YtogdahbbogimcaaGreatDoor
