import Derived.Test.YtgohnjdgoglcfaaGreatDoorV4Z
import Derived.Test.YtgohnjdgoglcfaaGreatDoorV2Z
namespace Go.Proofs.YtgohnjdgoglcfaaGreatDoor
open Go.RowKit Go.Shelf
open Go.Lib (decDigits itoa nDigits)
def sm (n d:Int):Rat:=Rat.divInt n (1+d)
def okSm (n d:Int):Prop:=-32768≤n∧n≤32767∧0≤d∧d≤255
theorem sm_small {n d:Int} (h:okSm n d):(sm n d).num.natAbs≤32768∧(sm n d).den≤256:=by
 obtain ⟨h1,h2,h3,h4⟩:=h
 unfold sm
 rw [show (1+d:Int)=((1+d).toNat:Int) by omega,Rat.divInt_ofNat]
 obtain ⟨a,b⟩:=mkRat_le n (1+d).toNat (by omega)
 exact ⟨by omega,by omega⟩
structure Plc where
 a:Int
 b:Int
 c:Int
 d:Int
 e:Int
 f:Int
def okPlc (x:Plc):Prop:=okSm x.a x.b∧okSm x.c x.d∧okSm x.e x.f
def plcC (x:Plc):Array Value:=#[.int .i16 x.a,.int .u8 x.b,.int .i16 x.c,.int .u8 x.d,.int .i16 x.e,.int .u8 x.f]
def pq (x:Plc):QP:=(sm x.a x.b,sm x.c x.d)
def Dft (w:World) (v:Value) (D:List Plc):Prop:=
 ∃ p c,v=.slice p D.length c∧D.length≤c∧c≤maxLen∧(0<D.length→∃ b off,p=some ⟨b,off,none⟩∧b<w.heap.size∧∀ i (h:i<D.length),okPlc D[i]∧∀ j (hj:j<6),w.cell? ⟨b,off+i*6+j,none⟩=some ((plcC D[i])[j]'hj))
theorem Dft.below {w w':World} {v:Value} {D:List Plc} (h:Dft w v D) (hb:Below w.heap.size w w'):Dft w' v D:=by
 obtain ⟨p,c,h1,h2,h3,h4⟩:=h
 refine ⟨p,c,h1,h2,h3,fun h0=>?_⟩
 obtain ⟨b,off,e1,e2,e3⟩:=h4 h0
 exact ⟨b,off,e1,Nat.lt_of_lt_of_le e2 hb.size,fun i hi=>⟨(e3 i hi).1,fun j hj=>(hb.cell (p:=⟨b,off+i*6+j,none⟩) e2).trans ((e3 i hi).2 j hj)⟩⟩
def ptsD (D:List Plc):List QP:=(D.take 8).map pq
def dptsTo (D:List Plc) (k:Nat):List QP:=(D.take k).map pq
theorem dptsTo_succ {D:List Plc} {k:Nat} (hk:k<D.length):dptsTo D (k+1)=dptsTo D k ++ [pq D[k]]:=by
 unfold dptsTo
 rw [List.take_succ_eq_append_getElem hk,List.map_append]
 rfl
theorem dptsTo_len {D:List Plc} {k:Nat} (hk:k≤D.length):(dptsTo D k).length=k:=by unfold dptsTo;simp;omega
theorem dptsTo_all {D:List Plc} {k:Nat} (hk:k≤D.length) (h8:k≤8) (h:¬ (k<D.length∧k<8)):dptsTo D k=ptsD D:=by
 unfold dptsTo ptsD
 rcases Nat.lt_or_ge k 8 with h1 | h1
 ·have:k=D.length:=by omega
  rw [List.take_of_length_le (by omega),List.take_of_length_le (by omega)]
 ·rw [show k=8 by omega]
def SmV (n d:Int):Value:=.agg #[.int .i16 n,.int .u8 d]
set_option maxRecDepth 100000 in
set_option maxHeartbeats 8000000 in
theorem law02_make (n d:Int) (h:okSm n d) (w:World) (hw:Good w):Calls Tryz.prog 30 #[SmV n d] w (RV (.string (tx (sm n d))) w):=by
 obtain ⟨h1,h2,h3,h4⟩:=h
 have HO:=Lib.hid (fun w' (hg:Good w')=>r_of n (1+d) (by omega) (by omega) (by omega) w' hg)
 rw [show Rat.divInt n (1+d)=sm n d from rfl] at HO
 unfold RV at HO
 generalize tx (sm n d)=r at *
 obtain ⟨wA,hwA⟩ : ∃ wA,wA=w.alloc (Obj.cells #[.int .i16 n,.int .u8 d] 55):=⟨_,rfl⟩
 have HWA:=Lib.hid hwA
 obtain ⟨hbA,hx⟩:=box_any hwA
 clear hwA
 unfold SmV
 have c0:=blk_cell (i:=0) hx rfl
 have c1:=blk_cell (i:=1) hx rfl
 have k1:IntKind.i64.wrap (1+d)=1+d:=IntWalk.i64_in _ (by omega)
 have k2:IntKind.i64.wrap n=n:=IntWalk.i64_in _ (by omega)
 have k3:IntKind.i64.wrap d=d:=IntWalk.i64_in _ (by omega)
 clear hx
 go_enter Tryz.func30,Tryz.ntmps30
 go_upto_region 1 with fail
 rw [←HWA.out]
 go_wp2_with fail
 refine (HO.out _ (hw.below hbA)).mono ?_
 rintro e w1 ⟨rfl,hb1⟩
 go_wp2
 go_ret
 exact ⟨rfl,hbA.trans (hb1.mono hbA.size)⟩
set_option maxRecDepth 100000 in
set_option maxHeartbeats 8000000 in
theorem law05_point (x:Plc) (hx:okPlc x) (w:World) (hw:Good w):Calls Tryz.prog 111 #[.agg (plcC x)] w (RV (ptV (pq x)) w):=by
 have H1:=Lib.hid (fun w' (hg:Good w')=>law02_make x.a x.b hx.1 w' hg)
 have H2:=Lib.hid (fun w' (hg:Good w')=>law02_make x.c x.d hx.2.1 w' hg)
 unfold RV SmV at H1 H2
 show Calls Tryz.prog 111 #[.agg #[.int .i16 x.a,.int .u8 x.b,.int .i16 x.c,.int .u8 x.d,.int .i16 x.e,.int .u8 x.f]] w (RV (.agg #[.string (tx (sm x.a x.b)),.string (tx (sm x.c x.d))]) w)
 clear hx
 generalize tx (sm x.a x.b)=r at *
 generalize tx (sm x.c x.d)=s at *
 obtain ⟨xa,xb,xc,xd,xe,xf⟩:=x
 dsimp only at *
 obtain ⟨wA,hwA⟩ : ∃ wA,wA=w.alloc (Obj.cells #[.int .i16 xa,.int .u8 xb,.int .i16 xc,.int .u8 xd,.int .i16 xe,.int .u8 xf] 84):=⟨_,rfl⟩
 obtain ⟨wB,hwB⟩ : ∃ wB,wB=wA.alloc (Obj.cells #[.string ⟨#[]⟩,.string ⟨#[]⟩] 31):=⟨_,rfl⟩
 obtain ⟨hbA,hxA⟩:=box_any hwA
 obtain ⟨hbAB,hxB⟩:=box_any hwB
 have hbB:=hbA.trans (hbAB.mono hbA.size)
 have hxA2:=(hbAB.block _ (lt_of_blk hxA)).trans hxA
 have l1:=lt_of_blk hxA2
 have sA:wA.heap.size=w.heap.size+1:=by rw [hwA];simp
 rw [hwA] at hwB
 have HWB:=Lib.hid hwB
 rw [sA] at hxB
 have X3:=Lib.hid hxB
 have c0:=blk_cell (i:=0) hxA2 rfl
 have c1:=blk_cell (i:=1) hxA2 rfl
 have c2:=blk_cell (i:=2) hxA2 rfl
 have c3:=blk_cell (i:=3) hxA2 rfl
 clear hxA hxA2 hxB hwA hwB hbAB hbA sA
 go_enter Tryz.func111,Tryz.ntmps111
 go_wp2_with fail
 rw [←HWB.out]
 refine wp_held_list (fun W'=>Below wB.heap.size wB W') [0,1,3,4] [2,5] 6 (by kernel_rfl) (by kernel_rfl) ⟨rfl,rfl,rfl,Nat.le_refl _,fun _ _=>rfl⟩ ?_
 iterate 4
  refine wpTakeL_step rfl ?_ rfl ?_ ?_
  rotate_left
  ·intro W' hS'
   have s0:=(hS'.cell (p:=⟨w.heap.size,0,none⟩) l1).trans c0
   have s1:=(hS'.cell (p:=⟨w.heap.size,1,none⟩) l1).trans c1
   have s2:=(hS'.cell (p:=⟨w.heap.size,2,none⟩) l1).trans c2
   have s3:=(hS'.cell (p:=⟨w.heap.size,3,none⟩) l1).trans c3
   go_simp
   try with_reducible rfl
  try simp only [zA,zB,zC,Act.put,zD,zE,zF]
 have hR0:Below wB.heap.size wB wB.drew:=⟨rfl,rfl,rfl,Nat.le_refl _,fun _ _=>rfl⟩
 refine wpKeepL_step rfl rfl (fun K hK=>?_)
 go_simp
 refine (H1.out _ (hw.below (hbB.trans (hR0.mono hbB.size)))).mono ?_
 rintro e u1 ⟨rfl,hbu1⟩
 have hR1:=hR0.trans (hbu1.mono hR0.size)
 refine hK _ _ ⟨hR1,?_⟩
 clear hK K
 try simp only [zA,zB,zC,Act.put,zD,zE,zF]
 refine wpKeepL_step rfl rfl (fun K hK=>?_)
 go_simp
 refine (H2.out _ (hw.below (hbB.trans (hR1.mono hbB.size)))).mono ?_
 rintro e u2 ⟨rfl,hbu2⟩
 have hR2:=hR1.trans (hbu2.mono hR1.size)
 refine hK _ _ ⟨hR2,?_⟩
 clear hK K
 try simp only [zA,zB,zC,Act.put,zD,zE,zF]
 have X4:=Lib.hid ((hR2.block _ (lt_of_blk X3.out)).trans X3.out)
 have hbZ:=hbB.trans (hR2.mono hbB.size)
 have hp3:=X4.out
 obtain ⟨_,_,_,_⟩:=two_cells hp3
 have hpz:=two_set1 (.string s) (two_set0 (.string r) hp3)
 obtain ⟨q0,q1,_,_⟩:=two_cells hpz
 have Q0:=Lib.hid q0
 have Q1:=Lib.hid q1
 clear hpz hp3 q0 q1
 unfold wpKeepL
 simp only [List.drop_succ_cons,List.drop_zero]
 try simp only [zA,zB,zC,Act.put,zD,zE,zF]
 refine wpKeep_step rfl (fun K hK=>?_)
 go_simp
 refine hK _ _ ⟨trivial,?_⟩
 clear hK K
 try simp only [zA,zB,zC,Act.put,zD,zE,zF]
 refine wpKeep_step rfl (fun K hK=>?_)
 go_simp
 refine hK _ _ ⟨trivial,wpKeep_nil ?_⟩
 clear hK K
 try simp only [zA,zB,zC,Act.put,zD,zE,zF]
 refine NormalOnly.mk ?_
 go_wp2
 have q0:=Q0.out
 have q1:=Q1.out
 refine bodyPost_ret (v:=.agg #[.string r,.string s]) (by simp [results,Tryz.results111,go_sem,q0,q1]) rfl ⟨rfl,?_⟩
 exact (hbZ.setCell (p:=⟨w.heap.size+1,0,none⟩) (by simp <;> omega) _).setCell (p:=⟨w.heap.size+1,1,none⟩) (by simp <;> omega) _
set_option maxRecDepth 100000 in
set_option maxHeartbeats 8000000 in
theorem law_points (v:Value) (D:List Plc) (w:World) (hw:Good w) (hv:Dft w v D):Calls Tryz.prog 64 #[v] w (ListPost (ptsD D) w):=by
 obtain ⟨p,c,rfl,hcl,hcm,hblk⟩:=hv
 unfold maxLen at hcm
 have HC:Hid (∀ k (hk:k<D.length),∃ b off,p=some ⟨b,off,none⟩∧b<w.heap.size∧okPlc D[k]∧∀ j (hj:j<6),w.cell? ⟨b,off+k*6+j,none⟩=some ((plcC D[k])[j]'hj)):=Lib.hid fun k hk=>by
  obtain ⟨b,off,h1,h2,h3⟩:=hblk (by omega)
  exact ⟨b,off,h1,h2,h3 k hk⟩
 clear hblk
 have hown0:w.ownsRow w.heap.size 31 2 (.slice none 0 0) 0 (cellsS ((dptsTo D 0).map textP)):=⟨rfl,.inl ⟨rfl,rfl⟩⟩
 have HO0:=Lib.hid hown0
 clear hown0
 go_enter Tryz.func64,Tryz.ntmps64
 go_wp2_with fail
 go_loopw [3,4] (fun ov iv wr=>∃ k:Nat,iv=.int .i64 (k:Int)∧k≤D.length∧k≤8∧wr.ownsRow w.heap.size 31 2 ov k (cellsS ((dptsTo D k).map textP))∧Below w.heap.size w wr) (fun _ iv _=>D.length-(intOf iv).toNat)
 case atStart=>exact ⟨0,rfl,Nat.zero_le _,Nat.zero_le _,HO0.out,Below.refl _ _⟩
 case round =>
  obtain ⟨k,rfl,hkl,h8,hown,hbr⟩:=hrel
  have HO:=Lib.hid hown
  by_cases hk:k<D.length∧k<8
  ·obtain ⟨hk,hk8⟩:=hk
   obtain ⟨b,off,rfl,hbl,hok,hcell⟩:=HC.out k hk
   have c0:=(hbr.cell (p:=⟨b,off+k*6+0,none⟩) hbl).trans (hcell 0 (by decide))
   have c1:=(hbr.cell (p:=⟨b,off+k*6+1,none⟩) hbl).trans (hcell 1 (by decide))
   have c2:=(hbr.cell (p:=⟨b,off+k*6+2,none⟩) hbl).trans (hcell 2 (by decide))
   have c3:=(hbr.cell (p:=⟨b,off+k*6+3,none⟩) hbl).trans (hcell 3 (by decide))
   have c4:=(hbr.cell (p:=⟨b,off+k*6+4,none⟩) hbl).trans (hcell 4 (by decide))
   have c5:=(hbr.cell (p:=⟨b,off+k*6+5,none⟩) hbl).trans (hcell 5 (by decide))
   have H1:=Lib.hid (fun w' (hg:Good w')=>law05_point D[k] hok w' hg)
   have HS:=Lib.hid (dptsTo_succ hk)
   have HLEN:=Lib.hid (dptsTo_len (Nat.le_of_lt hk))
   unfold RV ptV at H1
   unfold plcC at c0 c1 c2 c3 c4 c5 H1
   rw [Nat.add_zero] at c0
   generalize pq D[k]=z at *
   generalize D[k]=x at *
   obtain ⟨xa,xb,xc,xd,xe,xf⟩:=x
   clear hcell hok hown
   simp only [List.getElem_toArray,List.getElem_cons_zero,List.getElem_cons_succ] at c0 c1 c2 c3 c4 c5
   go_wp2_with fail
   refine (H1.out _ (hw.below hbr)).mono ?_
   rintro e w1 ⟨rfl,hb1⟩
   have hbw1:=hbr.trans (hb1.mono hbr.size)
   have HO1:=Lib.hid (owns_below HO.out hb1)
   have hbase:w.heap.size≤w1.heap.size:=hbw1.size
   have HL:=Lib.hid (cells_last (dptsTo D k) z)
   clear c0 c1 c2 c3 c4 c5
   go_wp2_with (at_builtin;refine app_new slPt rfl _ _ rfl w.heap.size _ k _ rfl HO1.out 1 1 _ rfl rfl (oneTwo _ _) (by omega) (by decide) hbase _ HL.out ?_;intro v1 w9 hown2 hb9;rw [←HS.out] at hown2;have HO2:=Lib.hid hown2;clear hown2)
   obtain ⟨g2,cp2,rfl⟩:=ownsRow_succ HO2.out
   refine ⟨⟨k+1,int_succ k,hk,hk8,HO2.out,hbw1.trans hb9⟩,?_⟩
   show D.length-((k:Int)+1).toNat<D.length-((k:Int)).toNat
   omega
  ·have HA:=Lib.hid (dptsTo_all hkl h8 hk)
   have HLEN:=Lib.hid (dptsTo_len hkl)
   have HP:=Lib.hid (show Pts wr _ (ptsD D) from by rw [←HA.out];exact pairs_of_cells (by rw [List.length_map,HLEN.out];exact hown))
   clear hown
   by_cases h1:k<D.length
   ·have h2:¬ k<8:=fun h=>hk ⟨h1,h⟩
    clear hk
    go_wp2
    go_ret
    exact ⟨_,rfl,HP.out,hbr⟩
   ·clear hk
    go_wp2
    go_ret
    exact ⟨_,rfl,HP.out,hbr⟩
set_option maxRecDepth 100000 in
theorem r9_hull_none (p:Option Addr) (c:Nat) (w:World):Calls Tryz.prog 16 #[.slice p 0 c] w fun e w'=>e=.returned (.slice none 0 0)∧w=w':=by
 go_enter Tryz.func16,Tryz.ntmps16
 go_wp2
 go_ret
 exact ⟨rfl,rfl⟩
def triP:List QP:=[(0,0),(3,0),(1,2)]
theorem tri_drf:Drf triP:=⟨poly_of triP (by decide) (by decide +kernel) (by decide +kernel),by decide,by decide +kernel⟩
theorem ptsD_small {D:List Plc} (h:∀ x∈D,okPlc x):∀ p∈ptsD D,(p.1.num.natAbs≤32768∧p.1.den≤256)∧(p.2.num.natAbs≤32768∧p.2.den≤256):=fun p hp=>by
 unfold ptsD at hp
 obtain ⟨x,hx,rfl⟩:=List.mem_map.1 hp
 have:=h x (List.mem_of_mem_take hx)
 exact ⟨sm_small this.1,sm_small this.2.1⟩
theorem Dft.okD {w:World} {v:Value} {D:List Plc} (h:Dft w v D):∀ x∈D,okPlc x:=fun x hx=>by
 obtain ⟨p,c,_,_,_,h4⟩:=h
 obtain ⟨i,hi,rfl⟩:=List.getElem_of_mem hx
 obtain ⟨b,off,_,_,h5⟩:=h4 (by omega)
 exact (h5 i hi).1
def MadeD (w:World) (e:Ending) (w':World):Prop:=∃ r P,e=.returned r∧Drf P∧Pts w' r P∧Below w.heap.size w w'
theorem hull_drf {D:List Plc} (h:∀ x∈D,okPlc x) {P:List QP} (hP:Wrap (ptsD D) P) (h3:¬ P.length<3):Drf P:=
 ⟨hP.poly (by omega),Nat.le_trans hP.toPart.len (by unfold ptsD;simp;omega),fun p hp=>ptsD_small h p (hP.mem p hp)⟩
set_option maxRecDepth 100000 in
set_option maxHeartbeats 8000000 in
theorem law_make (v:Value) (D:List Plc) (w:World) (hw:Good w) (hv:Dft w v D):Calls Tryz.prog 20 #[v] w (MadeD w):=by
 have HPT:=Lib.hid (law_points v D w hw hv)
 have HD:=Lib.hid hv.okD
 have A0_0:=Lib.hid (fun w' (hg:Good w')=>at_pt 0 0 0 0 (by decide +kernel) (by decide +kernel) (by decide) (by decide) w' hg)
 have A3_0:=Lib.hid (fun w' (hg:Good w')=>at_pt 3 0 3 0 (by decide +kernel) (by decide +kernel) (by decide) (by decide) w' hg)
 have A1_2:=Lib.hid (fun w' (hg:Good w')=>at_pt 1 2 1 2 (by decide +kernel) (by decide +kernel) (by decide) (by decide) w' hg)
 have HN:=Lib.hid (fun w'=>pts_new w' triP (by decide) (by decide) #[.string (tx 0),.string (tx 0),.string (tx 3),.string (tx 0),.string (tx 1),.string (tx 2)] rfl)
 rw [show triP.length=3 from rfl] at HN
 have HSM:=Lib.hid (fun p hp=>show Sz2 402 p from ⟨(ok_nat (ptsD_small HD.out p hp).1 (by decide) (by decide)).sz,(ok_nat (ptsD_small HD.out p hp).2 (by decide) (by decide)).sz⟩)
 have HHD:=Lib.hid (fun P (hP:Wrap (ptsD D) P) h3=>hull_drf HD.out hP h3)
 have HL8:=Lib.hid (show (ptsD D).length≤8 by unfold ptsD;simp;omega)
 unfold ListPost at HPT
 unfold RV at A0_0 A3_0 A1_2
 generalize tx 0=z0 at *
 generalize tx 1=z1 at *
 generalize tx 2=z2 at *
 generalize tx 3=z3 at *
 clear hv HD
 generalize ptsD D=L at *
 go_enter Tryz.func20,Tryz.ntmps20
 go_wp2_with fail
 refine HPT.out.mono ?_
 rintro e w1 ⟨r,rfl,hPL,hb1⟩
 have hg1:=hw.below hb1
 obtain ⟨pr,cr,rfl,hcr,hcm⟩:=hPL.slice
 have HPL:=Lib.hid hPL
 have hl8:=HL8.out
 clear hPL
 by_cases h0:L.length=0
 ·rw [h0]
  go_wp2_with fail
  refine (r9_hull_none pr cr w1).mono ?_
  rintro e w2 ⟨rfl,rfl⟩
  go_wp2_with fail
  refine (A0_0.out _ hg1).mono ?_
  rintro e wa ⟨rfl,ha⟩
  have hba:=hb1.trans (ha.mono hb1.size)
  go_wp2_with fail
  refine (A3_0.out _ (hw.below hba)).mono ?_
  rintro e wb ⟨rfl,hb⟩
  have hbb:=hba.trans (hb.mono hba.size)
  go_wp2_with fail
  refine (A1_2.out _ (hw.below hbb)).mono ?_
  rintro e wc ⟨rfl,hc⟩
  have hbc:=hbb.trans (hc.mono hbb.size)
  go_wp2
  go_ret
  exact ⟨_,triP,rfl,tri_drf,HN.out wc,hbc.trans ((alloc_below _ _).mono hbc.size)⟩
 ·have HHU:=Lib.hid (r9_hull (.slice pr L.length cr) L (by omega) (by omega) (fun p hp=>(HSM.out p hp).mono (by decide)) w1 hg1 HPL.out)
  unfold HullPost at HHU
  go_wp2_with fail
  refine HHU.out.mono ?_
  rintro e w2 ⟨r,P,rfl,hP,hPr,hb2⟩
  have hb12:=hb1.trans (hb2.mono hb1.size)
  have hg2:=hw.below hb12
  by_cases h3:P.length<3
  ·rw [if_pos h3] at hPr
   obtain ⟨p2,c2,rfl,_,_⟩:=hPr.slice
   clear hPr hP
   go_wp2_with fail
   refine (A0_0.out _ hg2).mono ?_
   rintro e wa ⟨rfl,ha⟩
   have hba:=hb12.trans (ha.mono hb12.size)
   go_wp2_with fail
   refine (A3_0.out _ (hw.below hba)).mono ?_
   rintro e wb ⟨rfl,hb⟩
   have hbb:=hba.trans (hb.mono hba.size)
   go_wp2_with fail
   refine (A1_2.out _ (hw.below hbb)).mono ?_
   rintro e wc ⟨rfl,hc⟩
   have hbc:=hbb.trans (hc.mono hbb.size)
   go_wp2
   go_ret
   exact ⟨_,triP,rfl,tri_drf,HN.out wc,hbc.trans ((alloc_below _ _).mono hbc.size)⟩
  ·rw [if_neg h3] at hPr
   obtain ⟨p2,c2,rfl,_,hcm2⟩:=hPr.slice
   have HPR:=Lib.hid hPr
   have HDR:=Lib.hid (HHD.out P hP h3)
   have e0:((P.length:Int) == 0)=false:=beq_eq_false_iff_ne.2 (by omega)
   clear hPr hP
   go_wp2
   go_ret
   exact ⟨_,P,rfl,HDR.out,HPR.out,hb12⟩
end Go.Proofs.YtgohnjdgoglcfaaGreatDoor
