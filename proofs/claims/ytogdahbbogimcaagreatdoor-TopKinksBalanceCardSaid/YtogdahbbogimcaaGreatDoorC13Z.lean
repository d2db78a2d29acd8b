import Derived.Test.YtogdahbbogimcaaGreatDoorC12Z
import Derived.Test.YtogdahbbogimcaaGreatDoorKk26Z
import Derived.BigQuiet
set_option maxRecDepth 100000
set_option maxHeartbeats 16000000
namespace Go.Proofs.YtogdahbbogimcaaGreatDoor
open Go.RowKit Go.Shelf
open Go.Lib (decDigits itoa nDigits)
open Go.Lib (hid)
theorem quarter_fq {n:Int} (h0:-128≤n) (h1:n≤127):Fq 32 4 (Rat.divInt n 4):=by
 refine ⟨4,n,by decide,by decide,by omega,?_⟩
 rw [show (Rat.divInt n 4)=(n:Rat)/((4:Int):Rat) from Rat.divInt_eq_div n 4]
 exact Rat.div_mul_cancel (by decide +kernel)
theorem quarter_lt {m n:Int} (h:m<n):Rat.divInt m 4<Rat.divInt n 4:=by
 have e:∀ k:Int,Rat.divInt k 4*4=(k:Rat):=fun k=>by
  rw [show (Rat.divInt k 4)=(k:Rat)/((4:Int):Rat) from Rat.divInt_eq_div k 4]
  exact Rat.div_mul_cancel (by decide +kernel)
 have h1:=e m
 have h2:=e n
 have h3:=Rat.intCast_lt_intCast.2 h
 grind
def Byte (n:Int):Prop:=-128≤n∧n≤127
theorem empty_owned (w:World):(w.alloc (Obj.cells #[] 30)).ownsRow w.heap.size 30 2 (.slice (some ⟨w.heap.size,0,none⟩) 0 0) 0 []:=
 ⟨rfl,.inr ⟨w.heap.size,0,#[],rfl,Nat.le_refl _,World.alloc_heap_new w _,Nat.le_refl _,by unfold maxLen;omega,rfl,rfl⟩⟩
theorem ptCs_one (f:Nat→QP):∀ k,∀ u∈ptCs f k,u.oneCell'=true
 | 0=>fun u hu=>by cases hu
 | k+1=>fun u hu=>by
  rw [ptCs] at hu
  rcases List.mem_append.1 hu with hu | hu
  ·exact ptCs_one f k u hu
  ·simp only [List.mem_cons,List.not_mem_nil,or_false] at hu
   rcases hu with rfl | rfl <;> rfl
theorem ptCs_congr {f g:Nat→QP}:∀ k,(∀ i,i<k→f i=g i)→ptCs f k=ptCs g k
 | 0,_=>rfl
 | k+1,h=>by rw [ptCs,ptCs,ptCs_congr k (fun i hi=>h i (by omega)),h k (by omega)]
theorem PtsV.row {w:World} {B n c:Nat} {f:Nat→QP} (h:PtsV w (.slice (some ⟨B,0,none⟩) n c) f n):∀ j u,(ptCs f n)[j]?=some u→w.cell? ((⟨B,0,none⟩ : Addr).add j)=some u:=by
 obtain ⟨b,c',e1,_,_,_,e5⟩:=h
 cases e1
 intro j u hj
 have hl:=(List.getElem?_eq_some_iff.1 hj).1
 rw [ptCs_len] at hl
 rw [adr_add]
 obtain ⟨k1,k2⟩:=e5 (j/2) (by omega)
 obtain ⟨m1,m2⟩:=ptCs_get f n (j/2) (by omega)
 rcases Nat.mod_two_eq_zero_or_one j with h0 | h0
 ·have e:j/2*2=j:=by omega
  rw [e] at m1 k1
  rw [m1] at hj
  rw [k1];exact hj
 ·have e:j/2*2+1=j:=by omega
  rw [e] at m2 k2
  rw [m2] at hj
  rw [k2];exact hj
theorem PtsV.at {w:World} {B n c:Nat} {f:Nat→QP} (h:PtsV w (.slice (some ⟨B,0,none⟩) n c) f n) {i:Nat} (hi:i<n) (wr:World) (hb:Below w.heap.size w wr):B<wr.heap.size∧wr.cell? ⟨B,i*2,none⟩=some (.string (tx (f i).1))∧wr.cell? ⟨B,i*2+1,none⟩=some (.string (tx (f i).2)):=by
 obtain ⟨b,c',e1,_,_,e4,e5⟩:=h
 cases e1
 exact ⟨Nat.lt_of_lt_of_le e4 hb.size,(hb.cell (p:=⟨B,i*2,none⟩) e4).trans (e5 i hi).1,(hb.cell (p:=⟨B,i*2+1,none⟩) e4).trans (e5 i hi).2⟩
theorem app_pts {ops:Array Oper} {rest:List Oper} {o:Oper} {a:Act} {Q:Exit→Act→World→Prop} {w:World}
  (hgd:o.guard=none) (s x:Operand) (ho:o.op=.call { callee:=.builtin .append,args:=#[s,x],argTypes:=#[38,38] })
  (base:Nat) (v:Value) (hs:a.eval s=v) (hown:w.ownsRow base 30 2 v 0 []) (B n c:Nat) (f:Nat→QP) (hx:a.eval x=.slice (some ⟨B,0,none⟩) n c) (hp:PtsV w (.slice (some ⟨B,0,none⟩) n c) f n)
  (hn:n≤1000) (hbase:base≤w.heap.size)
  (h:∀ v' w',w'.ownsRow base 30 2 v' n (ptCs f n)→Below base w w'→wpList Tryz.prog ops Q rest (a.put o.dst v') w'):wpList Tryz.prog ops Q (o :: rest) a w:=by
 obtain ⟨i,hi,hz0,hz1,hz2⟩:=info_parts slPt.info
 refine wpList_append_own _ hgd s x _ ho base _ i (.agg #[.string ⟨#[]⟩,.string ⟨#[]⟩]) 2 32 slPt.ht hi hz0 hz1 hz2 slPt.hzs slPt.hsz v 0 [] hs hown ⟨B,0,none⟩ n c (ptCs f n) hx (ptCs_len f n) hp.row (ptCs_one f n) (by unfold maxLen;omega) (by omega) hbase ?_
 intro v' w' ho hg _
 rw [Nat.zero_add,List.nil_append] at ho
 exact h v' w' ho ((Below.refl _ _).grown hg hbase (fun k hk=>(hown.lt k hk).1))
def BedE (s:QP) (D:List (Rat × Rat)) (x:Rat) (w:World) (e:Ending) (w':World):Prop:=
 ∃ v er,e=.returned (.tuple #[v,.int .i64 er])∧Below w.heap.size w w'∧((er=3∧withinB D x=false)∨(er=0∧withinB D x=true∧PtsV w' v (bedQ s D x) (D.length+1)))
theorem kink_BedE {s:QP} {D:List (Rat × Rat)} (hp:Plan s D) {x:Rat} (hx:Fq 32 4 x) (vd vl:Value) (w:World) (hw:Good w) (hvd:Txs w vd (D.map (·.1))) (hvl:Txs w vl (D.map (·.2))) :
  Calls Tryz.prog 7 #[profV s vd vl,.string (tx x)] w (BedE s D x w):=by
 have hok:OkB x:=hx.ok (by decide) (by decide)
 have h4:=hp.n
 cases hw0:withinB D x with
 | false =>
  refine (kink_Bed_bad s D hp.ok hp.in vd vl x hok hw0 w hw hvd hvl).mono ?_
  rintro e w' ⟨rfl,hb⟩
  exact ⟨_,_,rfl,hb,.inl ⟨rfl,hw0⟩⟩
 | true =>
  refine (kink_Bed s D hp.ok hp.in vd vl x hok hw0 (fun i hi=>hp.bedq hx (by omega)) w hw hvd hvl).mono ?_
  rintro e w' ⟨v,rfl,hv,hb⟩
  exact ⟨v,_,rfl,hb,.inr ⟨rfl,hw0,hv⟩⟩
def ringP (s:QP) (D:List (Rat × Rat)) (a b:Rat):Nat→QP:=pt (ringF (bedQ s D a) (bedQ s D b) D.length)
theorem ringP_lo {s:QP} {D:List (Rat × Rat)} {a b:Rat} {i:Nat} (hi:i<D.length+1):bedQ s D a i=ringP s D a b i:=(ring_lo (by omega)).symm
theorem ringP_hi {s:QP} {D:List (Rat × Rat)} {a b:Rat} {j m:Nat} (h:j+m=D.length):ringP s D a b (D.length+1+m)=bedQ s D b j:=by
 unfold ringP
 rw [ring_hi (by omega),show D.length-m=j by omega]
theorem law_TopKinks (a0 b0:Int) (ha0:Byte a0) (hb0:Byte b0) (v:Value) (D0:List Duo) (n0 n1:Int) (hn0:Byte n0) (hn1:Byte n1) (w:World) (hw:Good w) (hv:Duos w v D0) :
  Calls Tryz.prog 3 #[.agg #[.int .i8 a0,.int .i8 b0,v],.agg #[.int .i8 n0,.int .i8 n1]] w fun e w'=>e=.returned (.bool true)∧Below w.heap.size w w':=by
 have HKN:=hid (fun (W:World) (hg:Good W)=>law40_Known W hg)
 have HMK:=hid (fun (hl:D0.length≤4) (W:World) (hg:Good W) (h:Duos W v D0)=>law40_Make a0 b0 ha0.1 ha0.2 hb0.1 hb0.2 v D0 hl W hg h)
 have HV:=hid hv
 have HPL:=hid (fun (hl:D0.length≤4)=>plan_plan (D0:=D0) a0 b0 hl)
 have HD1:=hid (planD_pos D0)
 generalize planS a0 b0=s at *
 generalize planD D0=D at *
 unfold Byte at hn0 hn1
 have qa:=hid (quarter_fq (n:=min n0 n1) (by omega) (by omega))
 have qb:=hid (quarter_fq (n:=max n0 n1) (by omega) (by omega))
 have HO0:=hid (fun (W:World) (hg:Good W)=>rat_Of (min n0 n1) 4 (by omega) (by omega) (by decide) (by decide) (by decide) W hg)
 have HO1:=hid (fun (W:World) (hg:Good W)=>rat_Of (max n0 n1) 4 (by omega) (by omega) (by decide) (by decide) (by decide) W hg)
 have k0:IntKind.i64.wrap (min n0 n1)=min n0 n1:=IntWalk.i64_in _ (by omega)
 have k1:IntKind.i64.wrap (max n0 n1)=max n0 n1:=IntWalk.i64_in _ (by omega)
 have HAB:=hid (show Rat.divInt (min n0 n1) 4=Rat.divInt (max n0 n1) 4∨Rat.divInt (min n0 n1) 4<Rat.divInt (max n0 n1) 4 by
  rcases (show min n0 n1=max n0 n1∨min n0 n1<max n0 n1 by omega) with h | h
  ·exact .inl (by rw [h])
  ·exact .inr (quarter_lt h))
 generalize Rat.divInt (min n0 n1) 4=x at *
 generalize Rat.divInt (max n0 n1) 4=y at *
 unfold RV at HKN HO0 HO1
 unfold MakePost at HMK
 obtain ⟨p,c,rfl,hc,hmx,-⟩:=hv
 obtain ⟨wP,hwP⟩ : ∃ wP,wP=w.alloc (Obj.cells #[.int .i8 a0,.int .i8 b0,.slice p D0.length c] 26):=⟨_,rfl⟩
 obtain ⟨wA,hwA⟩ : ∃ wA,wA=wP.alloc (Obj.cells #[.int .i8 n0,.int .i8 n1] 23):=⟨_,rfl⟩
 have hbP:Below w.heap.size w wP:=by rw [hwP];exact alloc_below _ _
 have hbA:Below wP.heap.size wP wA:=by rw [hwA];exact alloc_below _ _
 have hsP:wP.heap.size=w.heap.size+1:=by rw [hwP];simp
 have hp0:wP.heap[w.heap.size]?=some (.cells #[.int .i8 a0,.int .i8 b0,.slice p D0.length c] 26 (0,0)):=by rw [hwP];exact World.alloc_heap_new _ _
 have HPA:=hid ((hbA.block _ (by omega)).trans hp0)
 have HQA:=hid (show wA.heap[w.heap.size+1]?=some (.cells #[.int .i8 n0,.int .i8 n1] 23 (0,0)) by rw [hwA,←hsP];exact World.alloc_heap_new _ _)
 have hbw:Below w.heap.size w wA:=hbP.trans (hbA.mono hbP.size)
 rw [hwP] at hwA
 have HWA:=hid hwA
 clear hwP hwA hp0 hsP hbP hbA
 go_enter Tryz.func3,Tryz.ntmps3
 go_wp2_with fail
 rw [←HWA.out]
 refine (HKN.out wA (hw.below hbw)).mono ?_
 rintro e w1 ⟨rfl,hb1⟩
 have hbw1:=hbw.trans (hb1.mono hbw.size)
 have hp1:=(hb1.block _ (lt_of_some HPA.out)).trans HPA.out
 have e0:w1.cell? ⟨w.heap.size,0,none⟩=some (.int .i8 a0):=by simp [World.cell?,hp1]
 have e1:w1.cell? ⟨w.heap.size,1,none⟩=some (.int .i8 b0):=by simp [World.cell?,hp1]
 have e2:w1.cell? ⟨w.heap.size,2,none⟩=some (.slice p D0.length c):=by simp [World.cell?,hp1]
 clear hp1
 by_cases hl:D0.length≤4
 ·have hl1:decide ((4:Int)<(D0.length:Int))=false:=decide_eq_false (by omega)
  have HPP:=hid (HPL.out hl)
  go_wp2_with fail
  refine (HMK.out hl w1 (hw.below hbw1) (HV.out.below hbw1)).mono ?_
  rintro e w2 ⟨vd,vl,rfl,hvd,hvl,hb2⟩
  have HL1:=hid (show (D.map (·.1)).length=D.length from List.length_map _)
  have HL2:=hid (show (D.map (·.2)).length=D.length from List.length_map _)
  have hvd0:=hvd
  have hvl0:=hvl
  obtain ⟨bd,cd,rfl,-,-,-,-⟩:=hvd0
  obtain ⟨bl,cl,rfl,-,-,-,-⟩:=hvl0
  rw [HL1.out] at hvd ⊢
  rw [HL2.out] at hvl ⊢
  have hbw2:=hbw1.trans (hb2.mono hbw1.size)
  unfold profV
  have hb02:=hb1.trans (hb2.mono hb1.size)
  have hq2:=(hb02.block _ (lt_of_some HQA.out)).trans HQA.out
  have HQ2:=hid hq2
  have lq2:=lt_of_some hq2
  have HBE:=hid (fun (z:Rat) (hz:Fq 32 4 z) (W:World) (hg:Good W) (h1:Txs W (.slice (some ⟨bd,0,none⟩) D.length cd) (D.map (·.1))) (h2:Txs W (.slice (some ⟨bl,0,none⟩) D.length cl) (D.map (·.2)))=>kink_BedE (s:=s) HPP.out hz _ _ W hg h1 h2)
  have HAR:=hid (fun (hxy:x<y) (wx:withinB D x=true) (wy:withinB D y=true) (W:World) (hg:Good W) (h1:Txs W (.slice (some ⟨bd,0,none⟩) D.length cd) (D.map (·.1))) (h2:Txs W (.slice (some ⟨bl,0,none⟩) D.length cl) (D.map (·.2))) =>
   kink_Area4 s D HPP.out.ok HPP.out.in _ _ x y (qa.out.ok (by decide) (by decide)) (qb.out.ok (by decide) (by decide)) wx wy hxy (HPP.out.areas qa.out qb.out).1 (fun k hk=>(HPP.out.sumz qa.out hk).sz.mono (by decide)) (fun k hk=>(HPP.out.sumz qb.out hk).sz.mono (by decide)) W hg h1 h2)
  have HKL:=hid (fun (z:Rat) (hz:Fq 32 4 z) (wz:withinB D z=true) (W:World) (hg:Good W) (h1:Txs W (.slice (some ⟨bd,0,none⟩) D.length cd) (D.map (·.1))) (h2:Txs W (.slice (some ⟨bl,0,none⟩) D.length cl) (D.map (·.2))) =>
   kink_Length s D HPP.out.ok HPP.out.in _ _ z (hz.ok (by decide) (by decide)) wz (fun k hk=>(HPP.out.sumz hz hk).sz.mono (by decide)) ((HPP.out.sumw hz).ok (by decide) (by decide)) W hg h1 h2)
  unfold profV at HBE HAR HKL
  unfold BedE at HBE
  unfold RV at HAR HKL
  clear e0 e1 e2 hq2
  obtain ⟨w3,hw3⟩ : ∃ w3,w3=w2.alloc (Obj.cells #[.string (tx s.1),.string (tx s.2),.slice (some ⟨bd,0,none⟩) D.length cd,.slice (some ⟨bl,0,none⟩) D.length cl] 33):=⟨_,rfl⟩
  have hb3:Below w2.heap.size w2 w3:=by rw [hw3];exact alloc_below _ _
  have hp3:w3.heap[w2.heap.size]?=some (.cells #[.string (tx s.1),.string (tx s.2),.slice (some ⟨bd,0,none⟩) D.length cd,.slice (some ⟨bl,0,none⟩) D.length cl] 33 (0,0)):=by rw [hw3];exact World.alloc_heap_new _ _
  have HP3:=hid hp3
  have HQ3:=hid ((hb3.block _ lq2).trans HQ2.out)
  have HVD3:=hid (hvd.below hb3)
  have HVL3:=hid (hvl.below hb3)
  have hbw3:=hbw2.trans (hb3.mono hbw2.size)
  obtain ⟨r0,r1⟩ : w3.cell? ⟨w.heap.size+1,0,none⟩=some (.int .i8 n0)∧w3.cell? ⟨w.heap.size+1,1,none⟩=some (.int .i8 n1):=by
   refine ⟨?_,?_⟩ <;> simp [World.cell?,HQ3.out]
  have hl2:=lt_of_some hp3
  have lq3:w.heap.size+1<w3.heap.size:=Nat.lt_of_lt_of_le lq2 hb3.size
  have HW3:=hid hw3
  rw [hw3] at r0 r1
  clear hw3 hp3
  go_wp2_with fail
  rw [←HW3.out]
  rw [←HW3.out] at r0 r1
  refine (HO0.out w3 (hw.below hbw3)).mono ?_
  rintro e w4 ⟨rfl,hb4⟩
  have r0:=(hb4.cell (p:=⟨w.heap.size+1,0,none⟩) lq3).trans r0
  have r1:=(hb4.cell (p:=⟨w.heap.size+1,1,none⟩) lq3).trans r1
  go_wp2_with fail
  refine (HO1.out w4 (hw.below (hbw3.trans (hb4.mono hbw3.size)))).mono ?_
  rintro e w5 ⟨rfl,hb5⟩
  have hb35:=hb4.trans (hb5.mono hb4.size)
  clear r0 r1 lq2 lq3
  obtain ⟨d0,d1,d2,d3⟩:=four_cells ((hb35.block _ hl2).trans HP3.out)
  go_wp2_with fail
  refine (HBE.out x qa.out w5 (hw.below (hbw3.trans (hb35.mono hbw3.size))) (HVD3.out.below hb35) (HVL3.out.below hb35)).mono ?_
  rintro e w6 ⟨va,er1,rfl,hb6,hcase1⟩
  have hb36:=hb35.trans (hb6.mono hb35.size)
  clear d0 d1 d2 d3
  obtain ⟨d0,d1,d2,d3⟩:=four_cells ((hb36.block _ hl2).trans HP3.out)
  have hl26:w2.heap.size<w6.heap.size:=Nat.lt_of_lt_of_le hl2 hb36.size
  have HC1:=hid hcase1
  clear hcase1
  go_wp2_with fail
  refine (HBE.out y qb.out w6 (hw.below (hbw3.trans (hb36.mono hbw3.size))) (HVD3.out.below hb36) (HVL3.out.below hb36)).mono ?_
  rintro e w7 ⟨vb,er2,rfl,hb7,hcase2⟩
  have hb37:=hb36.trans (hb7.mono hb36.size)
  have HB7:=hid hb7
  have HC2:=hid hcase2
  have HW7:=hid (hbw3.trans (hb37.mono hbw3.size))
  clear hcase2 d0 d1 d2 d3 hb7
  have HBQ:=hid (show ((tx x).toList == (tx y).toList)=decide (x=y) from (isR_mk x).beq2 (isR_mk y))
  obtain ⟨tX,htX⟩ : ∃ t,t=tx x:=⟨_,rfl⟩
  obtain ⟨tY,htY⟩ : ∃ t,t=tx y:=⟨_,rfl⟩
  have HTX:=hid htX
  have HTY:=hid htY
  rw [←htX,←htY] at HBQ HAR
  rw [←htX,←htY]
  clear htX htY
  rcases HAB.out with hxy | hxy
  ·have hbq:=HBQ.out
   rw [decide_eq_true hxy] at hbq
   go_wp2_with fail
   go_ret
   exact ⟨rfl,HW7.out⟩
  have hbq:=HBQ.out
  rw [decide_eq_false (fun e=>by rw [e] at hxy;exact Rat.lt_irrefl hxy)] at hbq
  rcases HC1.out with ⟨rfl,-⟩ | ⟨rfl,wx,hpa⟩
  ·go_wp2_with fail
   go_ret
   exact ⟨rfl,HW7.out⟩
  rcases HC2.out with ⟨rfl,-⟩ | ⟨rfl,wy,hpb⟩
  ·go_wp2_with fail
   go_ret
   exact ⟨rfl,HW7.out⟩
  have HPA7:=hid (hpa.below HB7.out)
  have HPB7:=hid hpb
  obtain ⟨d0,d1,d2,d3⟩:=four_cells ((hb37.block _ hl2).trans HP3.out)
  have hl27:w2.heap.size<w7.heap.size:=Nat.lt_of_lt_of_le hl2 hb37.size
  obtain ⟨Ba,ca,rfl,-⟩:=hpa
  obtain ⟨Bb,cb,rfl,-⟩:=hpb
  obtain ⟨N,hN⟩ : ∃ N,N=D.length+1:=⟨_,rfl⟩
  have HNE:=hid hN
  rw [←hN] at HPA7 HPB7 ⊢
  have HAR2:=hid (HAR.out hxy wx wy w7 (hw.below HW7.out) (HVD3.out.below hb37) (HVL3.out.below hb37))
  have h4:=HPP.out.n
  have hn5:N≤5:=by omega
  have hn1':2≤N:=by have:=HD1.out;omega
  have HXY:=hid hxy
  have HWX:=hid wx
  have HWY:=hid wy
  clear hxy wx wy hN HC1 HC2 HAR HBE HKN HMK HV HPL h4 hl1 HO0 HO1 HQ3 HQ2 HQA HPA HWA HW3 HAB
  go_wp2_with fail
  refine HAR2.out.mono ?_
  rintro e wS ⟨rfl,hbS⟩
  have hb3S:=hb37.trans (hbS.mono hb37.size)
  have hbwS:=hbw3.trans (hb3S.mono hbw3.size)
  have HPAS:=hid (HPA7.out.below hbS)
  have HPBS:=hid (HPB7.out.below hbS)
  have HPRS:=hid ((hb3S.block _ hl2).trans HP3.out)
  have HVDS:=hid (HVD3.out.below hb3S)
  have HVLS:=hid (HVL3.out.below hb3S)
  have HG:=hid (fun W (h:Below wS.heap.size wS W)=>hw.below (hbwS.trans (h.mono hbwS.size)))
  have HBW:=hid (fun W (h:Below wS.heap.size wS W)=>hbwS.trans (h.mono hbwS.size))
  clear HPA7 HPB7 HVD3 HVL3 HP3 hb3S hbwS hbS hb37 hb36 hb35 hb3 hb02 hb4 hb5 hb6 hbw hbw1 hbw2 hbw3 d0 d1 d2 d3 HAR2 HW7 HB7 hb1 hb2 hvd hvl hl26 hl27 hl2
  obtain ⟨wE,hwE⟩ : ∃ wE,wE=wS.alloc (Obj.cells #[] 30):=⟨_,rfl⟩
  have hbE:Below wS.heap.size wS wE:=by rw [hwE];exact alloc_below _ _
  have HOE:=hid (show wE.ownsRow wS.heap.size 30 2 (.slice (some ⟨wS.heap.size,0,none⟩) 0 0) 0 [] by rw [hwE];exact empty_owned wS)
  have HWE:=hid hwE
  clear hwE
  have HPAE:=hid (HPAS.out.below hbE)
  have hn1k:N≤1000:=by omega
  go_wp2_with (at_builtin;rw [←HWE.out];refine app_pts rfl _ _ rfl wS.heap.size _ rfl HOE.out Ba N ca (bedQ s D x) rfl HPAE.out hn1k hbE.size ?_;intro vr wR hown hbr0;have HOR:=hid hown;have HBR:=hid hbr0;clear hown hbr0)
  have HOR2:=hid (show wR.ownsRow wS.heap.size 30 2 vr (N+0) (ptCs (ringP s D x y) (N+0)) by
   rw [Nat.add_zero,←ptCs_congr N (f:=bedQ s D x) (fun i hi=>ringP_lo (by rw [←HNE.out];exact hi))]
   exact HOR.out)
  have HBR2:=hid (hbE.trans HBR.out)
  have m0:IntKind.i64.wrap ((N:Int)-1)=(D.length:Int):=(IntWalk.i64_in _ (by omega)).trans (by have:=HNE.out;omega)
  clear HOR HBR HOE HWE HPAE hbE
  go_wp2_with fail
  go_loopw [16,17] (fun rv iv wr=>∃ m:Nat,((∃ j:Nat,j+m=D.length∧iv=.int .i64 (j:Int))∨(m=N∧iv=.int .i64 (-1)))∧wr.ownsRow wS.heap.size 30 2 rv (N+m) (ptCs (ringP s D x y) (N+m))∧Below wS.heap.size wS wr) (fun _ iv _=>(intOf iv+1).toNat)
  case atStart=>exact ⟨0,.inl ⟨D.length,rfl,by rw [show ((N:Int)-1)=(D.length:Int) by have:=HNE.out;omega]⟩,HOR2.out,HBR2.out⟩
  case round =>
   clear HOR2 HBR2
   obtain ⟨m,hcase,hrow,hbr⟩:=hrel
   rcases hcase with ⟨j,hjm,rfl⟩ | ⟨hmN,rfl⟩
   ·have hj0:decide ((0:Int)≤(j:Int))=true:=decide_eq_true (by omega)
    have hjN:j<N:=by have:=HNE.out;omega
    have j1:(0:Int)≤(j:Int):=by omega
    have j2:(j:Int)<(N:Int):=by omega
    have j3:IntKind.i64.wrap ((j:Int)-1)=(j:Int)-1:=IntWalk.i64_in _ (by omega)
    obtain ⟨hBb,b0,b1⟩:=HPBS.out.at hjN wr hbr
    have HRH:=hid (show ringP s D x y (N+m)=bedQ s D y j by rw [HNE.out];exact ringP_hi hjm)
    have hwsr:=hbr.size
    have hNm:(N+m+1)*32≤140737488355328:=by have:=HNE.out;omega
    have HROW:=hid hrow
    have HJM:=hid hjm
    obtain ⟨y1,hy1⟩ : ∃ t,t=tx (bedQ s D y j).1:=⟨_,rfl⟩
    obtain ⟨y2,hy2⟩ : ∃ t,t=tx (bedQ s D y j).2:=⟨_,rfl⟩
    rw [←hy1] at b0
    rw [←hy2] at b1
    have HONE:=hid (show ∀ u∈(#[Value.string y1,Value.string y2]:Array Value).toList,u.oneCell'=true by simp [Value.oneCell'])
    have HY:=hid (show ptCs (ringP s D x y) (N+m)++(#[Value.string y1,Value.string y2]:Array Value).toList=ptCs (ringP s D x y) (N+(m+1)) by
     show _=ptCs (ringP s D x y) (N+m+1)
     rw [ptCs,HRH.out,hy1,hy2])
    clear hrow hy1 hy2 hjm
    go_wp2_with (at_builtin;refine app_new slPt rfl _ _ rfl wS.heap.size _ (N+m) _ rfl HROW.out 1 1 _ rfl rfl HONE.out hNm (by decide) hwsr _ HY.out ?_;intro v1 w9 hown2 hb9;have HO2:=hid hown2;clear hown2)
    refine ⟨⟨m+1,?_,HO2.out,hbr.trans hb9⟩,?_⟩
    ·rcases Nat.eq_zero_or_pos j with h0 | h0
     ·exact .inr ⟨by have:=HNE.out;have:=HJM.out;omega,by rw [h0];rfl⟩
     ·exact .inl ⟨j-1,by have:=HJM.out;omega,by rw [show ((j:Int)-1)=((j-1:Nat):Int) by omega]⟩
    ·show ((j:Int)-1+1).toNat<((j:Int)+1).toNat
     omega
   ·obtain ⟨wO,hwO⟩ : ∃ q,q=wr:=⟨_,rfl⟩
    subst hwO
    rw [hmN,show N+N=2*D.length+1+1 by have:=HNE.out;omega] at hrow
    have HROW:=hid hrow
    obtain ⟨gR,capR,rfl⟩:=ownsRow_succ hrow
    have HARE:=hid (ring_Area (s:=s) HPP.out HD1.out qa.out qb.out HXY.out HWX.out HWY.out _ wO (HG.out wO hbr) (pts_of_row HROW.out))
    unfold RV at HARE
    have HMU:=hid (fun W' (hg:Good W')=>k_mul 2 (areaQ D x y) (by unfold Sz;rw [tx_of text2];decide) (((HPP.out.areas qa.out qb.out).1).sz.mono (by decide)) W' hg)
    rw [tx_of text2,show 2*areaQ D x y=(sumR (lgL D x)+sumR (lgL D y))*(y-x) by unfold areaQ;grind] at HMU
    unfold RV at HMU
    have HEQ1:=hid (fun W'=>(eqlPts (bedQ s D x 0) (bedQ s D y 0) W').trans (by rw [decide_eq_false ((bed_ring (s:=s) HPP.out.in (within_true.1 HWX.out) (within_true.1 HWY.out) HXY.out HD1.out).ne0)]))
    have HEQ2:=hid (fun W'=>(eqlPts (bedQ s D y 0) (bedQ s D y 0) W').trans (by rw [decide_eq_true rfl]))
    generalize tx ((sumR (lgL D x)+sumR (lgL D y))*(y-x))=t2 at *
    have ht2:(t2.toList != t2.toList)=false:=by simp
    clear hrow hmN
    go_wp2_with fail
    refine HARE.out.mono ?_
    rintro e wQ ⟨rfl,hbQ⟩
    have hbSQ:=hbr.trans (hbQ.mono hbr.size)
    clear HARE HROW
    go_wp2_with fail
    refine (HMU.out wQ (HG.out wQ hbSQ)).mono ?_
    rintro e wq ⟨rfl,hbq2⟩
    have hbSq:=hbSQ.trans (hbq2.mono hbSQ.size)
    obtain ⟨wL,hwL⟩ : ∃ q,q=wq.alloc (Obj.cells #[.slice (some ⟨Ba,0,none⟩) N ca,.slice (some ⟨Bb,0,none⟩) N cb] 38):=⟨_,rfl⟩
    have hbL:Below wq.heap.size wq wL:=by rw [hwL];exact alloc_below _ _
    obtain ⟨lc0,lc1,_,_⟩:=two_cells (show wL.heap[wq.heap.size]?=some (.cells #[.slice (some ⟨Ba,0,none⟩) N ca,.slice (some ⟨Bb,0,none⟩) N cb] 38 (0,0)) by rw [hwL];exact World.alloc_heap_new _ _)
    have hBL:wq.heap.size<wL.heap.size:=by rw [hwL];simp
    have HSL:=hid (hbSq.trans (hbL.mono hbSq.size))
    have HPAL:=hid (HPAS.out.below HSL.out)
    have HPBL:=hid (HPBS.out.below HSL.out)
    have HPRL:=hid ((HSL.out.block _ (lt_of_some HPRS.out)).trans HPRS.out)
    have HVDL:=hid (HVDS.out.below HSL.out)
    have HVLL:=hid (HVLS.out.below HSL.out)
    have HWL:=hid hwL
    have hn0:decide ((0:Int)<(N:Int))=true:=decide_eq_true (by omega)
    have hn0':decide (0<N)=true:=decide_eq_true (by omega)
    have hn0p:0<N:=by omega
    clear hwL hbr hbQ hbSQ hbq2 hbSq hbL HMU HPAS HPBS HPRS HVDS HVLS ht2
    go_wp2_with fail
    rw [←HWL.out]
    go_loopw [4,134] (fun _ iv W=>(iv=.int .i64 0∨iv=.int .i64 1∨iv=.int .i64 2)∧Below wL.heap.size wL W) (fun _ iv _=>2-(intOf iv).toNat)
    case atStart=>exact ⟨.inl rfl,Below.refl _ _⟩
    case round =>
     clear HWL
     obtain ⟨W,hWr⟩ : ∃ q,q=wr:=⟨_,rfl⟩
     subst hWr
     obtain ⟨hi,hW⟩:=hrel
     rcases hi with rfl | rfl | rfl
     ·have l0:=(hW.cell (p:=⟨wq.heap.size,0,none⟩) hBL).trans lc0
      obtain ⟨_,a0,a1⟩:=HPAL.out.at (show 0<N by omega) W hW
      obtain ⟨_,b0,b1⟩:=HPBL.out.at (show 0<N by omega) W hW
      have hBa:=(HPAL.out.at (show 0<N by omega) W hW).1
      have hBb:=(HPBL.out.at (show 0<N by omega) W hW).1
      rw [Nat.zero_mul] at a0 a1 b0 b1
      rw [Nat.zero_add] at a1 b1
      have hBLW:=Nat.lt_of_lt_of_le hBL hW.size
      have heq:=HEQ1.out
      have hguard:=guardPts
      have HLEN:=hid (fun W' (h:Below wL.heap.size wL W')=>bed_Length (s:=s) HPP.out HD1.out qa.out HWX.out _ W' (HG.out W' (HSL.out.trans (h.mono HSL.out.size))) (by rw [←HNE.out];exact HPAL.out.below h))
      have HKL2:=hid (fun W' (h:Below wL.heap.size wL W')=>HKL.out x qa.out HWX.out W' (HG.out W' (HSL.out.trans (h.mono HSL.out.size))) (HVDL.out.below h) (HVLL.out.below h))
      rw [←HTX.out] at HKL2
      have HNZ:=hid (sum_ne (D:=D) (x:=x) HWX.out HD1.out)
      have HOKS:=hid ((HPP.out.sumw qa.out).ok (by decide) (by decide))
      unfold SurdPost at HLEN
      have HQ:=hid (fun v b W' (hg:Good W') (h:Surd1 W' v b (sumR (lgL D x)))=>surd_Rational v b _ HOKS.out HNZ.out W' hg h)
      unfold RV at HQ
      generalize hx1:tx (bedQ s D x 0).1=x1 at *
      generalize hx2:tx (bedQ s D x 0).2=x2 at *
      generalize hy1:tx (bedQ s D y 0).1=y1 at *
      generalize hy2:tx (bedQ s D y 0).2=y2 at *
      generalize tx (sumR (lgL D x))=ts at *
      have hts:(ts.toList != ts.toList)=false:=by simp
      clear hx1 hx2 hy1 hy2 HKL HEQ1 HEQ2
      go_wp2_with fail
      go_quiet (fail)
      go_wp2_with fail
      refine (HLEN.out (W.drewN _) ⟨hW.os,hW.tape,hW.output,hW.size,hW.block⟩).mono ?_
      rintro e u1 ⟨vu,bu,rfl,hs,-,hu1⟩
      have hb1:Below wL.heap.size wL u1:=by
       have hx:=hu1.mono (show wL.heap.size≤_ from hW.size)
       refine Below.trans ?_ hx
       exact ⟨hW.os,hW.tape,hW.output,hW.size,hW.block⟩
      have HR:=hid (HQ.out vu bu u1 (HG.out u1 (HSL.out.trans (hb1.mono HSL.out.size))) hs)
      clear hs hu1 l0 a0 a1 b0 b1 heq
      go_wp2_with fail
      refine HR.out.mono ?_
      rintro e u2 ⟨rfl,hu2⟩
      have hb2:=hb1.trans (hu2.mono hb1.size)
      obtain ⟨d0,d1,d2,d3⟩:=four_cells ((hb2.block _ (lt_of_some HPRL.out)).trans HPRL.out)
      have hl2u:w2.heap.size<u2.heap.size:=Nat.lt_of_lt_of_le (lt_of_some HPRL.out) hb2.size
      go_wp2_with fail
      refine (HKL2.out u2 hb2).mono ?_
      rintro e u3 ⟨rfl,hu3⟩
      have hb3:=hb2.trans (hu3.mono hb2.size)
      clear d0 d1 d2 d3
      go_wp2
      refine ⟨⟨.inr (.inl rfl),hb3⟩,?_⟩
      decide
     ·have l0:=(hW.cell (p:=⟨wq.heap.size,1,none⟩) hBL).trans lc1
      obtain ⟨_,a0,a1⟩:=HPAL.out.at (show 0<N by omega) W hW
      obtain ⟨_,b0,b1⟩:=HPBL.out.at (show 0<N by omega) W hW
      have hBa:=(HPAL.out.at (show 0<N by omega) W hW).1
      have hBb:=(HPBL.out.at (show 0<N by omega) W hW).1
      rw [Nat.zero_mul] at a0 a1 b0 b1
      rw [Nat.zero_add] at a1 b1
      have hBLW:=Nat.lt_of_lt_of_le hBL hW.size
      have heq:=HEQ2.out
      have hguard:=guardPts
      have HLEN:=hid (fun W' (h:Below wL.heap.size wL W')=>bed_Length (s:=s) HPP.out HD1.out qb.out HWY.out _ W' (HG.out W' (HSL.out.trans (h.mono HSL.out.size))) (by rw [←HNE.out];exact HPBL.out.below h))
      have HKL2:=hid (fun W' (h:Below wL.heap.size wL W')=>HKL.out y qb.out HWY.out W' (HG.out W' (HSL.out.trans (h.mono HSL.out.size))) (HVDL.out.below h) (HVLL.out.below h))
      rw [←HTY.out] at HKL2
      have HNZ:=hid (sum_ne (D:=D) (x:=y) HWY.out HD1.out)
      have HOKS:=hid ((HPP.out.sumw qb.out).ok (by decide) (by decide))
      unfold SurdPost at HLEN
      have HQ:=hid (fun v b W' (hg:Good W') (h:Surd1 W' v b (sumR (lgL D y)))=>surd_Rational v b _ HOKS.out HNZ.out W' hg h)
      unfold RV at HQ
      generalize hx1:tx (bedQ s D x 0).1=x1 at *
      generalize hx2:tx (bedQ s D x 0).2=x2 at *
      generalize hy1:tx (bedQ s D y 0).1=y1 at *
      generalize hy2:tx (bedQ s D y 0).2=y2 at *
      generalize tx (sumR (lgL D y))=ts at *
      have hts:(ts.toList != ts.toList)=false:=by simp
      clear hx1 hx2 hy1 hy2 HKL HEQ1 HEQ2
      go_wp2_with fail
      go_quiet (fail)
      go_wp2_with fail
      refine (HLEN.out (W.drewN _) ⟨hW.os,hW.tape,hW.output,hW.size,hW.block⟩).mono ?_
      rintro e u1 ⟨vu,bu,rfl,hs,-,hu1⟩
      have hb1:Below wL.heap.size wL u1:=by
       have hx:=hu1.mono (show wL.heap.size≤_ from hW.size)
       refine Below.trans ?_ hx
       exact ⟨hW.os,hW.tape,hW.output,hW.size,hW.block⟩
      have HR:=hid (HQ.out vu bu u1 (HG.out u1 (HSL.out.trans (hb1.mono HSL.out.size))) hs)
      clear hs hu1 l0 a0 a1 b0 b1 heq
      go_wp2_with fail
      refine HR.out.mono ?_
      rintro e u2 ⟨rfl,hu2⟩
      have hb2:=hb1.trans (hu2.mono hb1.size)
      obtain ⟨d0,d1,d2,d3⟩:=four_cells ((hb2.block _ (lt_of_some HPRL.out)).trans HPRL.out)
      have hl2u:w2.heap.size<u2.heap.size:=Nat.lt_of_lt_of_le (lt_of_some HPRL.out) hb2.size
      go_wp2_with fail
      refine (HKL2.out u2 hb2).mono ?_
      rintro e u3 ⟨rfl,hu3⟩
      have hb3:=hb2.trans (hu3.mono hb2.size)
      clear d0 d1 d2 d3
      go_wp2
      refine ⟨⟨.inr (.inr rfl),hb3⟩,?_⟩
      decide
     ·go_wp2
      go_ret
      exact ⟨rfl,HBW.out _ (HSL.out.trans (hW.mono HSL.out.size))⟩
 ·have hl1:decide ((4:Int)<(D0.length:Int))=true:=decide_eq_true (by omega)
  go_wp2_with fail
  refine (HKN.out w1 (hw.below hbw1)).mono ?_
  rintro e w2 ⟨rfl,hb2⟩
  go_wp2
  go_ret
  exact ⟨rfl,hbw1.trans (hb2.mono hbw1.size)⟩
end Go.Proofs.YtogdahbbogimcaaGreatDoor
