import Derived.Test.YtogdahbbogimcaaGreatDoorC3Z
set_option maxRecDepth 100000
set_option maxHeartbeats 8000000
namespace Go.Proofs.YtogdahbbogimcaaGreatDoor
open Go.RowKit Go.Shelf
open Go.Lib (decDigits itoa nDigits)
open Go.Lib (hid)
theorem PtsV.cellsB {w:World} {v:Value} {f:Nat→QP} {n:Nat} (h:PtsV w v f n):∃ B cp,v=.slice (some ⟨B,0,none⟩) n cp∧n≤cp∧cp≤maxLen∧B<w.heap.size∧Go.RowKit.Hid (∀ i,i<n→∀ wr,Below w.heap.size w wr→wr.cell? ⟨B,i*2,none⟩=some (.string (tx (f i).1))∧wr.cell? ⟨B,i*2+1,none⟩=some (.string (tx (f i).2))):=by
 obtain ⟨b,c,e1,e2,e3,e4,e5⟩:=h
 exact ⟨b,c,e1,e2,e3,e4,fun i hi wr hb=>⟨(hb.cell (p:=⟨b,i*2,none⟩) e4).trans (e5 i hi).1,(hb.cell (p:=⟨b,i*2+1,none⟩) e4).trans (e5 i hi).2⟩⟩
def OkP (p:QP):Prop:=OkB p.1∧OkB p.2
theorem OkP.sz {p:QP} (h:OkP p):Sz2 402 p:=⟨h.1.sz,h.2.sz⟩
theorem box_pt {w wA:World} {a b:Value} {t:TypeId} (hwA:wA=w.alloc (Obj.cells #[a,b] t)) :
  Below w.heap.size w wA∧w.heap.size<wA.heap.size∧wA.cell? ⟨w.heap.size,0,none⟩=some a∧wA.cell? ⟨w.heap.size,1,none⟩=some b:=by
 rw [hwA]
 have h:=World.alloc_heap_new w (Obj.cells #[a,b] t)
 obtain ⟨h1,h2,_,_⟩:=two_cells h
 exact ⟨alloc_below _ _,lt_of_blk h,h1,h2⟩
theorem pl_simple (v:Value) (c:List QP) (segs:Nat) (hS:SimpleC c segs) (hl:segs≤c.length) (hn:c.length≤1000) (hz:∀ p∈c,Sz2 10000 p) (w:World) (hw:Good w) (hv:PtsV w v (pt c) c.length) :
  Calls Tryz.prog 56 #[v,.int .i64 (segs:Int)] w (RV (.int .i64 0) w):=by
 have HX:=hid (fun i k (hik:i<k) (hk:k<segs) w' (hb:Below w.heap.size w w')=>pl_crossed v c segs i k hik hk hl hn hz (hS.notX hl hik hk) w' (hw.below hb) (hv.below hb))
 have hb:=Below.refl w.heap.size w
 unfold RV at *
 clear hS hz hv
 go_enter Tryz.func56,Tryz.ntmps56
 go_wp2_with fail
 go_loopw [4,8] (fun _ iv wr=>∃ i:Nat,i≤segs∧iv=.int .i64 (i:Int)∧Below w.heap.size w wr) (fun _ iv _=>segs-(intOf iv).toNat)
 case atStart=>exact ⟨0,Nat.zero_le _,rfl,hb⟩
 case round =>
  clear hb
  obtain ⟨i,hil,rfl,hbr⟩:=hrel
  by_cases hi:i<segs
  ·have hkn:decide ((i:Int)<(segs:Int))=true:=decide_eq_true (by omega)
   have m1:IntKind.i64.wrap ((i:Int)+1)=(i:Int)+1:=IntWalk.i64_in _ (by omega)
   obtain ⟨wo,hwo⟩ : ∃ wo,wo=wr:=⟨_,rfl⟩
   subst hwo
   go_wp2_with fail
   go_loopw [4,6] (fun _ iv wr=>∃ k:Nat,i<k∧k≤segs∧iv=.int .i64 (k:Int)∧Below w.heap.size w wr) (fun _ iv _=>segs-(intOf iv).toNat)
   case atStart=>exact ⟨i+1,by omega,by omega,int_succ i,hbr⟩
   case round =>
    clear hbr
    obtain ⟨k,hik,hkl,rfl,hbr⟩:=hrel
    by_cases hk:k<segs
    ·have hkk:decide ((k:Int)<(segs:Int))=true:=decide_eq_true (by omega)
     have m2:IntKind.i64.wrap ((k:Int)+1)=(k:Int)+1:=IntWalk.i64_in _ (by omega)
     go_wp2_with fail
     refine (HX.out i k hik hk wr hbr).mono ?_
     rintro e w1 ⟨rfl,hb1⟩
     go_wp2
     refine ⟨⟨k+1,by omega,hk,int_succ k,hbr.trans (hb1.mono hbr.size)⟩,?_⟩
     show segs-((k:Int)+1).toNat<segs-((k:Int)).toNat
     omega
    ·have hkk:decide ((k:Int)<(segs:Int))=false:=decide_eq_false (by omega)
     go_wp2
     refine ⟨⟨i+1,hi,int_succ i,hbr⟩,?_⟩
     show segs-((i:Int)+1).toNat<segs-((i:Int)).toNat
     omega
  ·have hkn:decide ((i:Int)<(segs:Int))=false:=decide_eq_false (by omega)
   go_wp2
   go_ret
   exact ⟨rfl,hbr⟩
theorem pl_Check (v:Value) (c:List QP) (hS:SimpleC c (c.length-1)) (h2:2≤c.length) (hn:c.length≤400) (hz:∀ p∈c,OkP p) (w:World) (hw:Good w) (hv:PtsV w v (pt c) c.length) :
  Calls Tryz.prog 36 #[v] w (RV (.int .i64 0) w):=by
 have HSI:=hid (fun w' (hb:Below w.heap.size w w')=>pl_simple v c (c.length-1) hS (by omega) (by omega) (fun p hp=>(hz p hp).sz.mono (by decide)) w' (hw.below hb) (hv.below hb))
 have HCP:=hid (fun i (hi:i<c.length) w' (hg:Good w')=>vec_CheckPoint (pt c i) (hz _ (pt_memL hi)).1 (hz _ (pt_memL hi)).2 w' hg)
 have HNE:=hid (fun j (hj:j+1<c.length)=>show ∀ w',_ from fun w'=>(eqlPts (pt c j) (pt c (j+1)) w').trans (by rw [decide_eq_false (by
  have h:=hS.ne j (by omega)
  rwa [Nat.mod_eq_of_lt hj] at h)]))
 obtain ⟨B,cp,rfl,hcl,hcm,hbl,HCE⟩:=hv.cellsB
 have hb:=Below.refl w.heap.size w
 unfold RV at *
 unfold ptV at HCP
 unfold maxLen at hcm
 have q1:decide ((c.length:Int)<2)=false:=decide_eq_false (by omega)
 have q2:decide ((400:Int)<(c.length:Int))=false:=decide_eq_false (by omega)
 have q3:decide ((c.length:Int)>400)=false:=decide_eq_false (by omega)
 have m0:IntKind.i64.wrap ((c.length:Int)-1)=((c.length-1:Nat):Int):=(IntWalk.i64_in _ (by omega)).trans (by omega)
 have hguard:=guardPts
 clear hS hz hv
 go_enter Tryz.func36,Tryz.ntmps36
 go_wp2_with fail
 go_loopw [2,15] (fun _ iv wr=>∃ i:Nat,i≤c.length∧iv=.int .i64 (i:Int)∧Below w.heap.size w wr) (fun _ iv _=>c.length-(intOf iv).toNat)
 case atStart=>exact ⟨0,Nat.zero_le _,rfl,hb⟩
 case round =>
  clear hb
  obtain ⟨i,hil,rfl,hbr⟩:=hrel
  by_cases hi:i<c.length
  ·have hkn:decide ((i:Int)<(c.length:Int))=true:=decide_eq_true (by omega)
   have i1:(0:Int)≤(i:Int):=by omega
   have i2:(i:Int)<(c.length:Int):=by omega
   have hblr:B<wr.heap.size:=Nat.lt_of_lt_of_le hbl hbr.size
   obtain ⟨c0,c1⟩:=HCE.out i hi wr hbr
   have H1:=hid (HCP.out i hi)
   rcases Nat.eq_zero_or_pos i with h0 | h0
   ·subst h0
    generalize tx (pt c 0).1=y1 at *
    generalize tx (pt c 0).2=y2 at *
    go_upto_region 8 with fail
    obtain ⟨wC,hwC⟩ : ∃ wC,wC=wr.alloc (Obj.cells #[.string y1,.string y2] 30):=⟨_,rfl⟩
    obtain ⟨hbC,hlC,z0,z1⟩:=box_pt hwC
    rw [←hwC]
    clear hwC c0 c1
    have hblC:=Nat.lt_of_lt_of_le hblr hbC.size
    have hb2:=hbr.trans (hbC.mono hbr.size)
    go_wp2_with fail
    refine (H1.out wC (hw.below hb2)).mono ?_
    rintro e w1 ⟨rfl,hw1⟩
    have z0:=(hw1.cell (p:=⟨wr.heap.size,0,none⟩) hlC).trans z0
    have z1:=(hw1.cell (p:=⟨wr.heap.size,1,none⟩) hlC).trans z1
    have hl1:=Nat.lt_of_lt_of_le hlC hw1.size
    have hblW:=Nat.lt_of_lt_of_le hblC hw1.size
    have hb3:=hb2.trans (hw1.mono hb2.size)
    go_wp2_with fail
    go_quiet (fail)
    go_wp2
    refine ⟨⟨0+1,hi,int_succ _,⟨hb3.os,hb3.tape,hb3.output,hb3.size,hb3.block⟩⟩,?_⟩
    show c.length-(((0:Nat):Int)+1).toNat<c.length-(((0:Nat):Int)).toNat
    omega
   ·obtain ⟨j,rfl⟩ : ∃ j,i=j+1:=⟨i-1,by omega⟩
    have heq:=HNE.out j hi
    have t1:IntKind.i64.wrap ((j:Int)+1-1)=(j:Int):=(IntWalk.i64_in _ (by omega)).trans (by omega)
    have t2:IntKind.i64.wrap (j:Int)=(j:Int):=IntWalk.i64_in _ (by omega)
    have t3:decide (0<(j:Int)+1)=true:=decide_eq_true (by omega)
    have j1:(0:Int)≤(j:Int):=by omega
    have j2:(j:Int)<(c.length:Int):=by omega
    have j3:(0:Int)≤(j:Int)+1:=by omega
    have j4:(j:Int)+1<(c.length:Int):=by omega
    have j5:((j:Int)+1).toNat=j+1:=by omega
    have j6:decide ((j:Int)+1<(c.length:Int))=true:=decide_eq_true (by omega)
    obtain ⟨d0,d1⟩:=HCE.out j (by omega) wr hbr
    generalize tx (pt c j).1=x1 at *
    generalize tx (pt c j).2=x2 at *
    generalize tx (pt c (j+1)).1=y1 at *
    generalize tx (pt c (j+1)).2=y2 at *
    go_upto_region 8 with fail
    obtain ⟨wC,hwC⟩ : ∃ wC,wC=wr.alloc (Obj.cells #[.string y1,.string y2] 30):=⟨_,rfl⟩
    obtain ⟨hbC,hlC,z0,z1⟩:=box_pt hwC
    rw [←hwC]
    clear hwC c0 c1
    have hblC:=Nat.lt_of_lt_of_le hblr hbC.size
    have hb2:=hbr.trans (hbC.mono hbr.size)
    go_wp2_with fail
    refine (H1.out wC (hw.below hb2)).mono ?_
    rintro e w1 ⟨rfl,hw1⟩
    have z0:=(hw1.cell (p:=⟨wr.heap.size,0,none⟩) hlC).trans z0
    have z1:=(hw1.cell (p:=⟨wr.heap.size,1,none⟩) hlC).trans z1
    have hl1:=Nat.lt_of_lt_of_le hlC hw1.size
    have hblW:=Nat.lt_of_lt_of_le hblC hw1.size
    have d0:=(hw1.cell (p:=⟨B,j*2,none⟩) hblC).trans ((hbC.cell (p:=⟨B,j*2,none⟩) hblr).trans d0)
    have d1:=(hw1.cell (p:=⟨B,j*2+1,none⟩) hblC).trans ((hbC.cell (p:=⟨B,j*2+1,none⟩) hblr).trans d1)
    have hb3:=hb2.trans (hw1.mono hb2.size)
    go_wp2_with fail
    go_quiet (fail)
    go_wp2
    refine ⟨⟨j+1+1,hi,int_succ _,⟨hb3.os,hb3.tape,hb3.output,hb3.size,hb3.block⟩⟩,?_⟩
    show c.length-(((j+1:Nat):Int)+1).toNat<c.length-(((j+1:Nat):Int)).toNat
    omega
  ·have hkn:decide ((i:Int)<(c.length:Int))=false:=decide_eq_false (by omega)
   go_wp2_with fail
   refine (HSI.out wr hbr).mono ?_
   rintro e w1 ⟨rfl,hb1⟩
   go_wp2
   go_ret
   exact ⟨rfl,hbr.trans (hb1.mono hbr.size)⟩
theorem pl_Ring (v:Value) (c:List QP) (hS:SimpleC c c.length) (h2:3≤c.length) (hn:c.length≤400) (hz:∀ p∈c,OkP p) (w:World) (hw:Good w) (hv:PtsV w v (pt c) c.length) :
  Calls Tryz.prog 28 #[v] w (RV (.int .i64 0) w):=by
 have HSI:=hid (fun w' (hb:Below w.heap.size w w')=>pl_simple v c c.length hS (by omega) (by omega) (fun p hp=>(hz p hp).sz.mono (by decide)) w' (hw.below hb) (hv.below hb))
 have HCP:=hid (fun i (hi:i<c.length) w' (hg:Good w')=>vec_CheckPoint (pt c i) (hz _ (pt_memL hi)).1 (hz _ (pt_memL hi)).2 w' hg)
 have HNE:=hid (fun i (hi:i<c.length)=>show ∀ w',_ from fun w'=>(eqlPts (pt c (if i=0 then c.length-1 else i-1)) (pt c i) w').trans (by rw [decide_eq_false (by
  have h:=hS.ne (if i=0 then c.length-1 else i-1) (by split <;> omega)
  rwa [show (((if i=0 then c.length-1 else i-1)+1) % c.length)=i by
   split
   ·rename_i h0;rw [show c.length-1+1=c.length by omega,Nat.mod_self,h0]
   ·rw [show i-1+1=i by omega,Nat.mod_eq_of_lt hi]] at h)]))
 obtain ⟨B,cp,rfl,hcl,hcm,hbl,HCE⟩:=hv.cellsB
 have hb:=Below.refl w.heap.size w
 unfold RV at *
 unfold ptV at HCP
 unfold maxLen at hcm
 have q1:decide ((c.length:Int)<3)=false:=decide_eq_false (by omega)
 have q2:decide ((400:Int)<(c.length:Int))=false:=decide_eq_false (by omega)
 have q3:decide ((c.length:Int)>400)=false:=decide_eq_false (by omega)
 have m0:IntKind.i64.wrap ((c.length:Int)-1)=((c.length-1:Nat):Int):=(IntWalk.i64_in _ (by omega)).trans (by omega)
 have hguard:=guardPts
 clear hS hz hv
 go_enter Tryz.func28,Tryz.ntmps28
 go_wp2_with fail
 go_loopw [2,15] (fun _ iv wr=>∃ i:Nat,i≤c.length∧iv=.int .i64 (i:Int)∧Below w.heap.size w wr) (fun _ iv _=>c.length-(intOf iv).toNat)
 case atStart=>exact ⟨0,Nat.zero_le _,rfl,hb⟩
 case round =>
  clear hb
  obtain ⟨i,hil,rfl,hbr⟩:=hrel
  by_cases hi:i<c.length
  ·have hkn:decide ((i:Int)<(c.length:Int))=true:=decide_eq_true (by omega)
   have i1:(0:Int)≤(i:Int):=by omega
   have i2:(i:Int)<(c.length:Int):=by omega
   have hblr:B<wr.heap.size:=Nat.lt_of_lt_of_le hbl hbr.size
   obtain ⟨c0,c1⟩:=HCE.out i hi wr hbr
   have H1:=hid (HCP.out i hi)
   obtain ⟨j,hj⟩ : ∃ j,j=if i=0 then c.length-1 else i-1:=⟨_,rfl⟩
   have hjl:j<c.length:=by rw [hj];split <;> omega
   have heq:=HNE.out i hi
   rw [←hj] at heq
   have t1:Int.tmod ((i:Int)+(c.length:Int)-1) (c.length:Int)=(j:Int):=by
    rw [Int.tmod_eq_emod_of_nonneg (by omega),hj]
    split
    ·rename_i h0
     rw [h0,show ((0:Nat):Int)+(c.length:Int)-1=((c.length-1:Nat):Int) by omega,Int.emod_eq_of_lt (by omega) (by omega)]
    ·rw [show (i:Int)+(c.length:Int)-1=((i-1:Nat):Int)+(c.length:Int)*1 by omega,Int.add_mul_emod_self_left,Int.emod_eq_of_lt (by omega) (by omega)]
   have t2:IntKind.i64.wrap ((i:Int)+(c.length:Int))=(i:Int)+(c.length:Int):=IntWalk.i64_in _ (by omega)
   have t3:IntKind.i64.wrap ((i:Int)+(c.length:Int)-1)=(i:Int)+(c.length:Int)-1:=IntWalk.i64_in _ (by omega)
   have t4:((c.length:Int) == 0)=false:=beq_eq_false_iff_ne.2 (by omega)
   have t5:(c.length:Int)≠0:=by omega
   have t6:c≠[]:=by intro h;rw [h] at h2;simp at h2
   have j1:(0:Int)≤(j:Int):=by omega
   have j2:(j:Int)<(c.length:Int):=by omega
   obtain ⟨d0,d1⟩:=HCE.out j hjl wr hbr
   clear hj
   generalize tx (pt c j).1=x1 at *
   generalize tx (pt c j).2=x2 at *
   generalize tx (pt c i).1=y1 at *
   generalize tx (pt c i).2=y2 at *
   go_upto_region 8 with fail
   obtain ⟨wC,hwC⟩ : ∃ wC,wC=wr.alloc (Obj.cells #[.string y1,.string y2] 30):=⟨_,rfl⟩
   obtain ⟨hbC,hlC,z0,z1⟩:=box_pt hwC
   rw [←hwC]
   clear hwC c0 c1
   have hblC:=Nat.lt_of_lt_of_le hblr hbC.size
   have hb2:=hbr.trans (hbC.mono hbr.size)
   go_wp2_with fail
   refine (H1.out wC (hw.below hb2)).mono ?_
   rintro e w1 ⟨rfl,hw1⟩
   have z0:=(hw1.cell (p:=⟨wr.heap.size,0,none⟩) hlC).trans z0
   have z1:=(hw1.cell (p:=⟨wr.heap.size,1,none⟩) hlC).trans z1
   have hl1:=Nat.lt_of_lt_of_le hlC hw1.size
   have hblW:=Nat.lt_of_lt_of_le hblC hw1.size
   have d0:=(hw1.cell (p:=⟨B,j*2,none⟩) hblC).trans ((hbC.cell (p:=⟨B,j*2,none⟩) hblr).trans d0)
   have d1:=(hw1.cell (p:=⟨B,j*2+1,none⟩) hblC).trans ((hbC.cell (p:=⟨B,j*2+1,none⟩) hblr).trans d1)
   have hb3:=hb2.trans (hw1.mono hb2.size)
   go_wp2_with fail
   go_quiet (fail)
   go_wp2
   refine ⟨⟨i+1,hi,int_succ _,⟨hb3.os,hb3.tape,hb3.output,hb3.size,hb3.block⟩⟩,?_⟩
   show c.length-(((i:Nat):Int)+1).toNat<c.length-(((i:Nat):Int)).toNat
   omega
  ·have hkn:decide ((i:Int)<(c.length:Int))=false:=decide_eq_false (by omega)
   go_wp2_with fail
   refine (HSI.out wr hbr).mono ?_
   rintro e w1 ⟨rfl,hb1⟩
   go_wp2
   go_ret
   exact ⟨rfl,hbr.trans (hb1.mono hbr.size)⟩
theorem pl_total (v:Value) (c:List QP) (h2:2≤c.length) (hn:c.length≤1000) (hz:∀ p∈c,Sz2 1000000 p) (hA:∀ k,k+2≤c.length→Sz 900000000 (areaTo c k)) (w:World) (hw:Good w) (hv:PtsV w v (pt c) c.length) :
  Calls Tryz.prog 29 #[v] w (RV (.string (tx (areaP c))) w):=by
 have HAR:=hid (fun i (hi:i<c.length) j (hj:j<c.length) k (hk:k<c.length) w' (hg:Good w')=>pl_area (pt c i) (pt c j) (pt c k) (hz _ (pt_memL hi)) (hz _ (pt_memL hj)) (hz _ (pt_memL hk)) w' hg)
 have HAD:=hid (fun k (hk:k+2<c.length) w' (hg:Good w')=>k_add (areaTo c k) (crs (pt c 0) (pt c (k+1)) (pt c (k+2))) ((hA k (by omega)).mono (by decide)) ((sz_crs (hz _ (pt_memL (show 0<c.length by omega))) (hz _ (pt_memL (show k+1<c.length by omega))) (hz _ (pt_memL hk))).mono (by decide)) w' hg)
 unfold RV at HAR HAD
 unfold ptV at HAR
 have HT0:=hid (show (⟨#[48]⟩ : ByteArray)=tx (areaTo c 0) from tx0.symm)
 obtain ⟨B,cp,rfl,hcl,hcm,hbl,HCL⟩:=hv.cellsB
 unfold maxLen at hcm
 have hbw:=Below.refl w.heap.size w
 clear hz hv hA
 go_enter Tryz.func29,Tryz.ntmps29
 go_wp2_with fail
 go_loopw [3,4] (fun sv iv wr=>∃ (k:Nat) (s:ByteArray),k+2≤c.length∧s=tx (areaTo c k)∧sv=.string s∧iv=.int .i64 ((k+1+1:Nat):Int)∧Below w.heap.size w wr) (fun _ iv _=>c.length-(intOf iv).toNat)
 case atStart=>exact ⟨0,_,h2,HT0.out,rfl,rfl,hbw⟩
 case round =>
  obtain ⟨k,s,hk2,hs,rfl,rfl,hbr⟩:=hrel
  have HS:=hid hs
  clear hs
  have m1:IntKind.i64.wrap ((k:Int)+1+1+1)=(k:Int)+1+1+1:=IntWalk.i64_in _ (by omega)
  by_cases hk:k+1+1<c.length
  ·have hkn:decide ((k:Int)+1+1<(c.length:Int))=true:=decide_eq_true (by omega)
   obtain ⟨a0,a1⟩:=HCL.out 0 (by omega) wr hbr
   obtain ⟨b0,b1⟩:=HCL.out (k+1) (by omega) wr hbr
   obtain ⟨c0,c1⟩:=HCL.out (k+1+1) (by omega) wr hbr
   rw [Nat.zero_mul] at a0 a1
   rw [Nat.zero_add] at a1
   have hblr:B<wr.heap.size:=Nat.lt_of_lt_of_le hbl hbr.size
   have m1b:IntKind.i64.wrap ((k:Int)+1+1-1)=(k:Int)+1:=(IntWalk.i64_in _ (by omega)).trans (by omega)
   have m1c:IntKind.i64.wrap ((k:Int)+1)=(k:Int)+1:=IntWalk.i64_in _ (by omega)
   have m2:(0:Int)≤(k:Int)+1:=by omega
   have m3:(k:Int)+1<(c.length:Int):=by omega
   have m4:(0:Int)≤(k:Int)+1+1:=by omega
   have m5:(k:Int)+1+1<(c.length:Int):=by omega
   have m6:((k:Int)+1).toNat=k+1:=by omega
   have m7:((k:Int)+1+1).toNat=k+1+1:=by omega
   have m8:k+1<c.length:=by omega
   have m9:k+1+1<c.length:=by omega
   have m10:0<c.length:=by omega
   have H1:=hid (HAR.out 0 m10 (k+1) m8 (k+1+1) m9)
   have H2:=hid (HAD.out k hk)
   rw [←HS.out] at H2
   obtain ⟨s2,hs2⟩ : ∃ s2,s2=tx (areaTo c (k+1)):=⟨_,rfl⟩
   have HS2:=hid hs2
   rw [show areaTo c k+crs (pt c 0) (pt c (k+1)) (pt c (k+2))=areaTo c (k+1) from rfl,←hs2] at H2
   clear hs2
   rw [show k+2=k+1+1 from rfl] at H2
   generalize tx (crs (pt c 0) (pt c (k+1)) (pt c (k+1+1)))=t at *
   generalize tx (pt c 0).1=x1 at *
   generalize tx (pt c 0).2=x2 at *
   generalize tx (pt c (k+1)).1=y1 at *
   generalize tx (pt c (k+1)).2=y2 at *
   generalize tx (pt c (k+1+1)).1=z1 at *
   generalize tx (pt c (k+1+1)).2=z2 at *
   go_wp2_with fail
   refine wp_held_pl (fun W'=>Below wr.heap.size wr W') (.take 0 (.take 1 (.take 2 (.take 3 (.take 4 (.take 5 (.take 6 (.take 7 (.take 8 (.take 9 (.take 10 (.take 11 (.take 12 (.one 13 (.one 14 .fin))))))))))))))) 15 (by kernel_rfl) (by kernel_rfl) ⟨rfl,rfl,rfl,Nat.le_refl _,fun _ _=>rfl⟩ ?_
   have hP0:Below wr.heap.size wr wr.drew:=⟨rfl,rfl,rfl,Nat.le_refl _,fun _ _=>rfl⟩
   generalize wr.drew=pv0 at *
   iterate 13
    refine wpPl_take rfl ?_ rfl ?_ ?_
    rotate_left
    ·intro W' hS'
     have s0:=(hS'.cell (p:=⟨B,0,none⟩) hblr).trans a0
     have s1:=(hS'.cell (p:=⟨B,1,none⟩) hblr).trans a1
     have s2:=(hS'.cell (p:=⟨B,(k+1)*2,none⟩) hblr).trans b0
     have s3:=(hS'.cell (p:=⟨B,(k+1)*2+1,none⟩) hblr).trans b1
     have s4:=(hS'.cell (p:=⟨B,(k+1+1)*2,none⟩) hblr).trans c0
     have s5:=(hS'.cell (p:=⟨B,(k+1+1)*2+1,none⟩) hblr).trans c1
     go_simp
     try with_reducible rfl
    try simp only [zA,zB,zC,Act.put,zD,zE,zF]
   refine wpPl_keep rfl rfl (fun K hK=>?_)
   go_simp
   refine (H1.out _ (hw.below (hbr.trans (hP0.mono hbr.size)))).mono ?_
   rintro e pv1 ⟨rfl,hbpv1⟩
   have hP1:=hP0.trans (hbpv1.mono hP0.size)
   refine hK _ _ ⟨hP1,?_⟩
   clear hK K
   try simp only [zA,zB,zC,Act.put,zD,zE,zF]
   refine wpPl_keep rfl rfl (fun K hK=>?_)
   go_simp
   refine (H2.out _ (hw.below (hbr.trans (hP1.mono hbr.size)))).mono ?_
   rintro e pv2 ⟨rfl,hbpv2⟩
   have hP2:=hP1.trans (hbpv2.mono hP1.size)
   refine hK _ _ ⟨hP2,?_⟩
   clear hK K
   try simp only [zA,zB,zC,Act.put,zD,zE,zF]
   unfold wpPl
   simp only [List.drop_succ_cons,List.drop_zero]
   have hbu:=hbr.trans (hP2.mono hbr.size)
   go_wp2
   refine NormalOnly.mk ?_
   go_wp2
   refine ⟨⟨k+1,s2,hk,HS2.out,rfl,by simp,hbu⟩,?_⟩
   show c.length-((k:Int)+1+1+1).toNat<c.length-((k:Int)+1+1).toNat
   omega
  ·have hkn:decide ((k:Int)+1+1<(c.length:Int))=false:=decide_eq_false (by omega)
   have HR:=hid (show s=tx (areaP c) by rw [HS.out];unfold areaP;rw [show c.length-2=k by omega])
   go_wp2
   go_ret
   exact ⟨by rw [←HR.out];rfl,hbr⟩
theorem pl_Area (v:Value) (c:List QP) (hS:SimpleC c c.length) (h3:3≤c.length) (hn:c.length≤400) (hz:∀ p∈c,OkP p) (hA:∀ k,k+2≤c.length→Sz 900000000 (areaTo c k)) (hok:OkB (areaP c)) (w:World) (hw:Good w) (hv:PtsV w v (pt c) c.length) :
  Calls Tryz.prog 9 #[v] w (RV (.tuple #[.string (tx (areaP c)),.int .i64 0]) w):=by
 have HR:=hid (pl_Ring v c hS h3 hn hz w hw hv)
 have HT:=hid (fun w' (hb:Below w.heap.size w w')=>pl_total v c (by omega) (by omega) (fun p hp=>(hz p hp).sz.mono (by decide)) hA w' (hw.below hb) (hv.below hb))
 have HC:=hid (fun w' (hg:Good w')=>k_check (areaP c) hok w' hg)
 unfold RV at *
 clear hS hz hA hok hv
 generalize tx (areaP c)=t at *
 go_enter Tryz.func9,Tryz.ntmps9
 go_wp2_with fail
 refine HR.out.mono ?_
 rintro e w1 ⟨rfl,hb1⟩
 go_wp2_with fail
 refine (HT.out w1 hb1).mono ?_
 rintro e w2 ⟨rfl,h2⟩
 have hb2:=hb1.trans (h2.mono hb1.size)
 go_wp2_with fail
 refine (HC.out w2 (hw.below hb2)).mono ?_
 rintro e w3 ⟨rfl,h3'⟩
 go_wp2
 go_ret2
 exact ⟨rfl,hb2.trans (h3'.mono hb2.size)⟩
end Go.Proofs.YtogdahbbogimcaaGreatDoor
