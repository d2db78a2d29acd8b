import Derived.Test.YtogdahbbogimcaaGreatDoorC5Z
import Derived.BigQuiet
set_option maxRecDepth 100000
set_option maxHeartbeats 4000000
namespace Go.Proofs.YtogdahbbogimcaaGreatDoor
open Go.RowKit Go.Shelf
open Go.Lib (decDigits itoa nDigits)
open Go.Lib (hid)
theorem sgn1:sgn 1=1:=rfl
theorem surd_Check (v:Value) (b:Nat) (q:Rat) (hq:OkB q) (h0:q≠0) (w:World) (hw:Good w) (hv:Surd1 w v b q):Calls Tryz.prog 38 #[v] w (RV (.int .i64 0) w):=by
 have HC:=hid (fun w' (hg:Good w')=>k_check q hq w' hg)
 have HO:=hid (fun w'=>one_check w')
 have HS:=hid (fun w'=>integer_Sign ⟨#[49]⟩ 1 isI_one w')
 rw [sgn1] at HS
 have HR:=hid (fun w' (hg:Good w')=>surd_root ⟨#[49]⟩ 1 isI_one (by decide) w' hg)
 have hz:((tx q).toList == [48])=false:=by rw [(isR_mk q).zero];exact decide_eq_false h0
 have hone:((⟨#[49]⟩ : ByteArray).toList != [49])=false:=by decide +kernel
 have HN:=hid (fun p c fv w'=>contains_of (.slice p 0 c) fv w' (index_none p c fv w'))
 obtain ⟨c,rfl,h1,h2,h3,h4,h5,_,_⟩:=hv.cells
 have hb:=Below.refl w.heap.size w
 unfold RV at *
 clear hq h0 hv
 generalize tx q=t at *
 go_enter Tryz.func38,Tryz.ntmps38
 go_wp2_with fail
 go_loopw [2,12] (fun _ iv wr=>(iv=.int .i64 0∨iv=.int .i64 1)∧Below w.heap.size w wr) (fun _ iv _=>1-(intOf iv).toNat)
 case atStart=>exact ⟨.inl rfl,hb⟩
 case round =>
  clear hb
  obtain ⟨hi,hbr⟩:=hrel
  rcases hi with rfl | rfl
  ·have d0:=(hbr.cell (p:=⟨b,0,none⟩) h3).trans h4
   have d1:=(hbr.cell (p:=⟨b,1,none⟩) h3).trans h5
   have hbl:b<wr.heap.size:=Nat.lt_of_lt_of_le h3 hbr.size
   clear h4 h5
   go_upto_region 6 with fail
   obtain ⟨wA,hwA⟩ : ∃ wA,wA=wr.alloc (Obj.cells #[.string t,.string ⟨#[49]⟩] 78):=⟨_,rfl⟩
   have hbA:Below wr.heap.size wr wA:=by rw [hwA];exact alloc_below _ _
   obtain ⟨e0,e1,_,_⟩:=two_cells (show wA.heap[wr.heap.size]?=some (.cells #[.string t,.string ⟨#[49]⟩] 78 (0,0)) by rw [hwA];exact World.alloc_heap_new _ _)
   have hlA:wr.heap.size<wA.heap.size:=by rw [hwA];simp
   rw [←hwA]
   clear hwA
   have hb1:=hbr.trans (hbA.mono hbr.size)
   go_wp2_with fail
   refine (HC.out wA (hw.below hb1)).mono ?_
   rintro e u1 ⟨rfl,hu1⟩
   have hb2:=hb1.trans (hu1.mono hb1.size)
   have e0':=(hu1.cell (p:=⟨wr.heap.size,0,none⟩) hlA).trans e0
   have e1':=(hu1.cell (p:=⟨wr.heap.size,1,none⟩) hlA).trans e1
   have hl1:=Nat.lt_of_lt_of_le hlA hu1.size
   clear e0 e1
   go_wp2_with fail
   refine (HO.out u1).mono ?_
   rintro e u2 ⟨rfl,hu2⟩
   have hb3:=hb2.trans (hu2.mono hb2.size)
   have f1:=(hu2.cell (p:=⟨wr.heap.size,1,none⟩) hl1).trans e1'
   have hl2:=Nat.lt_of_lt_of_le hl1 hu2.size
   clear e0' e1'
   go_wp2_with fail
   refine (HS.out u2).mono ?_
   rintro e u2' ⟨rfl,rfl⟩
   go_wp2_with fail
   refine (HR.out u2 (hw.below hb3)).mono ?_
   rintro e u3 ⟨s,rfl,hs,_,hu3⟩
   have hb4:=hb3.trans (hu3.mono hb3.size)
   have g1:=(hu3.cell (p:=⟨wr.heap.size,1,none⟩) hl2).trans f1
   have hl3:=Nat.lt_of_lt_of_le hl2 hu3.size
   clear hs f1
   go_wp2_with fail
   go_quiet (fail)
   go_wp2_with fail
   refine (HN.out _ _ _ _).mono ?_
   rintro e u4 ⟨rfl,hu4⟩
   have hb5:Below w.heap.size w u4:=by
    have hx:=hu4.mono (show w.heap.size≤_ from hb4.size)
    refine Below.trans ?_ hx
    exact ⟨hb4.os,hb4.tape,hb4.output,hb4.size,hb4.block⟩
   go_wp2
   refine ⟨⟨.inr rfl,hb5⟩,?_⟩
   decide
  ·go_wp2
   go_ret
   exact ⟨rfl,hbr⟩
def Surds (w:World) (v:Value) (B:Nat) (Q:List Rat):Prop:=∃ a c,v=.slice (some ⟨a,0,none⟩) Q.length c∧Q.length≤c∧c≤maxLen∧a<B∧B≤w.heap.size∧∀ i (_:i<Q.length),∃ u b,w.cell? ⟨a,i,none⟩=some u∧b<B∧Surd1 w u b Q[i]
theorem Surds.below {w w':World} {v:Value} {B:Nat} {Q:List Rat} (h:Surds w v B Q) (hb:Below B w w') (hs:B≤w'.heap.size):Surds w' v B Q:=by
 obtain ⟨a,c,h1,h2,h3,h4,h5,h6⟩:=h
 refine ⟨a,c,h1,h2,h3,h4,hs,fun i hi=>?_⟩
 obtain ⟨u,b,k1,k2,k3⟩:=h6 i hi
 refine ⟨u,b,(hb.cell (p:=⟨a,i,none⟩) h4).trans k1,k2,?_⟩
 obtain ⟨c',cur,m1,m2,m3,m4,m5⟩:=k3
 exact ⟨c',cur,m1,m2,m3,(hb.block b k2).trans m4,m5⟩
theorem surd_checkAll (v:Value) (B:Nat) (Q:List Rat) (hQ:∀ q∈Q,OkB q∧q≠0) (hn:Q.length≤1000) (w:World) (hw:Good w) (hv:Surds w v B Q):Calls Tryz.prog 104 #[v] w (RV (.int .i64 0) w):=by
 have hBs:B≤w.heap.size:=by obtain ⟨_,_,_,_,_,_,h,_⟩:=hv;exact h
 have HV:=hid (fun wr (hb:Below w.heap.size w wr)=>hv.below (hb.mono hBs) (Nat.le_trans hBs hb.size))
 have HK:=hid (fun i (hi:i<Q.length) u b w' (hg:Good w') (h:Surd1 w' u b Q[i])=>surd_Check u b Q[i] (hQ _ (List.getElem_mem hi)).1 (hQ _ (List.getElem_mem hi)).2 w' hg h)
 obtain ⟨a,c,rfl,h2,h3,h4,h5,_⟩:=hv
 have hb:=Below.refl w.heap.size w
 have hal:a<w.heap.size:=Nat.lt_of_lt_of_le h4 h5
 unfold RV at *
 clear hQ
 go_enter Tryz.func104,Tryz.ntmps104
 go_wp2_with fail
 go_loopw [2,8] (fun _ iv wr=>∃ k:Nat,k≤Q.length∧iv=.int .i64 (k:Int)∧Below w.heap.size w wr) (fun _ iv _=>Q.length-(intOf iv).toNat)
 case atStart=>exact ⟨0,Nat.zero_le _,rfl,hb⟩
 case round =>
  clear hb
  obtain ⟨k,hkl,rfl,hbr⟩:=hrel
  by_cases hk:k<Q.length
  ·have hkn:decide ((k:Int)<(Q.length:Int))=true:=decide_eq_true (by omega)
   have i1:(0:Int)≤(k:Int):=by omega
   have i2:(k:Int)<(Q.length:Int):=by omega
   obtain ⟨a',c',e,_,_,_,_,hx⟩:=HV.out wr hbr
   cases e
   obtain ⟨u,b,k1,k2,k3⟩:=hx k hk
   have K3:=hid k3
   obtain ⟨c',cur,rfl,_⟩:=k3
   have hblr:a<wr.heap.size:=Nat.lt_of_lt_of_le hal hbr.size
   clear hx
   go_wp2_with fail
   refine (HK.out k hk _ b wr (hw.below hbr) K3.out).mono ?_
   rintro e w1 ⟨rfl,hb1⟩
   go_wp2
   refine ⟨⟨k+1,hk,int_succ k,hbr.trans (hb1.mono hbr.size)⟩,?_⟩
   show Q.length-((k:Int)+1).toNat<Q.length-((k:Int)).toNat
   omega
  ·have hkn:decide ((k:Int)<(Q.length:Int))=false:=decide_eq_false (by omega)
   go_wp2
   go_ret
   exact ⟨rfl,hbr⟩
theorem surd_Rational (v:Value) (b:Nat) (q:Rat) (hq:OkB q) (h0:q≠0) (w:World) (hw:Good w) (hv:Surd1 w v b q):Calls Tryz.prog 12 #[v] w (RV (.tuple #[.string (tx q),.bool true,.int .i64 0]) w):=by
 have HC:=hid (surd_Check v b q hq h0 w hw hv)
 obtain ⟨c,rfl,h1,h2,h3,h4,h5,_,_⟩:=hv.cells
 have hone:((⟨#[49]⟩ : ByteArray).toList == [49])=true:=by decide +kernel
 unfold RV at *
 clear hq h0 hv
 generalize tx q=t at *
 go_enter Tryz.func12,Tryz.ntmps12
 go_wp2_with fail
 refine HC.out.mono ?_
 rintro e w1 ⟨rfl,hb1⟩
 have d0:=(hb1.cell (p:=⟨b,0,none⟩) h3).trans h4
 have d1:=(hb1.cell (p:=⟨b,1,none⟩) h3).trans h5
 have hbl:b<w1.heap.size:=Nat.lt_of_lt_of_le h3 hb1.size
 clear h4 h5
 go_wp2
 refine bodyPost_ret (v:=.tuple #[.string t,.bool true,.int .i64 0]) (by simp [results,Tryz.results12,go_sem]) rfl ?_
 exact ⟨rfl,hb1⟩
end Go.Proofs.YtogdahbbogimcaaGreatDoor
