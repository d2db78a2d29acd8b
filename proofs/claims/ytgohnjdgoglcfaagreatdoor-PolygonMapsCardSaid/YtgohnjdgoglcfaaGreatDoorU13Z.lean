import Derived.Test.YtgohnjdgoglcfaaGreatDoorT15Z
import Derived.Test.YtgohnjdgoglcfaaGreatDoorM2Z
import Derived.Test.YtgohnjdgoglcfaaGreatDoorBxZ
set_option maxRecDepth 100000
set_option maxHeartbeats 8000000
namespace Go.Proofs.YtgohnjdgoglcfaaGreatDoor
open Go.RowKit Go.Shelf
open Go.Lib (decDigits itoa nDigits)
open Go.Lib (hid)
theorem rows_cells {W:World} {B:Nat} {t:TypeId} {a b c d:Value} (h:W.heap[B]?=some (.cells #[a,b,c,d] t (0,0))):W.cell? ⟨B,0,none⟩=some a∧W.cell? ⟨B,1,none⟩=some b∧W.cell? ⟨B,2,none⟩=some c∧W.cell? ⟨B,3,none⟩=some d:=
 ⟨by simp [World.cell?,h],by simp [World.cell?,h],by simp [World.cell?,h],by simp [World.cell?,h]⟩
theorem boxes_map {w wA:World} {cs ds:Array Value} {t t':TypeId} (hwA:wA=(w.alloc (Obj.cells cs t)).alloc (Obj.cells ds t')):Below w.heap.size w wA∧wA.heap[w.heap.size]?=some (.cells cs t (0,0))∧wA.heap[w.heap.size+1]?=some (.cells ds t' (0,0)):=by
 have e1:=World.alloc_heap_new w (Obj.cells cs t)
 have p1:=alloc_below w (Obj.cells cs t)
 have s1:(w.alloc (Obj.cells cs t)).heap.size=w.heap.size+1:=by simp
 generalize w.alloc (Obj.cells cs t)=w1 at *
 have e2:=World.alloc_heap_new w1 (Obj.cells ds t')
 have p2:=alloc_below w1 (Obj.cells ds t')
 rw [←hwA] at e2 p2
 exact ⟨p1.trans (p2.mono (by omega)),(p2.block _ (by omega)).trans e1,by rw [←s1];exact e2⟩
theorem run_idxP (cs:Array Value) (k:Int) (v:Value) (h0:0≤k) (h3:k<3) (hv:.agg (cs.extract (k.toNat*2) (k.toNat*2+2))=v) (w:World):(Instr.index 123 (.agg cs) (.int .i64 k)).run Tryz.prog w=.ok v w:=by
 unfold Instr.index part
 simp [asIntOf,run_underlying Tryz.underlying123,h0,h3,Tryz.isAgg31,Tryz.sizeOf31,hv]
theorem okPr_two {a b:ByteArray} (h:okPr (a,b)=true):∃ q:QP,a=tx q.1∧b=tx q.2∧OkB q.1∧OkB q.2:=by
 have one:∀ s:ByteArray,okS s=true→∃ q:Rat,s=tx q∧OkB q:=fun s h=>by
  unfold okS at h
  have e:s=tx (ratV s):=(ratV_isR h).unique (isR_mk _)
  refine ⟨ratV s,e,?_⟩
  unfold OkB
  rw [←e]
  exact h
 unfold okPr at h
 rw [Bool.and_eq_true] at h
 obtain ⟨p,h1,h2⟩:=one a h.1
 obtain ⟨q,h3,h4⟩:=one b h.2
 exact ⟨(p,q),h1,h3,h2,h4⟩
theorem txs3 (a b c:Rat) (w:World):Txs (w.alloc (Obj.cells #[.string (tx a),.string (tx b),.string (tx c)] 29)) (.slice (some ⟨w.heap.size,0,none⟩) 3 3) [a,b,c]:=by
 refine ⟨_,_,rfl,Nat.le_refl _,by decide,by simp,fun i hi=>?_⟩
 match i,hi with
 | 0,_=>exact alloc_cells w #[_,_,_] _ 0 (by simp)
 | 1,_=>exact alloc_cells w #[_,_,_] _ 1 (by simp)
 | 2,_=>exact alloc_cells w #[_,_,_] _ 2 (by simp)
def mapTo (r s t:QP) (P:List QP) (k:Nat):List QP:=(P.take k).map (mapP r s t)
theorem mapTo_succ {r s t:QP} {P:List QP} {k:Nat} (hk:k<P.length):mapTo r s t P (k+1)=mapTo r s t P k ++ [mapP r s t (pt P k)]:=by
 unfold mapTo
 rw [List.take_succ_eq_append_getElem hk,List.map_append,pt_eq hk]
 rfl
theorem mapTo_len {r s t:QP} {P:List QP} {k:Nat} (hk:k≤P.length):(mapTo r s t P k).length=k:=by unfold mapTo;simp;omega
theorem mapTo_all {r s t:QP} {P:List QP} {k:Nat} (hk:k=P.length):mapTo r s t P k=P.map (mapP r s t):=by unfold mapTo;rw [hk,List.take_length]
def MapPost (P:List QP) (x1 x2 x3:Bool) (a1 a2 b1 b2 c1 c2:ByteArray) (w:World) (e:Ending) (w':World):Prop:=
 Below w.heap.size w w'∧((¬ (x1=true∧x2=true∧x3=true)∧e=.returned (.tuple #[.slice none 0 0,.int .i64 2])) ∨
  ∃ r s t:QP,a1=tx r.1∧a2=tx r.2∧b1=tx s.1∧b2=tx s.2∧c1=tx t.1∧c2=tx t.2∧(OkB r.1∧OkB r.2)∧(OkB s.1∧OkB s.2)∧(OkB t.1∧OkB t.2) ∧
   ((det2 r s=0∧e=.returned (.tuple #[.slice none 0 0,.int .i64 18]))∨(det2 r s≠0∧∃ q u,e=.returned (.tuple #[q,.int .i64 0])∧LeastAt (mapL r s t P) u∧Pts w' q (rotL (mapL r s t P) u))))
def MpTo (a b c:Bool) (k:Nat):Prop:=(0<k→a=true)∧(1<k→b=true)∧(2<k→c=true)
theorem pg_Map (v:Value) (P:List QP) (hP:Drf P) (a1 a2 b1 b2 c1 c2:ByteArray) (hs:a1.size≤40∧a2.size≤40∧b1.size≤40∧b2.size≤40∧c1.size≤40∧c2.size≤40) (w:World) (hw:Good w) (hv:Pts w v P) :
  Calls Tryz.prog 42 #[v,.agg #[.string a1,.string a2,.string b1,.string b2],.agg #[.string c1,.string c2]] w (MapPost P (okPr (a1,a2)) (okPr (b1,b2)) (okPr (c1,c2)) a1 a2 b1 b2 c1 c2 w):=by
 have h3:=hP.poly.1.1
 have h8:=hP.le8
 have HPP:=hid hP
 have HC:=hid (fun w' (hg:Good w') (hp:Pts w' v P)=>pg_checkP v P h3 (by omega) hP.ok w' hg hp)
 rw [polyC_poly hP.poly] at HC
 have HK1:=hid (fun w' (hg:Good w')=>vec_pointS a1 a2 (Nat.le_trans hs.1 (by decide)) (Nat.le_trans hs.2.1 (by decide)) w' hg)
 have HK2:=hid (fun w' (hg:Good w')=>vec_pointS b1 b2 (Nat.le_trans hs.2.2.1 (by decide)) (Nat.le_trans hs.2.2.2.1 (by decide)) w' hg)
 have HK3:=hid (fun w' (hg:Good w')=>vec_pointS c1 c2 (Nat.le_trans hs.2.2.2.2.1 (by decide)) (Nat.le_trans hs.2.2.2.2.2 (by decide)) w' hg)
 have HSZ:=hid hs
 have HO1:=hid (okPr_two (a:=a1) (b:=a2))
 have HO2:=hid (okPr_two (a:=b1) (b:=b2))
 have HO3:=hid (okPr_two (a:=c1) (b:=c2))
 have HV:=hid hv
 unfold RV at HC HK1 HK2 HK3
 obtain ⟨p,c,rfl,hcl,hcm⟩:=hv.slice
 unfold maxLen at hcm
 obtain ⟨B,off,rfl,hbl,hcell⟩:=Pts.cells hv (by omega)
 have HCL:=hid (fun i (hi:i<P.length) wx (h:Below w.heap.size w wx)=>And.intro ((h.cell (p:=⟨B,off+i*2,none⟩) hbl).trans (hcell i hi).1) ((h.cell (p:=⟨B,off+i*2+1,none⟩) hbl).trans (hcell i hi).2))
 clear hv hcell hP hs
 generalize okPr (a1,a2)=x1 at *
 generalize okPr (b1,b2)=x2 at *
 generalize okPr (c1,c2)=x3 at *
 obtain ⟨wA,hwA⟩ : ∃ wA,wA=(w.alloc (Obj.cells #[.string a1,.string a2,.string b1,.string b2] 77)).alloc (Obj.cells #[.string c1,.string c2] 31):=⟨_,rfl⟩
 have HWA:=hid hwA
 obtain ⟨hbA,y1,y2⟩:=boxes_map hwA
 have HY1:=hid y1
 have HY2:=hid y2
 clear hwA y1 y2
 go_enter Tryz.func42,Tryz.ntmps42
 go_upto_region 1 with fail
 rw [←HWA.out]
 go_wp2_with fail
 refine (HC.out _ (hw.below hbA) (HV.out.below hbA)).mono ?_
 rintro e w1 ⟨rfl,h1⟩
 have hb1:=hbA.trans (h1.mono hbA.size)
 replace HY1:=hid ((h1.block _ (lt_of_blk HY1.out)).trans HY1.out)
 replace HY2:=hid ((h1.block _ (lt_of_blk HY2.out)).trans HY2.out)
 obtain ⟨q0,q1,q2,q3⟩:=rows_cells HY1.out
 obtain ⟨sh0,sh1,_,_⟩:=two_cells HY2.out
 have X0:=run_idxP #[.string a1,.string a2,.string b1,.string b2,.string c1,.string c2] 0 (.agg #[.string a1,.string a2]) (by decide) (by decide) rfl
 have X1:=run_idxP #[.string a1,.string a2,.string b1,.string b2,.string c1,.string c2] 1 (.agg #[.string b1,.string b2]) (by decide) (by decide) rfl
 have X2:=run_idxP #[.string a1,.string a2,.string b1,.string b2,.string c1,.string c2] 2 (.agg #[.string c1,.string c2]) (by decide) (by decide) rfl
 clear HWA HC
 go_wp2_with fail
 go_loopw [6,7,10,11,29] (fun rv ev _ _ iv wr=>∃ k:Nat,k≤3∧rv=.slice none 0 0∧ev=.int .i64 0∧iv=.int .i64 (k:Int)∧MpTo x1 x2 x3 k∧Below w1.heap.size w1 wr) (fun _ _ _ _ iv _=>3-(intOf iv).toNat)
 case atStart=>exact ⟨0,by decide,rfl,rfl,rfl,⟨fun h=>absurd h (by decide),fun h=>absurd h (by decide),fun h=>absurd h (by decide)⟩,Below.refl _ _⟩
 case round =>
  obtain ⟨k,hk3,rfl,rfl,rfl,hM,hbr1⟩:=hrel
  have hbr:=hb1.trans (hbr1.mono hb1.size)
  have HM:=hid hM
  clear q0 q1 q2 q3 sh0 sh1 hM
  rcases (show k=0∨k=1∨k=2∨k=3 by omega) with rfl | rfl | rfl | rfl
  ·cases x1
   ·simp only [Bool.false_eq_true,if_false] at HK1
    go_wp2_with fail
    obtain ⟨wB,hwB⟩ : ∃ wB,wB=wr.alloc (Obj.cells #[.string a1,.string a2] 31):=⟨_,rfl⟩
    obtain ⟨hbB,lB,z0,z1⟩:=box_new hwB
    rw [←hwB]
    clear hwB
    have hbb:=hbr.trans (hbB.mono hbr.size)
    refine (HK1.out wB (hw.below hbb)).mono ?_
    rintro e w2 ⟨rfl,h2⟩
    go_wp2
    refine bodyPost_ret (v:=.tuple #[.slice none 0 0,.int .i64 2]) (by simp [results,Tryz.results42,go_sem]) rfl ?_
    exact ⟨hbb.trans (h2.mono hbb.size),.inl ⟨fun h=>Bool.noConfusion h.1,rfl⟩⟩
   ·simp only [if_true] at HK1
    go_wp2_with fail
    obtain ⟨wB,hwB⟩ : ∃ wB,wB=wr.alloc (Obj.cells #[.string a1,.string a2] 31):=⟨_,rfl⟩
    obtain ⟨hbB,lB,z0,z1⟩:=box_new hwB
    rw [←hwB]
    clear hwB
    have hbb:=hbr.trans (hbB.mono hbr.size)
    refine (HK1.out wB (hw.below hbb)).mono ?_
    rintro e w2 ⟨rfl,h2⟩
    go_wp2
    exact ⟨⟨1,by decide,rfl,rfl,rfl,⟨fun _=>rfl,fun h=>absurd h (by decide),fun h=>absurd h (by decide)⟩,hbr1.trans ((hbB.trans (h2.mono hbB.size)).mono hbr1.size)⟩,by decide⟩
  ·cases x2
   ·simp only [Bool.false_eq_true,if_false] at HK2
    go_wp2_with fail
    obtain ⟨wB,hwB⟩ : ∃ wB,wB=wr.alloc (Obj.cells #[.string b1,.string b2] 31):=⟨_,rfl⟩
    obtain ⟨hbB,lB,z0,z1⟩:=box_new hwB
    rw [←hwB]
    clear hwB
    have hbb:=hbr.trans (hbB.mono hbr.size)
    refine (HK2.out wB (hw.below hbb)).mono ?_
    rintro e w2 ⟨rfl,h2⟩
    go_wp2
    refine bodyPost_ret (v:=.tuple #[.slice none 0 0,.int .i64 2]) (by simp [results,Tryz.results42,go_sem]) rfl ?_
    exact ⟨hbb.trans (h2.mono hbb.size),.inl ⟨fun h=>Bool.noConfusion h.2.1,rfl⟩⟩
   ·simp only [if_true] at HK2
    go_wp2_with fail
    obtain ⟨wB,hwB⟩ : ∃ wB,wB=wr.alloc (Obj.cells #[.string b1,.string b2] 31):=⟨_,rfl⟩
    obtain ⟨hbB,lB,z0,z1⟩:=box_new hwB
    rw [←hwB]
    clear hwB
    have hbb:=hbr.trans (hbB.mono hbr.size)
    refine (HK2.out wB (hw.below hbb)).mono ?_
    rintro e w2 ⟨rfl,h2⟩
    go_wp2
    exact ⟨⟨2,by decide,rfl,rfl,rfl,⟨fun _=>HM.out.1 (by decide),fun _=>rfl,fun h=>absurd h (by decide)⟩,hbr1.trans ((hbB.trans (h2.mono hbB.size)).mono hbr1.size)⟩,by decide⟩
  ·cases x3
   ·simp only [Bool.false_eq_true,if_false] at HK3
    go_wp2_with fail
    obtain ⟨wB,hwB⟩ : ∃ wB,wB=wr.alloc (Obj.cells #[.string c1,.string c2] 31):=⟨_,rfl⟩
    obtain ⟨hbB,lB,z0,z1⟩:=box_new hwB
    rw [←hwB]
    clear hwB
    have hbb:=hbr.trans (hbB.mono hbr.size)
    refine (HK3.out wB (hw.below hbb)).mono ?_
    rintro e w2 ⟨rfl,h2⟩
    go_wp2
    refine bodyPost_ret (v:=.tuple #[.slice none 0 0,.int .i64 2]) (by simp [results,Tryz.results42,go_sem]) rfl ?_
    exact ⟨hbb.trans (h2.mono hbb.size),.inl ⟨fun h=>Bool.noConfusion h.2.2,rfl⟩⟩
   ·simp only [if_true] at HK3
    go_wp2_with fail
    obtain ⟨wB,hwB⟩ : ∃ wB,wB=wr.alloc (Obj.cells #[.string c1,.string c2] 31):=⟨_,rfl⟩
    obtain ⟨hbB,lB,z0,z1⟩:=box_new hwB
    rw [←hwB]
    clear hwB
    have hbb:=hbr.trans (hbB.mono hbr.size)
    refine (HK3.out wB (hw.below hbb)).mono ?_
    rintro e w2 ⟨rfl,h2⟩
    go_wp2
    exact ⟨⟨3,by decide,rfl,rfl,rfl,⟨fun _=>HM.out.1 (by decide),fun _=>HM.out.2.1 (by decide),fun _=>rfl⟩,hbr1.trans ((hbB.trans (h2.mono hbB.size)).mono hbr1.size)⟩,by decide⟩
  ·obtain ⟨m1,m2,m3⟩:=HM.out
   obtain ⟨r,e1,e2,r1,r2⟩:=HO1.out (m1 (by decide))
   obtain ⟨s,e3,e4,r3,r4⟩:=HO2.out (m2 (by decide))
   obtain ⟨t,e5,e6,r5,r6⟩:=HO3.out (m3 (by decide))
   have HRS:=hid (And.intro (And.intro r1 r2) (And.intro (And.intro r3 r4) (And.intro r5 r6)))
   obtain ⟨g1,g2,g3,g4,g5,g6⟩:=HSZ.out
   have HOK:=hid (HPP.out.map (r:=r) (s:=s) (t:=t) ⟨Sh.of_size (by rw [Sz,←e1];exact g1),Sh.of_size (by rw [Sz,←e2];exact g2)⟩ ⟨Sh.of_size (by rw [Sz,←e3];exact g3),Sh.of_size (by rw [Sz,←e4];exact g4)⟩ ⟨Sh.of_size (by rw [Sz,←e5];exact g5),Sh.of_size (by rw [Sz,←e6];exact g6)⟩)
   have HD1:=hid (fun w' (hg:Good w')=>k_mul r.1 s.2 (r1.sz.mono (by decide)) (r4.sz.mono (by decide)) w' hg)
   have HD2:=hid (fun w' (hg:Good w')=>k_mul r.2 s.1 (r2.sz.mono (by decide)) (r3.sz.mono (by decide)) w' hg)
   have zd:Sz 10000 (det2 r s):=((r1.sz.mul r4.sz).sub (r2.sz.mul r3.sz)).mono (by decide)
   have HD3:=hid (fun w' (hg:Good w')=>show Calls _ _ _ _ (RV (.string (tx (det2 r s))) w') from k_sub (r.1*s.2) (r.2*s.1) ((r1.sz.mul r4.sz).mono (by decide)) ((r2.sz.mul r3.sz).mono (by decide)) w' hg)
   have HSG:=hid (fun w'=>k_sign (det2 r s) (zd.mono (by decide)) w')
   have hz2:∀ k,k<P.length→Sz2 402 (pt P k):=fun k hk=>okP_sz (HPP.out.ok _ (pt_mem hk))
   have HU1:=hid (fun k (hk:k<P.length) w' (hg:Good w')=>k_mul r.1 (pt P k).1 (r1.sz.mono (by decide)) ((hz2 k hk).1.mono (by decide)) w' hg)
   have HU2:=hid (fun k (hk:k<P.length) w' (hg:Good w')=>k_mul r.2 (pt P k).2 (r2.sz.mono (by decide)) ((hz2 k hk).2.mono (by decide)) w' hg)
   have HU3:=hid (fun k (hk:k<P.length) vv w' (hg:Good w') hx=>k_sum3 (r.1*(pt P k).1) (r.2*(pt P k).2) t.1 ((r1.sz.mul (hz2 k hk).1).mono (by decide)) ((r2.sz.mul (hz2 k hk).2).mono (by decide)) (r5.sz.mono (by decide)) vv w' hg hx)
   have HV1:=hid (fun k (hk:k<P.length) w' (hg:Good w')=>k_mul s.1 (pt P k).1 (r3.sz.mono (by decide)) ((hz2 k hk).1.mono (by decide)) w' hg)
   have HV2:=hid (fun k (hk:k<P.length) w' (hg:Good w')=>k_mul s.2 (pt P k).2 (r4.sz.mono (by decide)) ((hz2 k hk).2.mono (by decide)) w' hg)
   have HV3:=hid (fun k (hk:k<P.length) vv w' (hg:Good w') hx=>k_sum3 (s.1*(pt P k).1) (s.2*(pt P k).2) t.2 ((r3.sz.mul (hz2 k hk).1).mono (by decide)) ((r4.sz.mul (hz2 k hk).2).mono (by decide)) (r6.sz.mono (by decide)) vv w' hg hx)
   have HFN:=hid (fun ov w' (hg:Good w') (hp:Pts w' ov (mapL r s t P))=>pg_finish ov (mapL r s t P) (by rw [mapL_len];omega) (by rw [mapL_len];omega) (fun p hp=>(okP_sz (HOK.out p (mapL_mem.1 hp))).mono (by decide)) w' hg hp)
   have HTE:=hid (And.intro e1 (And.intro e2 (And.intro e3 (And.intro e4 (And.intro e5 e6)))))
   rw [←e1] at HD1 HU1
   rw [←e2] at HD2 HU2
   rw [←e3] at HD2 HV1
   rw [←e4] at HD1 HV2
   unfold RV at HD1 HD2 HD3 HSG HU1 HU2 HU3 HV1 HV2 HV3
   unfold FinPost at HFN
   have HT1:=hid (fun k wq=>txs3 (r.1*(pt P k).1) (r.2*(pt P k).2) t.1 wq)
   have HT2:=hid (fun k wq=>txs3 (s.1*(pt P k).1) (s.2*(pt P k).2) t.2 wq)
   rw [←e5] at HT1
   rw [←e6] at HT2
   clear e1 e2 e3 e4 e5 e6 r1 r2 r3 r4 r5 r6 g1 g2 g3 g4 g5 g6 m1 m2 m3 hz2 zd HK1 HK2 HK3 HO1 HO2 HO3 X0 X1 X2 HM
   have lr1:=Nat.lt_of_lt_of_le (lt_of_blk HY1.out) hbr1.size
   have lr2:=Nat.lt_of_lt_of_le (lt_of_blk HY2.out) hbr1.size
   replace HY1:=hid ((hbr1.block _ (lt_of_blk HY1.out)).trans HY1.out)
   replace HY2:=hid ((hbr1.block _ (lt_of_blk HY2.out)).trans HY2.out)
   obtain ⟨q0,q1,q2,q3⟩:=rows_cells HY1.out
   obtain ⟨sh0,sh1,_,_⟩:=two_cells HY2.out
   obtain ⟨wz,hwz⟩ : ∃ q,q=wr:=⟨_,rfl⟩
   subst hwz
   generalize tx (r.1*s.2)=td1 at *
   generalize tx (r.2*s.1)=td2 at *
   have HDZ:=hid (fun h:det2 r s=0=>show tx (det2 r s)=⟨#[48]⟩ by rw [h,tx0])
   have HDN:=hid (show ((tx (det2 r s)).toList == [48])=decide (det2 r s=0) from (isR_mk (det2 r s)).zero)
   obtain ⟨td,htd⟩ : ∃ x,x=tx (det2 r s):=⟨_,rfl⟩
   rw [←htd] at HD3 HSG HDZ HDN
   clear htd
   go_wp2_with fail
   refine wp_held_list (fun W'=>Below wz.heap.size wz W') [0,1,2,3,4,5,7,8,9,10,11,12] [6,13,14] 15 (by kernel_rfl) (by kernel_rfl) ⟨rfl,rfl,rfl,Nat.le_refl _,fun _ _=>rfl⟩ ?_
   iterate 12
    refine wpTakeL_step rfl ?_ rfl ?_ ?_
    rotate_left
    ·intro W' hS'
     have s0:=(hS'.cell (p:=⟨w.heap.size,0,none⟩) lr1).trans q0
     have s1:=(hS'.cell (p:=⟨w.heap.size,1,none⟩) lr1).trans q1
     have s2:=(hS'.cell (p:=⟨w.heap.size,2,none⟩) lr1).trans q2
     have s3:=(hS'.cell (p:=⟨w.heap.size,3,none⟩) lr1).trans q3
     go_simp
     try with_reducible rfl
    try simp only [zA,zB,zC,Act.put,zD,zE,zF]
   have hR0:Below wz.heap.size wz wz.drew:=⟨rfl,rfl,rfl,Nat.le_refl _,fun _ _=>rfl⟩
   refine wpKeepL_step rfl rfl (fun K hK=>?_)
   go_simp
   refine (HD1.out _ (hw.below (hbr.trans (hR0.mono hbr.size)))).mono ?_
   rintro e u1 ⟨rfl,hbu1⟩
   have hR1:=hR0.trans (hbu1.mono hR0.size)
   refine hK _ _ ⟨hR1,?_⟩
   clear hK K
   try simp only [zA,zB,zC,Act.put,zD,zE,zF]
   refine wpKeepL_step rfl rfl (fun K hK=>?_)
   go_simp
   refine (HD2.out _ (hw.below (hbr.trans (hR1.mono hbr.size)))).mono ?_
   rintro e u2 ⟨rfl,hbu2⟩
   have hR2:=hR1.trans (hbu2.mono hR1.size)
   refine hK _ _ ⟨hR2,?_⟩
   clear hK K
   try simp only [zA,zB,zC,Act.put,zD,zE,zF]
   refine wpKeepL_step rfl rfl (fun K hK=>?_)
   go_simp
   refine (HD3.out _ (hw.below (hbr.trans (hR2.mono hbr.size)))).mono ?_
   rintro e u3 ⟨rfl,hbu3⟩
   have hR3:=hR2.trans (hbu3.mono hR2.size)
   refine hK _ _ ⟨hR3,?_⟩
   clear hK K
   try simp only [zA,zB,zC,Act.put,zD,zE,zF]
   unfold wpKeepL
   simp only [List.drop_succ_cons,List.drop_zero]
   try simp only [zA,zB,zC,Act.put,zD,zE,zF]
   refine wpKeep_step rfl (fun K hK=>?_)
   go_simp
   refine hK _ _ ⟨trivial,wpKeep_nil ?_⟩
   clear hK K
   try simp only [zA,zB,zC,Act.put,zD,zE,zF]
   refine NormalOnly.mk ?_
   have hbu:=hbr.trans (hR3.mono hbr.size)
   replace HY1:=hid ((hR3.block _ (lt_of_blk HY1.out)).trans HY1.out)
   replace HY2:=hid ((hR3.block _ (lt_of_blk HY2.out)).trans HY2.out)
   clear q0 q1 q2 q3 sh0 sh1 lr1 lr2
   by_cases hd:det2 r s=0
   ·have htd:=HDZ.out hd
    subst htd
    have HD:=hid hd
    clear hd HDN
    go_wp2
    refine bodyPost_ret (v:=.tuple #[.slice none 0 0,.int .i64 18]) (by simp [results,Tryz.results42,go_sem]) rfl ?_
    obtain ⟨e1,e2,e3,e4,e5,e6⟩:=HTE.out
    exact ⟨hbu,.inr ⟨r,s,t,e1,e2,e3,e4,e5,e6,HRS.out.1,HRS.out.2.1,HRS.out.2.2,.inl ⟨HD.out,rfl⟩⟩⟩
   ·have hdn:=HDN.out
    rw [decide_eq_false hd] at hdn
    have HD:=hid hd
    have hown0:u3.ownsRow u3.heap.size 31 2 (.slice none 0 0) 0 (cellsS ((mapTo r s t P 0).map textP)):=⟨rfl,.inl ⟨rfl,rfl⟩⟩
    have HO0:=hid hown0
    clear hd hown0 HDN HDZ
    go_wp2_with fail
    go_loopw [13,15,16,17,57] (fun ov _ _ _ iv wr=>∃ k:Nat,iv=.int .i64 (k:Int)∧k≤P.length∧wr.ownsRow u3.heap.size 31 2 ov k (cellsS ((mapTo r s t P k).map textP))∧Below u3.heap.size u3 wr) (fun _ _ _ _ iv _=>P.length-(intOf iv).toNat)
    case atStart=>exact ⟨0,rfl,Nat.zero_le _,HO0.out,Below.refl _ _⟩
    case round =>
     obtain ⟨k,rfl,hkl,hown,hbrz⟩:=hrel
     have hbR:=hbu.trans (hbrz.mono hbu.size)
     have HO:=hid hown
     by_cases hk:k<P.length
     ·have hkn:decide ((k:Int)<(P.length:Int))=true:=decide_eq_true (by omega)
      have i1:(0:Int)≤(k:Int):=by omega
      have i2:(k:Int)<(P.length:Int):=by omega
      obtain ⟨c0,c1⟩:=HCL.out k hk wr hbR
      have HS:=hid (mapTo_succ (r:=r) (s:=s) (t:=t) hk)
      have HLEN:=hid (mapTo_len (r:=r) (s:=s) (t:=t) (Nat.le_of_lt hk))
      have W1:=hid (HU1.out k hk)
      have W2:=hid (HU2.out k hk)
      have W3:=hid (HU3.out k hk)
      have W4:=hid (HV1.out k hk)
      have W5:=hid (HV2.out k hk)
      have W6:=hid (HV3.out k hk)
      have G1:=hid (HT1.out k)
      have G2:=hid (HT2.out k)
      have HL:=hid (show cellsS ((mapTo r s t P k).map textP) ++ [.string (tx (r.1*(pt P k).1+r.2*(pt P k).2+t.1)),.string (tx (s.1*(pt P k).1+s.2*(pt P k).2+t.2))]=cellsS ((mapTo r s t P k ++ [mapP r s t (pt P k)]).map textP) from cells_last (mapTo r s t P k) (mapP r s t (pt P k)))
      clear hown HU1 HU2 HU3 HV1 HV2 HV3 HT1 HT2 HFN
      generalize tx (r.1*(pt P k).1+r.2*(pt P k).2+t.1)=z1 at *
      generalize tx (s.1*(pt P k).1+s.2*(pt P k).2+t.2)=z2 at *
      generalize tx (r.1*(pt P k).1)=u1' at *
      generalize tx (r.2*(pt P k).2)=u2' at *
      generalize tx (s.1*(pt P k).1)=u3' at *
      generalize tx (s.2*(pt P k).2)=u4' at *
      generalize tx (pt P k).1=p1 at *
      generalize tx (pt P k).2=p2 at *
      go_upto_region 18 with fail
      obtain ⟨wB,hwB⟩ : ∃ wB,wB=wr.alloc (Obj.cells #[.string p1,.string p2] 31):=⟨_,rfl⟩
      obtain ⟨hbB,lB,z0',z1'⟩:=box_new hwB
      have hxB:wB.heap[wr.heap.size]?=some (.cells #[.string p1,.string p2] 31 (0,0)):=by rw [hwB];exact World.alloc_heap_new _ _
      rw [←hwB]
      clear hwB z0' z1' c0 c1
      have hbb:=hbR.trans (hbB.mono hbR.size)
      have hyz:=hbrz.trans (hbB.mono hbrz.size)
      have HZ1:=hid ((hyz.block _ (lt_of_blk HY1.out)).trans HY1.out)
      have HZ2:=hid ((hyz.block _ (lt_of_blk HY2.out)).trans HY2.out)
      have HXB:=hid hxB
      clear hxB
      have l1:=lt_of_blk HZ1.out
      have l2:=lt_of_blk HZ2.out
      have l3:=lt_of_blk HXB.out
      obtain ⟨q0,q1,q2,q3⟩:=rows_cells HZ1.out
      obtain ⟨sh0,sh1,_,_⟩:=two_cells HZ2.out
      obtain ⟨x0,x1,_,_⟩:=two_cells HXB.out
      refine wp_held_ph (fun W'=>Below wB.heap.size wB W') [(true,0),(true,1),(true,2),(true,3),(true,4),(true,6),(true,7),(true,8),(true,9),(true,10),(true,12),(true,13),(false,5),(false,11),(false,14),(false,15)] 16 (by kernel_rfl) (by kernel_rfl) ⟨rfl,rfl,rfl,Nat.le_refl _,fun _ _=>rfl⟩ ?_
      have hm_0:Below wB.heap.size wB wB.drew:=⟨rfl,rfl,rfl,Nat.le_refl _,fun _ _=>rfl⟩
      iterate 12
       refine wpPh_take rfl ?_ rfl ?_ ?_
       rotate_left
       ·intro W' hS'
        have s0:=(hS'.cell (p:=⟨w.heap.size,0,none⟩) l1).trans q0
        have s1:=(hS'.cell (p:=⟨w.heap.size,1,none⟩) l1).trans q1
        have s2:=(hS'.cell (p:=⟨w.heap.size,2,none⟩) l1).trans q2
        have s3:=(hS'.cell (p:=⟨w.heap.size,3,none⟩) l1).trans q3
        have s4:=(hS'.cell (p:=⟨w.heap.size+1,0,none⟩) l2).trans sh0
        have s5:=(hS'.cell (p:=⟨w.heap.size+1,1,none⟩) l2).trans sh1
        have s6:=(hS'.cell (p:=⟨wr.heap.size,0,none⟩) l3).trans x0
        have s7:=(hS'.cell (p:=⟨wr.heap.size,1,none⟩) l3).trans x1
        go_simp
        try with_reducible rfl
       try simp only [zA,zB,zC,Act.put,zD,zE,zF]
      refine wpPh_keep rfl rfl (fun K hK=>?_)
      go_simp
      refine (W1.out _ (hw.below (hbb.trans (hm_0.mono hbb.size)))).mono ?_
      rintro e m1 ⟨rfl,hbm1⟩
      have hm_1:=hm_0.trans (hbm1.mono hm_0.size)
      refine hK _ _ ⟨hm_1,?_⟩
      clear hK K
      try simp only [zA,zB,zC,Act.put,zD,zE,zF]
      refine wpPh_keep rfl rfl (fun K hK=>?_)
      go_simp
      refine (W2.out _ (hw.below (hbb.trans (hm_1.mono hbb.size)))).mono ?_
      rintro e m2 ⟨rfl,hbm2⟩
      have hm_2:=hm_1.trans (hbm2.mono hm_1.size)
      refine hK _ _ ⟨hm_2,?_⟩
      clear hK K
      try simp only [zA,zB,zC,Act.put,zD,zE,zF]
      refine wpPh_keep rfl rfl (fun K hK=>?_)
      go_simp
      obtain ⟨m3,hwm3⟩ : ∃ m3,m3=m2.alloc (Obj.cells #[.string u1',.string u2',.string c1] 29):=⟨_,rfl⟩
      have hbm3:Below m2.heap.size m2 m3:=by rw [hwm3];exact alloc_below _ _
      have hm_3:=hm_2.trans (hbm3.mono hm_2.size)
      have HTXm3:=hid (G1.out m2)
      rw [←hwm3] at HTXm3
      rw [←hwm3]
      have HWm3:=hid hwm3
      clear hwm3
      refine hK _ _ ⟨hm_3,?_⟩
      clear hK K
      try simp only [zA,zB,zC,Act.put,zD,zE,zF]
      refine wpPh_keep rfl rfl (fun K hK=>?_)
      go_simp
      refine (W3.out _ _ (hw.below (hbb.trans (hm_3.mono hbb.size))) HTXm3.out).mono ?_
      rintro e m4 ⟨rfl,hbm4⟩
      have hm_4:=hm_3.trans (hbm4.mono hm_3.size)
      refine hK _ _ ⟨hm_4,?_⟩
      clear hK K
      try simp only [zA,zB,zC,Act.put,zD,zE,zF]
      unfold wpPh
      simp only [List.drop_succ_cons,List.drop_zero]
      go_wp2
      refine NormalOnly.mk ?_
      have hbm:=hbb.trans (hm_4.mono hbb.size)
      replace HZ1:=hid ((hm_4.block _ (lt_of_blk HZ1.out)).trans HZ1.out)
      replace HZ2:=hid ((hm_4.block _ (lt_of_blk HZ2.out)).trans HZ2.out)
      replace HXB:=hid ((hm_4.block _ (lt_of_blk HXB.out)).trans HXB.out)
      have hym:=hyz.trans (hm_4.mono hyz.size)
      have hrm:=hbB.trans (hm_4.mono hbB.size)
      clear q0 q1 q2 q3 sh0 sh1 x0 x1 l1 l2 l3
      go_wp2_with fail
      have l1:=lt_of_blk HZ1.out
      have l2:=lt_of_blk HZ2.out
      have l3:=lt_of_blk HXB.out
      obtain ⟨q0,q1,q2,q3⟩:=rows_cells HZ1.out
      obtain ⟨sh0,sh1,_,_⟩:=two_cells HZ2.out
      obtain ⟨x0,x1,_,_⟩:=two_cells HXB.out
      refine wp_held_ph (fun W'=>Below m4.heap.size m4 W') [(true,0),(true,1),(true,2),(true,3),(true,4),(true,6),(true,7),(true,8),(true,9),(true,10),(true,12),(true,13),(false,5),(false,11),(false,14),(false,15)] 16 (by kernel_rfl) (by kernel_rfl) ⟨rfl,rfl,rfl,Nat.le_refl _,fun _ _=>rfl⟩ ?_
      have hn_0:Below m4.heap.size m4 m4.drew:=⟨rfl,rfl,rfl,Nat.le_refl _,fun _ _=>rfl⟩
      iterate 12
       refine wpPh_take rfl ?_ rfl ?_ ?_
       rotate_left
       ·intro W' hS'
        have s0:=(hS'.cell (p:=⟨w.heap.size,0,none⟩) l1).trans q0
        have s1:=(hS'.cell (p:=⟨w.heap.size,1,none⟩) l1).trans q1
        have s2:=(hS'.cell (p:=⟨w.heap.size,2,none⟩) l1).trans q2
        have s3:=(hS'.cell (p:=⟨w.heap.size,3,none⟩) l1).trans q3
        have s4:=(hS'.cell (p:=⟨w.heap.size+1,0,none⟩) l2).trans sh0
        have s5:=(hS'.cell (p:=⟨w.heap.size+1,1,none⟩) l2).trans sh1
        have s6:=(hS'.cell (p:=⟨wr.heap.size,0,none⟩) l3).trans x0
        have s7:=(hS'.cell (p:=⟨wr.heap.size,1,none⟩) l3).trans x1
        go_simp
        try with_reducible rfl
       try simp only [zA,zB,zC,Act.put,zD,zE,zF]
      refine wpPh_keep rfl rfl (fun K hK=>?_)
      go_simp
      refine (W4.out _ (hw.below (hbm.trans (hn_0.mono hbm.size)))).mono ?_
      rintro e n1 ⟨rfl,hbn1⟩
      have hn_1:=hn_0.trans (hbn1.mono hn_0.size)
      refine hK _ _ ⟨hn_1,?_⟩
      clear hK K
      try simp only [zA,zB,zC,Act.put,zD,zE,zF]
      refine wpPh_keep rfl rfl (fun K hK=>?_)
      go_simp
      refine (W5.out _ (hw.below (hbm.trans (hn_1.mono hbm.size)))).mono ?_
      rintro e n2 ⟨rfl,hbn2⟩
      have hn_2:=hn_1.trans (hbn2.mono hn_1.size)
      refine hK _ _ ⟨hn_2,?_⟩
      clear hK K
      try simp only [zA,zB,zC,Act.put,zD,zE,zF]
      refine wpPh_keep rfl rfl (fun K hK=>?_)
      go_simp
      obtain ⟨n3,hwn3⟩ : ∃ n3,n3=n2.alloc (Obj.cells #[.string u3',.string u4',.string c2] 29):=⟨_,rfl⟩
      have hbn3:Below n2.heap.size n2 n3:=by rw [hwn3];exact alloc_below _ _
      have hn_3:=hn_2.trans (hbn3.mono hn_2.size)
      have HTXn3:=hid (G2.out n2)
      rw [←hwn3] at HTXn3
      rw [←hwn3]
      have HWn3:=hid hwn3
      clear hwn3
      refine hK _ _ ⟨hn_3,?_⟩
      clear hK K
      try simp only [zA,zB,zC,Act.put,zD,zE,zF]
      refine wpPh_keep rfl rfl (fun K hK=>?_)
      go_simp
      refine (W6.out _ _ (hw.below (hbm.trans (hn_3.mono hbm.size))) HTXn3.out).mono ?_
      rintro e n4 ⟨rfl,hbn4⟩
      have hn_4:=hn_3.trans (hbn4.mono hn_3.size)
      refine hK _ _ ⟨hn_4,?_⟩
      clear hK K
      try simp only [zA,zB,zC,Act.put,zD,zE,zF]
      unfold wpPh
      simp only [List.drop_succ_cons,List.drop_zero]
      go_wp2
      refine NormalOnly.mk ?_
      have hbn:=hbm.trans (hn_4.mono hbm.size)
      have hyn:=hym.trans (hn_4.mono hym.size)
      have hrn:=hrm.trans (hn_4.mono hrm.size)
      clear q0 q1 q2 q3 sh0 sh1 x0 x1 l1 l2 l3
      have HO1:=hid (owns_below HO.out hrn)
      have hbase:u3.heap.size≤n4.heap.size:=hyn.size
      go_wp2_with (at_builtin;refine app_new slPt rfl _ _ rfl u3.heap.size _ k _ rfl HO1.out 1 1 _ rfl rfl (oneTwo _ _) (by omega) (by decide) hbase _ HL.out ?_;intro v1 w9 hown2 hb9;rw [←HS.out] at hown2;have HO2:=hid hown2;clear hown2)
      obtain ⟨g2,cp2,rfl⟩:=ownsRow_succ HO2.out
      refine ⟨⟨k+1,int_succ k,hk,HO2.out,hyn.trans hb9⟩,?_⟩
      show P.length-((k:Int)+1).toNat<P.length-((k:Int)).toNat
      omega
     ·have hkn:decide ((k:Int)<(P.length:Int))=false:=decide_eq_false (by omega)
      have ek:k=P.length:=by omega
      have HM:=hid (mapTo_all (r:=r) (s:=s) (t:=t) ek)
      have HLEN:=hid (mapTo_len (r:=r) (s:=s) (t:=t) hkl)
      rcases hown.2 with ⟨_,h0⟩ | ⟨g,cap,cur,rfl,hgz,hgx,hgc,hgm,_⟩
      ·omega
      ·subst ek
       rw [HM.out] at hown
       have HQ:=hid (holdQ_owns hown)
       have HPM:=hid (show Pts wr (.slice (some ⟨g,0,none⟩) P.length cap) (P.map (mapP r s t)) from pairs_of_cells (by rw [List.length_map,List.length_map];exact hown))
       have hgl:=lt_of_blk hgx
       have hgw:w.heap.size≤g:=by have:=hbu.size;omega
       clear hown hgx HO
       by_cases hneg:det2 r s<0
       ·have hsg:=sgnR_neg hneg
        have HML:=hid (show mapL r s t P=(P.map (mapP r s t)).reverse by unfold mapL;rw [if_pos hneg])
        rw [hsg] at HSG
        clear hsg hneg
        go_wp2_with fail
        refine (HSG.out wr).mono ?_
        rintro e v1 ⟨rfl,hv1⟩
        have hg1:g<v1.heap.size:=Nat.lt_of_lt_of_le hgl hv1.size
        have hrv:=rev_pts g cap (P.map (mapP r s t)) (fun p hp=>(okP_sz (HOK.out p hp)).mono (by decide)) v1 hg1 (HQ.out.below hgl hv1) (by rw [List.length_map];omega)
        rw [List.length_map] at hrv
        have HRV:=hid hrv
        have hbv1:=hbR.trans (hv1.mono hbR.size)
        clear hrv
        go_wp2_with fail
        refine HRV.out.mono ?_
        rintro e v2 ⟨rfl,hH,_,hv2⟩
        have hbv2:=hbv1.trans (hv2.mono hgw)
        have HP2:=hid (show Pts v2 (.slice (some ⟨g,0,none⟩) P.length cap) (mapL r s t P) by
         rw [HML.out]
         exact holdQ_pts hH (by simp) hgc hgm (Nat.lt_of_lt_of_le hg1 hv2.size))
        clear hH
        go_wp2_with fail
        refine (HFN.out _ v2 (hw.below hbv2) HP2.out).mono ?_
        rintro e v3 ⟨hor,hv3⟩
        have hbv3:=hbv2.trans (hv3.mono hbv2.size)
        rcases hor with ⟨q,u,_,rfl,hLA,hPt⟩ | ⟨⟨p,hp,hnp⟩,_⟩
        ·have HLA:=hid hLA
         have HPT:=hid hPt
         clear hLA hPt
         go_wp2
         refine bodyPost_ret (v:=.tuple #[q,.int .i64 0]) (by simp [results,Tryz.results42,go_sem]) rfl ?_
         obtain ⟨e1,e2,e3,e4,e5,e6⟩:=HTE.out
         exact ⟨hbv3,.inr ⟨r,s,t,e1,e2,e3,e4,e5,e6,HRS.out.1,HRS.out.2.1,HRS.out.2.2,.inr ⟨HD.out,q,u,rfl,HLA.out,HPT.out⟩⟩⟩
        ·exact absurd (OkB.q (HOK.out p (mapL_mem.1 hp))) hnp
       ·have hsg:decide (sgnR (det2 r s)<0)=false:=decide_eq_false (by rcases sgnR_cases (det2 r s) with ⟨a,b⟩ | ⟨a,b⟩ | ⟨a,b⟩ <;> first | exact absurd a hneg | omega)
        have HML:=hid (show mapL r s t P=P.map (mapP r s t) by unfold mapL;rw [if_neg hneg])
        generalize sgnR (det2 r s)=sg at *
        clear hneg
        go_wp2_with fail
        refine (HSG.out wr).mono ?_
        rintro e v1 ⟨rfl,hv1⟩
        have hbv1:=hbR.trans (hv1.mono hbR.size)
        have HP2:=hid (show Pts v1 (.slice (some ⟨g,0,none⟩) P.length cap) (mapL r s t P) by
         rw [HML.out]
         exact HPM.out.below hv1)
        go_wp2_with fail
        refine (HFN.out _ v1 (hw.below hbv1) HP2.out).mono ?_
        rintro e v3 ⟨hor,hv3⟩
        have hbv3:=hbv1.trans (hv3.mono hbv1.size)
        rcases hor with ⟨q,u,_,rfl,hLA,hPt⟩ | ⟨⟨p,hp,hnp⟩,_⟩
        ·have HLA:=hid hLA
         have HPT:=hid hPt
         clear hLA hPt
         go_wp2
         refine bodyPost_ret (v:=.tuple #[q,.int .i64 0]) (by simp [results,Tryz.results42,go_sem]) rfl ?_
         obtain ⟨e1,e2,e3,e4,e5,e6⟩:=HTE.out
         exact ⟨hbv3,.inr ⟨r,s,t,e1,e2,e3,e4,e5,e6,HRS.out.1,HRS.out.2.1,HRS.out.2.2,.inr ⟨HD.out,q,u,rfl,HLA.out,HPT.out⟩⟩⟩
        ·exact absurd (OkB.q (HOK.out p (mapL_mem.1 hp))) hnp
end Go.Proofs.YtgohnjdgoglcfaaGreatDoor
