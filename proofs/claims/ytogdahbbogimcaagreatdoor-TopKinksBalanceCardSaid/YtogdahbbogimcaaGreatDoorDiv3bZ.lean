import Derived.Test.YtogdahbbogimcaaGreatDoorDiv2Z
import Derived.Test.YtogdahbbogimcaaGreatDoorMathZ
import Derived.Laws.AppendOwnNone
import Derived.Deep.RegionHeld3
import Derived.Deep.DeepCutAuto
set_option maxRecDepth 100000
set_option maxHeartbeats 6000000
namespace Go.Proofs.YtogdahbbogimcaaGreatDoor
open Go.RowKit
theorem U64s.drew {w:World} {v:Value} {xs:List Nat} (h:U64s w v xs):U64s w.drew v xs:=h
def Apart (G:Nat) (v:Value):Prop:=∀ a n c,v=.slice (some a) n c→a.block≠G
theorem U64s.store {w:World} {G:Nat} {v:Value} {xs:List Nat} (h:U64s w v xs) (hf:Apart G v) {a:Addr} (ha:a.block=G) (u:Value):U64s (w.setCell a u) v xs:=by
 obtain ⟨hl,p,c,rfl,hc,hm,hx⟩:=h
 refine ⟨hl,p,c,rfl,hc,hm,fun h0=>?_⟩
 obtain ⟨b,off,rfl,hb,hcell⟩:=hx h0
 have hB:=hf _ _ _ rfl
 refine ⟨b,off,rfl,by simpa [World.setCell] using hb,fun i hi=>?_⟩
 rw [World.cell?_of_block (Below.heap_setCell w a u b (by rw [ha];exact hB))]
 exact hcell i hi
theorem Apart.of_fresh {G:Nat} {v:Value} (h:Fresh (G+1) v):Apart G v:=fun a n c hv=>by have:=h.1 a n c hv;omega
theorem Apart.of_u64s {w:World} {v:Value} {xs:List Nat} (h:U64s w v xs) {G:Nat} (hG:w.heap.size≤G) (h0:0<xs.length):Apart G v:=fun a n c hv=>by
 subst hv
 obtain ⟨_,_,e,_⟩:=h.slice
 cases e
 obtain ⟨b,off,e,hb,_⟩:=h.cells h0
 cases e
 show b≠G
 omega
theorem one_owned (w:World) (x:Nat):(w.alloc (Obj.cells #[Value.int .u64 (x:Int)] 144)).ownsRow w.heap.size 144 1 (.slice (some ⟨w.heap.size,0,none⟩) 1 1) 1 ([x].map pc64):=
 ⟨rfl,.inr ⟨w.heap.size,1,#[Value.int .u64 (x:Int)],rfl,Nat.le_refl _,World.alloc_heap_new w _,Nat.le_refl _,by unfold maxLen;omega,rfl,rfl⟩⟩
theorem pc64_one {xs:List Nat}:∀ u∈xs.map pc64,u.oneCell'=true:=by
 intro u hu
 obtain ⟨x,_,rfl⟩:=List.mem_map.1 hu
 rfl
theorem app_src {ops:Array Oper} {rest:List Oper} {o:Oper} {a:Act} {Q:Exit→Act→World→Prop} {w:World}
  (hgd:o.guard=none) (s x:Operand) (ho:o.op=.call { callee:=.builtin .append,args:=#[s,x],argTypes:=#[112,112] })
  (base:Nat) (v:Value) (n:Nat) (xs:List Value) (hs:a.eval s=v) (hown:w.ownsRow base 144 1 v n xs)
  (sv:Value) (ys:List Nat) (hx:a.eval x=sv) (hr:U64s w sv ys) (hnil:∀ n c,sv=.slice none n c→n=0∧c=0)
  (hn:(n+ys.length)*8≤140737488355328) (hbase:base≤w.heap.size)
  (h:∀ v' w',w'.ownsRow base 144 1 v' (n+ys.length) (xs++ys.map pc64)→Below base w w'→wpList Tryz.prog ops Q rest (a.put o.dst v') w'):wpList Tryz.prog ops Q (o :: rest) a w:=by
 obtain ⟨i,hi,hz0,hz1,hz2⟩:=info_parts sl64.info
 obtain ⟨p,c,rfl,hc,hm⟩:=hr.slice
 cases p with
 | none =>
  obtain ⟨h1,h2⟩:=hnil _ _ rfl
  have hy:ys=[]:=List.eq_nil_of_length_eq_zero h1
  subst hy h2
  refine wpList_append_own_none hgd s x _ ho base _ i 1 sl64.ht hi v n xs hs hown hx ?_
  exact h v w (by simpa using hown) (Below.refl _ _)
 | some ad =>
  refine wpList_append_own _ hgd s x _ ho base _ i (.int .u64 0) 1 8 sl64.ht hi hz0 hz1 hz2 rfl (by decide) v n xs hs hown ad ys.length c (ys.map pc64) hx (by simp) ?_ pc64_one (by unfold maxLen;omega) hn hbase ?_
  ·intro j u hj
   have hjl:j<ys.length:=by
    have:=(List.getElem?_eq_some_iff.1 hj).1
    simpa using this
   obtain ⟨b,off,e,hb,hcell⟩:=hr.cells (by omega)
   cases e
   rw [List.getElem?_map,List.getElem?_eq_getElem hjl,Option.map_some] at hj
   have:=hcell j hjl
   have e2:(⟨b,off,none⟩ : Addr).add j=⟨b,off+j,none⟩:=by
    unfold Addr.add;split
    ·rename_i h;rw [h];rfl
    ·rfl
   rw [e2,this]
   exact hj
  ·intro v' w' h2 h3 _
   exact h v' w' h2 ((Below.refl _ _).grown h3 hbase (fun k hk=>(hown.lt k hk).1))
structure LongInv (w:World) (bv av:Value) (G len M N j:Nat) (rv:Value) (W:World):Prop where
 jle:j≤len
 leq:(pcs M).length=len
 box:W.cell? ⟨w.heap.size,0,none⟩=some bv
 q:W.cell? ⟨w.heap.size+1,0,none⟩=some (.slice (some ⟨G,0,none⟩) len len)
 qf:W.frozen? ⟨w.heap.size+1,0,none⟩=false
 row:∃ ys,W.ownsRow G 144 1 (.slice (some ⟨G,0,none⟩) len len) len ((List.replicate j 0++ys).map pc64)∧QRow (pcs M) N j ys
 a:U64s W av (pcs M)
 b:U64s W bv (pcs N)
 r:U64s W rv (pcs (val ((pcs M).drop j) % N))
 aG:Apart G av
 bG:Apart G bv
 rF:Fresh (G+1) rv
 low:Below w.heap.size w W
 G2:w.heap.size+2≤G
 size:G<W.heap.size
theorem LongInv.start {w W:World} {bv av:Value} {G len M N:Nat} (hl:(pcs M).length=len) (h1:W.cell? ⟨w.heap.size,0,none⟩=some bv) (h2:W.cell? ⟨w.heap.size+1,0,none⟩=some (.slice (some ⟨G,0,none⟩) len len))
  (h3:W.frozen? ⟨w.heap.size+1,0,none⟩=false) (h4:W.ownsRow G 144 1 (.slice (some ⟨G,0,none⟩) len len) len ((List.replicate len 0).map pc64)) (h5:U64s W av (pcs M)) (h6:U64s W bv (pcs N))
  (h7:Apart G av) (h8:Apart G bv) (h9:Below w.heap.size w W) (h10:w.heap.size+2≤G) (h11:G<W.heap.size):LongInv w bv av G len M N len (.slice none 0 0) W:=
 ⟨Nat.le_refl _,hl,h1,h2,h3,⟨[],by simpa using h4,by rw [←hl];exact QRow.start _ _⟩,h5,h6,by rw [List.drop_of_length_le (by omega)];simp [val,pcs_zero];exact U64s.nil W,h7,h8,Fresh.none _,h9,h10,h11⟩
theorem LongInv.below {w W W':World} {bv av:Value} {G len M N j:Nat} {rv:Value} (h:LongInv w bv av G len M N j rv W) (hb:Below W.heap.size W W'):LongInv w bv av G len M N j rv W':=by
 obtain ⟨a1,a0,a2,a3,a4,⟨ys,a5,a6⟩,a7,a8,a9,a10,a11,a12,a13,a14,a15⟩:=h
 have hs:=a13.size
 refine ⟨a1,a0,?_,?_,?_,⟨ys,owns_below a5 hb,a6⟩,a7.below hb,a8.below hb,a9.below hb,a10,a11,a12,a13.trans (hb.mono hs),a14,Nat.lt_of_lt_of_le a15 hb.size⟩
 ·rw [hb.cell (by simp;omega)];exact a2
 ·rw [hb.cell (by simp;omega)];exact a3
 ·rw [hb.frozen (by simp;omega)];exact a4
theorem LongInv.drew {w W:World} {bv av:Value} {G len M N j:Nat} {rv:Value} (h:LongInv w bv av G len M N j rv W):LongInv w bv av G len M N j rv W.drew:=h.below (Below.refl _ _).drew
theorem LongInv.skip {w W:World} {bv av:Value} {G len M N j:Nat} {rv rv':Value} {x:Nat} (h:LongInv w bv av G len M N (j+1) rv W) (hx:(pcs M)[j]?=some x) (hN:0<N)
  (hlt:x+1000000000*(val ((pcs M).drop (j+1)) % N)<N) (hr:U64s W rv' (pcs (x+1000000000*(val ((pcs M).drop (j+1)) % N)))) (hF:Fresh (G+1) rv'):LongInv w bv av G len M N j rv' W:=by
 obtain ⟨a1,a0,a2,a3,a4,⟨ys,a5,a6⟩,a7,a8,a9,a10,a11,a12,a13,a14,a15⟩:=h
 obtain ⟨hj,hxe⟩:=List.getElem?_eq_some_iff.1 hx
 have e1:=rest_step (n:=N) hj
 have e2:=a6.step hN (pcs_lt M) hj
 rw [hxe,Nat.mul_comm,Nat.add_comm] at e1 e2
 rw [Nat.mod_eq_of_lt hlt] at e1
 rw [Nat.div_eq_of_lt hlt] at e2
 refine ⟨by omega,a0,a2,a3,a4,⟨0 :: ys,?_,e2⟩,a7,a8,by rw [←e1];exact hr,a10,a11,hF,a13,a14,a15⟩
 rw [show List.replicate j 0++0 :: ys=List.replicate (j+1) 0++ys by rw [List.replicate_succ'];simp]
 exact a5
theorem LongInv.digit {w W:World} {bv av:Value} {G len M N j:Nat} {rv rv':Value} {x:Nat} (h:LongInv w bv av G len M N (j+1) rv W) (hx:(pcs M)[j]?=some x) (hN:0<N) {D:Int}
  (hD:D=(((x+1000000000*(val ((pcs M).drop (j+1)) % N))/N:Nat):Int)) (hr:U64s W rv' (pcs ((x+1000000000*(val ((pcs M).drop (j+1)) % N)) % N))) (hF:Fresh (G+1) rv') :
  LongInv w bv av G len M N j rv' (W.setCell ⟨G,j,none⟩ (.int .u64 D)):=by
 obtain ⟨a1,a0,a2,a3,a4,⟨ys,a5,a6⟩,a7,a8,a9,a10,a11,a12,a13,a14,a15⟩:=h
 obtain ⟨hj,hxe⟩:=List.getElem?_eq_some_iff.1 hx
 have e1:=rest_step (n:=N) hj
 have e2:=a6.step hN (pcs_lt M) hj
 rw [hxe,Nat.mul_comm,Nat.add_comm] at e1 e2
 refine ⟨by omega,a0,?_,?_,?_,⟨_,?_,e2⟩,a7.store a10 rfl _,a8.store a11 rfl _,?_,a10,a11,hF,a13.setCell (p:=⟨G,j,none⟩) (by simp;omega) _,a14,by simpa [World.setCell] using a15⟩
 ·rw [cell_setCell_ne _ _ (.inl (by simp;omega))];exact a2
 ·rw [cell_setCell_ne _ _ (.inl (by simp;omega))];exact a3
 ·rw [World.frozen?_setCell];exact a4
 ·rw [←set_zeros];exact stored_u64 a5 j hD
 ·rw [←e1];exact hr.store (Apart.of_fresh hF) rfl _
theorem est_val {D0 tt:Nat} (h:D0<1000000000000000000):min (IntKind.u64.wrap ((D0:Int)/(tt:Int))) 999999999=((min (D0/tt) 999999999:Nat):Int):=by
 have h1:D0/tt≤D0:=Nat.div_le_self _ _
 rw [←Int.natCast_ediv]
 generalize D0/tt=q at *
 rw [IntWalk.u64_in _ (by omega)]
 omega
theorem est_val2 {D0 tt:Nat}:min ((D0:Int)/(tt:Int)) 999999999=((min (D0/tt) 999999999:Nat):Int):=by
 rw [←Int.natCast_ediv]
 omega
theorem est_ok {R N J D0 tt:Nat} (hD:D0=R/1000000000 ^ J) (ht:tt=N/1000000000 ^ J) (h0:tt≠0) (hR:R<N*1000000000):R/N≤min (D0/tt) 999999999:=by
 have h1:R/N≤D0/tt:=by rw [hD,ht];exact est_ge (by omega)
 have h2:=quo_lt hR
 omega
theorem cmpI_nat_gt (a b:Nat):decide (0<cmpI (a:Int) b)=decide (b<a):=by
 unfold cmpI;split
 ·simp;omega
 ·split
  ·simp;omega
  ·simp;omega
theorem LongInv.cell {w W:World} {bv av:Value} {G len M N j k:Nat} {rv:Value} (h:LongInv w bv av G len M N j rv W) (hk:k<len):(∃ u,W.cell? ⟨G,k,none⟩=some u)∧W.frozen? ⟨G,k,none⟩=false:=by
 obtain ⟨ys,h1,h2⟩:=h.row
 have hl:(List.replicate j 0++ys).length=len:=by
  have:=h2.1
  have:=h.leq
  simp;omega
 refine ⟨?_,h1.frozenAt k⟩
 have:=h1.cellAt k (by omega)
 rw [List.getElem?_map,List.getElem?_eq_getElem (by omega)] at this
 exact ⟨_,this⟩
open Go.Lib (hid)
theorem Two1.drew {w W:World} {a b:Value} (h:Two1 w a b W):Two1 w a b W.drew:=h.keep ((Below.refl _ _).drew)
structure Scaled (w:World) (M N:Nat) (av bv:Value) (W:World):Prop where
 a:U64s W av (pcs M)
 b:U64s W bv (pcs N)
 aF:Fresh (w.heap.size+2) av
 bF:Fresh (w.heap.size+2) bv
 c0:W.cell? ⟨w.heap.size,0,none⟩=some bv
 c1:W.cell? ⟨w.heap.size+1,0,none⟩=some (.slice none 0 0)
 f1:W.frozen? ⟨w.heap.size+1,0,none⟩=false
 size:w.heap.size+2≤W.heap.size
 low:Below w.heap.size w W
def Scaled' (w:World) (M N:Nat) (av:Value) (W:World):Prop:=∃ bv,Scaled w M N av bv W
theorem Scaled.mk' {w W:World} {M N:Nat} {av bv u:Value} (ha:U64s W av (pcs M)) (hb:U64s W bv (pcs N)) (hF:Fresh (w.heap.size+2) av) (hG:Fresh (w.heap.size+2) bv) (h:Two1 w u (.slice none 0 0) W):Scaled w M N av bv (W.setCell ⟨w.heap.size,0,none⟩ bv):=by
 obtain ⟨y0,y1,y2,y3,y4,y5⟩:=h
 refine ⟨ha.setCell hF.1 (by simp) _,hb.setCell hG.1 (by simp) _,hF,hG,by rw [World.cell?_setCell_same' _ _ _ (by rw [y0];rfl)],by rw [cell_setCell_ne _ _ (.inl (by simp))];exact y1,by rw [World.frozen?_setCell];exact y3,by simpa [World.setCell] using y4,y5.setCell (p:=⟨w.heap.size,0,none⟩) (Nat.le_refl _) _⟩
theorem Two1.size {w W:World} {a b:Value} (h:Two1 w a b W):w.heap.size+2≤W.heap.size:=h.2.2.2.2.1
theorem integer_divide_long (va vb:Value) (m n K:Nat) (w:World) (hK:(pcs n).length=K+2) (hmn:n≤m) (hlen:(pcs m).length≤549755813888) (ha:U64s w va (pcs m)) (hb:U64s w vb (pcs n)) :
  Calls Tryz.prog 90 #[va,vb] w (DivPost m n w):=by
 obtain ⟨p,c,rfl,_,hcm⟩:=ha.slice
 obtain ⟨q,d,rfl,hdk,hdm⟩:=hb.slice
 unfold maxLen at hcm hdm
 have hcm:decide (cmpI (m:Int) (n:Int)<0)=false:=by rw [cmpI_nat_lt];simpa using hmn
 have hb':=hb
 rw [hK] at hb' hdk ⊢
 obtain ⟨b,off,rfl,hbb,hcell⟩:=hb.cells (by omega)
 have htop:=hcell (K+1) (by omega)
 obtain ⟨t,ht⟩ : ∃ t,t=(pcs n)[K+1]'(by omega):=⟨_,rfl⟩
 rw [←ht] at htop
 have ht1:t<1000000000:=by rw [ht];exact pcs_lt n _ (List.getElem_mem _)
 have ht0:t≠0:=by rw [ht];exact pcs_top_ne (K+1) hK
 have ht2:t=n/1000000000 ^ (K+1):=by rw [ht];exact pcs_top (K+1) hK
 have HTOP:=hid ht2
 clear ht2
 have HK:=hid hK
 clear ht hK hcell
 have HB:=hid hb
 have HB':=hid hb'
 clear hb hb'
 have hL1:((K+2:Nat) == 1)=false:=by simp
 have hL2:(((K+2:Nat):Int) == 1)=false:=by simp;omega
 have hL3:(((K:Int)+2) == 1)=false:=by simp;omega
 go_enter Tryz.func90,Tryz.ntmps90
 go_wp2_with fail
 obtain ⟨wA,hwA⟩ : ∃ wA,wA=(w.alloc (Obj.cells #[Value.slice (some ⟨b,off,none⟩) (K+2) d] 112)).alloc (Obj.cells #[Value.slice none 0 0] 112):=⟨_,rfl⟩
 rw [←hwA]
 have hT:=cells2 hwA
 clear hwA
 refine (integer_order _ _ m n _ (ha.below hT.low) (by have:=HB.out.below hT.low;rw [HK.out] at this;exact this)).mono ?_
 rintro e wB ⟨rfl,hbB⟩
 replace hT:=hT.keep hbB
 obtain ⟨c0,c1,f0,f1,hsB,hlB⟩:=hT
 have htB:=(hlB.cell (p:=⟨b,off+(K+1),none⟩) hbb).trans htop
 generalize cmpI (m:Int) (n:Int)=cc at hcm ⊢
 have HT:Hid (Two1 w (.slice (some ⟨b,off,none⟩) (K+2) d) (.slice none 0 0) wB):=hid ⟨c0,c1,f0,f1,hsB,hlB⟩
 clear htop
 go_wp2_with fail
 have hfe:(1000000000:Int)/((t:Int)+1)=((1000000000/(t+1):Nat):Int):=by simp
 rw [hfe]
 clear hfe
 obtain ⟨f,hf⟩ : ∃ f,f=1000000000/(t+1):=⟨_,rfl⟩
 rw [←hf]
 have hf1:=(scale_ok ht1).1
 have hf2:=(scale_ok ht1).2 ht0
 rw [←hf] at hf1 hf2
 clear hf
 have hnl:=pcs_len_mono hmn
 rw [HK.out] at hnl
 have haB:=ha.below hlB
 have hbB':=HB.out.below hlB
 rw [HK.out] at hbB'
 go_cut [0] (fun s0 wx=>Scaled' w (m*f) (n*f) s0 wx)
 case first =>
  go_region_with (first
   | (go_at_call_of 120 (Value.slice p (pcs m).length c);refine (integer_small _ m f _ (by omega) hf2 (haB.below ((Below.refl _ _).drew))).mono ?_;rintro e w2 ⟨va2,rfl,hva,hba,hFa⟩;have HT2:=hid (HT.out.drew.keep hba);obtain ⟨x0,x1,x2,x3,x4,x5⟩:=HT2.out)
   | (go_at_call_of 120 (Addr.mk b off none);refine (integer_small _ n f _ (by rw [HK.out];omega) hf2 ((hbB'.below ((Below.refl _ _).drew)).below hba)).mono ?_;rintro e w3 ⟨vb2,rfl,hvb,hbb2,hFb⟩;have HT3:=hid (HT2.out.keep hbb2);obtain ⟨y0,y1,y2,y3,y4,y5⟩:=HT3.out;obtain ⟨pb2,cb2,rfl,_,_⟩:=hvb.slice;obtain ⟨pa2,ca2,rfl,_,_⟩:=hva.slice))
  all_goals (go_wp2_with fail;go_meet;exact ⟨_,Scaled.mk' (hva.below hbb2) hvb (hFa.mono hsB) (hFb.mono x4) HT3.out⟩)
 case rest =>
  obtain ⟨vb2,hsc⟩:=hcut
  obtain ⟨ha4,hb4,hFa,hFb,d0,d1,d3,d4,d5⟩:=hsc
  obtain ⟨w4,rfl⟩ : ∃ w4:World,w4=wc:=⟨_,rfl⟩
  obtain ⟨pb2,cb2,rfl,_,_⟩:=hb4.slice
  obtain ⟨pa2,ca2,rfl,_,_⟩:=ha4.slice
  have hn0:n≠0:=by
   intro h
   have:=HK.out
   rw [h,pcs_zero] at this
   simp at this
  have hN0:n*f≠0:=Nat.mul_ne_zero hn0 (by omega)
  have hNp:=pcs_length_pos hN0
  have hM0:m*f≠0:=Nat.mul_ne_zero (by omega) (by omega)
  have hMp:=pcs_length_pos hM0
  have hMl:(pcs (m*f)).length≤549755813889:=by
   have h1:=pcs_len_mul m f
   have h2:(pcs f).length≤1:=pcs_len_lt (by simpa using hf2)
   omega
  have hNM:(pcs (n*f)).length≤(pcs (m*f)).length:=pcs_len_mono (Nat.mul_le_mul_right _ hmn)
  have hap:Apart w4.heap.size (.slice pa2 (pcs (m*f)).length ca2):=Apart.of_u64s ha4 (Nat.le_refl _) hMp
  have hbp:Apart w4.heap.size (.slice pb2 (pcs (n*f)).length cb2):=Apart.of_u64s hb4 (Nat.le_refl _) hNp
  obtain ⟨M,hM⟩ : ∃ M,M=m*f:=⟨_,rfl⟩
  obtain ⟨N,hN⟩ : ∃ N,N=n*f:=⟨_,rfl⟩
  rw [←hM] at ha4 hM0 hMp hMl hap hNM hFa
  rw [←hN] at hb4 hN0 hNp hbp d0 hNM hFb
  rw [←hM]
  have HM:=hid hM
  have HN:=hid hN
  obtain ⟨i0,hi,hz0,hz1,hz2⟩:=info_parts sl64.info
  obtain ⟨w5,hmk,hown,hgr⟩:=run_make_full (P:=Tryz.prog) w4 w4.heap.size 112 144 i0 (.int .u64 0) 1 Tryz.underlying112 hi hz0 hz1 .i64 .i64 ((pcs M).length) (by rw [hz2];omega) (by unfold maxLen;omega) (Nat.le_refl _)
  rw [madeCells_u64] at hown
  have hb5:Below w4.heap.size w4 w5:=(Below.refl _ _).grown hgr (Nat.le_refl _) (fun k h=>by simp at h)
  have hG5:w4.heap.size<w5.heap.size:=(hown.lt w4.heap.size rfl).2
  have HOWN:=hid hown
  have HA4:=hid ha4
  have HB4:=hid hb4
  clear hgr hi hz0 hz1 hz2 hown c0 c1 f0 f1 hM hN
  have d0':=(hb5.cell (p:=⟨w.heap.size,0,none⟩) (by simp;omega)).trans d0
  have d1':=(hb5.cell (p:=⟨w.heap.size+1,0,none⟩) (by simp;omega)).trans d1
  have d3':=(hb5.frozen (p:=⟨w.heap.size+1,0,none⟩) (by simp;omega)).trans d3
  obtain ⟨bq,oq,rfl,hbq,hcq⟩:=(HB4.out.below hb5).cells hNp
  obtain ⟨bA,oA,rfl,hbA,_⟩:=(HA4.out.below hb5).cells hMp
  obtain ⟨J,hJ⟩ : ∃ J,(pcs N).length=J+1:=⟨(pcs N).length-1,by omega⟩
  have hcq':=hcq J (by omega)
  have hJ1:(((pcs N).length:Int)-1).toNat=J:=by omega
  obtain ⟨tt,htt⟩ : ∃ tt,tt=(pcs N)[J]'(by omega):=⟨_,rfl⟩
  rw [←htt] at hcq'
  have htt1:tt<1000000000:=by rw [htt];exact pcs_lt N _ (List.getElem_mem _)
  have htt0:tt≠0:=by rw [htt];exact pcs_top_ne J hJ
  have htt2:tt=N/1000000000 ^ J:=by rw [htt];exact pcs_top J hJ
  have HTT:=hid htt2
  have HJ:=hid hJ
  have hbq2:w.heap.size+2≤bq:=hFb.1 _ _ _ rfl
  have e0:=(cell_setCell_ne w5 (x:=⟨bq,oq+J,none⟩) (a:=⟨w.heap.size+1,0,none⟩) (.slice (some ⟨w4.heap.size,0,none⟩) (pcs M).length (pcs M).length) (.inl (by simp;omega))).trans hcq'
  have hNl:(0:Int)<((pcs N).length:Int):=by omega
  clear hcq htt htt2 hJ d0 d1 d3
  go_wp2
  obtain ⟨w6,hw6⟩ : ∃ w6,w6=w5.setCell ⟨w.heap.size+1,0,none⟩ (.slice (some ⟨w4.heap.size,0,none⟩) (pcs M).length (pcs M).length):=⟨_,rfl⟩
  rw [←hw6]
  have hS:LongInv w (.slice (some ⟨bq,oq,none⟩) (pcs N).length cb2) (.slice (some ⟨bA,oA,none⟩) (pcs M).length ca2) w4.heap.size (pcs M).length M N (pcs M).length (.slice none 0 0) w6:=by
   rw [hw6]
   refine LongInv.start rfl ?_ ?_ ?_ ?_ ?_ ?_ hap hbp ?_ d4 ?_
   ·rw [cell_setCell_ne _ _ (.inl (by simp))];exact d0'
   ·exact World.cell?_setCell_same' _ _ _ (by rw [d1'];rfl)
   ·rw [World.frozen?_setCell];exact d3'
   ·exact ownsRow_setCell_other HOWN.out (by simp [Value.ownBlock];omega) _
   ·exact (HA4.out.below hb5).setCell hFa.1 (by simp) _
   ·exact (HB4.out.below hb5).setCell hFb.1 (by simp) _
   ·exact (d5.trans (hb5.mono (by omega))).setCell (p:=⟨w.heap.size+1,0,none⟩) (Nat.le_succ _) _
   ·simpa [World.setCell] using hG5
  have HS:=hid hS
  clear hS hw6 e0 d0' d1' d3' hcq' hap hbp hmk
  go_loopw [5,11] (fun rv iv wr=>∃ j:Nat,iv=.int .i64 ((j:Int)-1)∧LongInv w (.slice (some ⟨bq,oq,none⟩) (pcs N).length cb2) (.slice (some ⟨bA,oA,none⟩) (pcs M).length ca2) w4.heap.size (pcs M).length M N j rv wr) (fun _ iv _=>(intOf iv+1).toNat)
  case atStart=>exact ⟨_,rfl,HS.out⟩
  case round =>
   obtain ⟨j,rfl,hinv⟩:=hrel
   have HI:=hid hinv
   clear hinv
   cases j with
   | zero =>
    have hm1:(((0:Nat):Int)-1) = -1:=rfl
    rw [hm1]
    have hrU:=HI.out.r
    rw [List.drop_zero,val_pcs] at hrU
    obtain ⟨pr,cr,rfl,_,_⟩:=hrU.slice
    have HRU:=hid hrU
    have hMNl:(pcs (M % N)).length≤1099511627776:=by
     have:=pcs_len_mono (Nat.mod_le M N)
     omega
    have hpf:=pcs_small (n:=f) (by omega) hf2
    have HPF:=hid hpf
    have hal:Below wr.heap.size wr (wr.alloc (Obj.cells #[Value.int .u64 (f:Int)] 144)):=(Below.refl _ _).alloc (Nat.le_refl _) _
    clear hpf hrU
    go_wp2_with fail
    refine (integer_divide_one _ _ (M % N) f _ (by omega) hf2 hMNl (HRU.out.below hal) (by rw [HPF.out];exact U64s.one wr f)).mono ?_
    rintro e w7 ⟨q7,r7,rfl,hq7,hr7,hb7,hF7⟩
    obtain ⟨pq7,cq7,rfl,_,_⟩:=hq7.slice
    obtain ⟨pr7,cr7,rfl,_,_⟩:=hr7.slice
    have HI7:=hid (HI.out.below (hal.trans (hb7.mono hal.size)))
    have HQ7:=hid hq7
    obtain ⟨ys,hrow,hqr⟩:=HI7.out.row
    rw [List.replicate_zero,List.nil_append] at hrow
    obtain ⟨hy1,hy2,hy3⟩:=hqr
    rw [List.drop_zero,val_pcs] at hy3
    have HY2:=hid hy2
    have HY3:=hid hy3
    have HROW:=hid hrow
    have hyl:ys.length=(pcs M).length:=by omega
    have HYL:=hid hyl
    have hq:=HI7.out.q
    have hqf:=HI7.out.qf
    have hlow7:=HI7.out.low
    clear hrow hy2 hy3 hq7 hr7 hyl hy1
    go_wp2_with fail
    refine (integer_trim _ ys (by rw [HYL.out];omega) HY2.out _ (U64s.of_owns HROW.out HYL.out.symm)).mono ?_
    rintro e w8 ⟨v8,rfl,hv8,rfl,hfr⟩
    have hF8:=fresh_of HROW.out hfr
    rw [HY3.out] at hv8
    obtain ⟨p8,c8,rfl,_,_⟩:=hv8.slice
    have HV8:=hid hv8
    have hG2:=HI7.out.G2
    clear hv8 hfr
    go_wp2
    refine bodyPost_ret (v:=.tuple #[.slice p8 (pcs (M/N)).length c8,.slice pq7 (pcs (M % N/f)).length cq7]) (by simp [results,Tryz.results90,go_sem,hq]) rfl ⟨_,_,rfl,?_,?_,?_,?_⟩
    ·have e1:M/N=m/n:=by rw [HM.out,HN.out];exact scaled_div hf1
     rw [←e1]
     exact HV8.out.setCell (B:=w.heap.size+2) (fun a n c h=>Nat.le_trans hG2 (hF8.1 a n c h)) (by simp) _
    ·have e1:M % N/f=m % n:=by rw [HM.out,HN.out];exact scaled_mod hf1
     rw [←e1]
     exact HQ7.out.setCell (B:=w.heap.size+2) (fun a n c h=>by have h1:=hF7.1 a n c h;have h2:=HI.out.low.size;have h3:=HI.out.size;simp at h1;omega) (by simp) _
    ·exact hlow7.setCell (p:=⟨w.heap.size+1,0,none⟩) (Nat.le_succ _) _
    ·exact hF8.mono (by omega)
   | succ j =>
    have hi:(((j+1:Nat):Int)-1)=(j:Int):=by omega
    rw [hi]
    obtain ⟨wo,rfl⟩ : ∃ wo:World,wo=wr:=⟨_,rfl⟩
    have hjl:j+1≤(pcs M).length:=HI.out.jle
    obtain ⟨x,hx⟩ : ∃ x,(pcs M)[j]?=some x:=⟨_,List.getElem?_eq_getElem (by omega)⟩
    have HX:=hid hx
    obtain ⟨_,_,e1,_,hca⟩:=HI.out.a.cells hMp
    cases e1
    have hcx:=hca j (by omega)
    rw [(List.getElem?_eq_some_iff.1 hx).2] at hcx
    have hx1:x<1000000000:=pcs_lt M x (List.mem_of_getElem? hx)
    obtain ⟨R,hR⟩ : ∃ R,R=val ((pcs M).drop (j+1)) % N:=⟨_,rfl⟩
    have hRN:R<N:=by rw [hR];exact Nat.mod_lt _ (by omega)
    have HR:=hid hR
    have hRl:=pcs_len_mono (Nat.le_of_lt hRN)
    have hrU:=HI.out.r
    rw [←hR] at hrU
    obtain ⟨pr,cr,rfl,_,_⟩:=hrU.slice
    have HRU:=hid hrU
    have hnil:=HI.out.rF.2
    have HNIL:=hid hnil
    have hx8:(1+(pcs R).length)*8≤140737488355328:=by omega
    clear hca hx hR hrU hnil
    go_wp2_with (at_builtin;refine app_src rfl _ _ rfl wo.heap.size _ 1 _ rfl (one_owned wo x) _ (pcs R) rfl (HRU.out.below ((Below.refl _ _).alloc (Nat.le_refl _) _)) HNIL.out hx8 (by simp) ?_;intro v1 w7 hown7 hb7)
    have HSM:=hid (show ∀ y∈x :: pcs R,y<1000000000 from fun y hy=>by
     rcases List.mem_cons.1 hy with h | h
     ·omega
     ·exact pcs_lt R y h)
    refine (integer_trim _ (x :: pcs R) (by simp;omega) HSM.out _ (U64s.of_owns hown7 (by simp;omega))).mono ?_
    rintro e w8 ⟨v2,rfl,hv2,rfl,hfr⟩
    have hF2:Fresh (w4.heap.size+1) v2:=(fresh_of hown7 hfr).mono HI.out.size
    have HF2:=hid hF2
    have hval:val (x :: pcs R)=x+1000000000*R:=by rw [val_cons,val_pcs]
    rw [hval] at hv2
    obtain ⟨R2,hR2⟩ : ∃ R2,R2=x+1000000000*R:=⟨_,rfl⟩
    rw [←hR2] at hv2
    have hR2N:R2<N*1000000000:=by rw [hR2];exact round_lt hRN hx1
    have HR2:=hid hR2
    obtain ⟨p2,c2,rfl,_,_⟩:=hv2.slice
    have HV2:=hid hv2
    have hb7':Below wo.heap.size wo w7:=((Below.refl _ _).alloc (Nat.le_refl _) _).trans hb7
    have hinv7:=HI.out.below hb7'
    have HI7:=hid hinv7
    have hbx7:=hinv7.box
    clear hval hR2 hv2 hinv7 hF2 hfr hown7 hb7 hcx
    go_wp2_with fail
    refine (integer_order _ _ R2 N _ HV2.out HI7.out.b).mono ?_
    rintro e w9 ⟨rfl,hb9⟩
    have HI9:=hid (HI7.out.below hb9)
    have HV9:=hid (HV2.out.below hb9)
    clear hbx7
    by_cases hlt:R2<N
    ·have hcm2:decide (cmpI (R2:Int) (N:Int)<0)=true:=by rw [cmpI_nat_lt];simpa using hlt
     generalize cmpI (R2:Int) (N:Int)=cc2 at hcm2 ⊢
     go_wp2
     go_roundw
     case rel =>
      refine ⟨j,rfl,HI9.out.skip HX.out (by omega) ?_ ?_ HF2.out⟩
      ·rw [←HR.out,←HR2.out];exact hlt
      ·rw [←HR.out,←HR2.out];exact HV9.out
     case measure=>simp [intOf]
    ·have hge:N≤R2:=by omega
     have hcm2:decide (cmpI (R2:Int) (N:Int)<0)=false:=by rw [cmpI_nat_lt];simpa using hlt
     generalize cmpI (R2:Int) (N:Int)=cc2 at hcm2 ⊢
     clear hlt
     obtain ⟨hl1,hl2⟩:=round_len hge hR2N
     obtain ⟨b2,o2,rfl,hbb2',hc2⟩:=HV9.out.cells (by omega)
     have hbx9:=HI9.out.box
     have hR2l:(pcs R2).length≤549755813890:=by omega
     have hJN:=HJ.out
     have htz:((tt:Int) == 0)=false:=by simpa using htt0
     by_cases hA:(pcs R2).length=(pcs N).length
     ·have hA1:(((pcs R2).length:Int)-1).toNat=J:=by omega
      have hA2:decide ((pcs N).length<(pcs R2).length)=false:=by simp;omega
      have hcd:=hc2 J (by omega)
      have hd1:=pcs_top J (n:=R2) (by omega)
      have hd2:(pcs R2)[J]'(by omega)<1000000000:=pcs_lt R2 _ (List.getElem_mem _)
      obtain ⟨D0,hD0⟩ : ∃ D0,D0=(pcs R2)[J]'(by omega):=⟨_,rfl⟩
      rw [←hD0] at hcd hd1 hd2
      have HD1:=hid hd1
      clear hc2 hD0 hd1 hA hJN
      go_wp2_with fail
      rw [est_val (by omega)]
      have hE1:R2/N≤min (D0/tt) 999999999:=est_ok HD1.out HTT.out htt0 hR2N
      obtain ⟨d1,hd1⟩ : ∃ d1,d1=min (D0/tt) 999999999:=⟨_,rfl⟩
      rw [←hd1] at hE1 ⊢
      have hd9:d1≤999999999:=by rw [hd1];exact Nat.min_le_right _ _
      clear hd1
      have HE1:=hid hE1
      clear hE1
      refine (integer_small _ N d1 _ (by omega) (by omega) HI9.out.b).mono ?_
      rintro e w10 ⟨v3,rfl,hv3,hb10,-⟩
      obtain ⟨p3,c3,rfl,_,_⟩:=hv3.slice
      have HI10:=hid (HI9.out.below hb10)
      have HV10:=hid (HV9.out.below hb10)
      have HV3:=hid hv3
      clear hv3 hbx9
      go_wp2_with fail
      go_loopw [12,13] (fun dv pv wr=>∃ dd:Nat,dv=.int .u64 (dd:Int)∧R2/N≤dd∧dd≤999999999∧U64s wr pv (pcs (N*dd))∧Below w10.heap.size w10 wr) (fun dv _ _=>(intOf dv).toNat)
      case atStart=>exact ⟨d1,rfl,HE1.out,hd9,HV3.out,Below.refl _ _⟩
      case round =>
       obtain ⟨dd,rfl,hdd1,hdd9,hpv,hbr⟩:=hrel
       obtain ⟨p4,c4,rfl,_,_⟩:=hpv.slice
       have HIr:=hid (HI10.out.below hbr)
       have HVr:=hid (HV10.out.below hbr)
       have HPV:=hid hpv
       have HDD:=hid hdd1
       have hbxr:=HIr.out.box
       have hNd:(pcs (N*dd)).length≤549755813892:=by
        have h1:=pcs_len_mul N dd
        have h2:(pcs dd).length≤1:=pcs_len_lt (by omega)
        omega
       clear hpv hdd1
       go_wp2_with fail
       refine (integer_order _ _ (N*dd) R2 _ HPV.out HVr.out).mono ?_
       rintro e w11 ⟨rfl,hb11⟩
       have HI11:=hid (HIr.out.below hb11)
       have HV11:=hid (HVr.out.below hb11)
       have HP11:=hid (HPV.out.below hb11)
       have hbx11:=HI11.out.box
       by_cases hgt:R2<N*dd
       ·have hc3:decide (0<cmpI ((N*dd:Nat):Int) (R2:Int))=true:=by rw [cmpI_nat_gt];simpa using hgt
        obtain ⟨hlo1,hlo2⟩:=lower_gt hgt
        have hNd2:N≤N*dd:=Nat.le_mul_of_pos_right _ hlo2
        have HLO:=hid hlo1
        generalize cmpI ((N*dd:Nat):Int) (R2:Int)=cc3 at hc3 ⊢
        clear hgt hbxr hlo1
        go_wp2_with fail
        refine (integer_minus _ _ (N*dd) N _ (by omega) hNd2 HP11.out HI11.out.b).mono ?_
        rintro e w12 ⟨v5,rfl,hv5,hb12,-⟩
        rw [lower_part] at hv5
        obtain ⟨p5,c5,rfl,_,_⟩:=hv5.slice
        have HV5:=hid hv5
        clear hv5 hNd2 hbx11
        have hwr:IntKind.u64.wrap ((dd:Int)-1)=((dd-1:Nat):Int):=by rw [IntWalk.u64_in _ (by omega)];omega
        have hdi:((dd:Int)-1)=((dd-1:Nat):Int):=by omega
        have HDI:=hid hdi
        clear hwr hdi
        go_wp2
        go_roundw
        case rel =>
         exact ⟨dd-1,by rw [HDI.out],HLO.out,by omega,HV5.out,(hbr.trans (hb11.mono hbr.size)).trans (hb12.mono (Nat.le_trans hbr.size hb11.size))⟩
        case measure=>simp [intOf];omega
       ·have hc3:decide (0<cmpI ((N*dd:Nat):Int) (R2:Int))=false:=by rw [cmpI_nat_gt];simpa using hgt
        have hle:N*dd≤R2:=by omega
        have hdg:dd=R2/N:=digit_of (by omega) HDD.out (by rw [Nat.mul_comm];exact hle)
        have HDG:=hid hdg
        have HLE:=hid hle
        generalize cmpI ((N*dd:Nat):Int) (R2:Int)=cc3 at hc3 ⊢
        clear hgt hbxr hdg hle hbx11
        have hq11:=HI11.out.q
        obtain ⟨⟨u11,hu11⟩,hf11⟩:=HI11.out.cell (k:=j) (by omega)
        have hji1:(0:Int)≤(j:Int):=by omega
        have hji2:(j:Int)<((pcs M).length:Int):=by omega
        go_wp2_with fail
        go_region_with (first
         | (go_at_call 92;refine (integer_minus _ _ R2 (N*dd) _ (by omega) HLE.out HV11.out.drew HP11.out.drew).mono ?_;rintro e w12 ⟨v5,rfl,hv5,hb12,hF5⟩;obtain ⟨p5,c5,rfl,_,_⟩:=hv5.slice;have HI12:=hid (HI11.out.drew.below hb12);have hq12:=HI12.out.q;obtain ⟨⟨u12,hu12⟩,hf12⟩:=HI12.out.cell (k:=j) (by omega);have HV5:=hid hv5;clear hv5))
        all_goals
         go_wp2
         go_roundw
         case rel =>
          refine ⟨j,rfl,HI12.out.digit HX.out (by omega) ?_ ?_ (hF5.mono HI11.out.size)⟩
          ·rw [←HR.out,←HR2.out,HDG.out]
          ·rw [←HR.out,←HR2.out,←digit_rest,←HDG.out];exact HV5.out
         case measure=>simp [intOf]
     ·have hlen2:(pcs R2).length=J+2:=by omega
      have hA1:(((pcs R2).length:Int)-1).toNat=J+1:=by omega
      have hA3:(((pcs R2).length:Int)-2).toNat=J:=by omega
      have hA2:decide ((pcs N).length<(pcs R2).length)=true:=by simp;omega
      have hcd1:=hc2 (J+1) (by omega)
      have hcd0:=hc2 J (by omega)
      have hd1:=pcs_top2 J hlen2
      have hy1:(pcs R2)[J+1]'(by omega)<1000000000:=pcs_lt R2 _ (List.getElem_mem _)
      have hy0:(pcs R2)[J]'(by omega)<1000000000:=pcs_lt R2 _ (List.getElem_mem _)
      obtain ⟨y1,hY1⟩ : ∃ y1,y1=(pcs R2)[J+1]'(by omega):=⟨_,rfl⟩
      obtain ⟨y0,hY0⟩ : ∃ y0,y0=(pcs R2)[J]'(by omega):=⟨_,rfl⟩
      rw [←hY1] at hcd1 hd1 hy1
      rw [←hY0] at hcd0 hd1 hy0
      obtain ⟨D0,hD0⟩ : ∃ D0,D0=y1*1000000000+y0:=⟨_,rfl⟩
      rw [←hD0] at hd1
      have hd2:D0<1000000000000000000:=by omega
      have HD1:=hid hd1
      have HD0:=hid (show (y1:Int)*1000000000+(y0:Int)=(D0:Int) by omega)
      clear hc2 hD0 hY1 hY0 hd1 hA hJN hlen2
      go_wp2_with fail
      rw [HD0.out]
      rw [est_val2]
      have hE1:R2/N≤min (D0/tt) 999999999:=est_ok HD1.out HTT.out htt0 hR2N
      obtain ⟨d1,hd1⟩ : ∃ d1,d1=min (D0/tt) 999999999:=⟨_,rfl⟩
      rw [←hd1] at hE1 ⊢
      have hd9:d1≤999999999:=by rw [hd1];exact Nat.min_le_right _ _
      clear hd1
      have HE1:=hid hE1
      clear hE1
      refine (integer_small _ N d1 _ (by omega) (by omega) HI9.out.b).mono ?_
      rintro e w10 ⟨v3,rfl,hv3,hb10,-⟩
      obtain ⟨p3,c3,rfl,_,_⟩:=hv3.slice
      have HI10:=hid (HI9.out.below hb10)
      have HV10:=hid (HV9.out.below hb10)
      have HV3:=hid hv3
      clear hv3 hbx9
      go_wp2_with fail
      go_loopw [12,13] (fun dv pv wr=>∃ dd:Nat,dv=.int .u64 (dd:Int)∧R2/N≤dd∧dd≤999999999∧U64s wr pv (pcs (N*dd))∧Below w10.heap.size w10 wr) (fun dv _ _=>(intOf dv).toNat)
      case atStart=>exact ⟨d1,rfl,HE1.out,hd9,HV3.out,Below.refl _ _⟩
      case round =>
       obtain ⟨dd,rfl,hdd1,hdd9,hpv,hbr⟩:=hrel
       obtain ⟨p4,c4,rfl,_,_⟩:=hpv.slice
       have HIr:=hid (HI10.out.below hbr)
       have HVr:=hid (HV10.out.below hbr)
       have HPV:=hid hpv
       have HDD:=hid hdd1
       have hbxr:=HIr.out.box
       have hNd:(pcs (N*dd)).length≤549755813892:=by
        have h1:=pcs_len_mul N dd
        have h2:(pcs dd).length≤1:=pcs_len_lt (by omega)
        omega
       clear hpv hdd1
       go_wp2_with fail
       refine (integer_order _ _ (N*dd) R2 _ HPV.out HVr.out).mono ?_
       rintro e w11 ⟨rfl,hb11⟩
       have HI11:=hid (HIr.out.below hb11)
       have HV11:=hid (HVr.out.below hb11)
       have HP11:=hid (HPV.out.below hb11)
       have hbx11:=HI11.out.box
       by_cases hgt:R2<N*dd
       ·have hc3:decide (0<cmpI ((N*dd:Nat):Int) (R2:Int))=true:=by rw [cmpI_nat_gt];simpa using hgt
        obtain ⟨hlo1,hlo2⟩:=lower_gt hgt
        have hNd2:N≤N*dd:=Nat.le_mul_of_pos_right _ hlo2
        have HLO:=hid hlo1
        generalize cmpI ((N*dd:Nat):Int) (R2:Int)=cc3 at hc3 ⊢
        clear hgt hbxr hlo1
        go_wp2_with fail
        refine (integer_minus _ _ (N*dd) N _ (by omega) hNd2 HP11.out HI11.out.b).mono ?_
        rintro e w12 ⟨v5,rfl,hv5,hb12,-⟩
        rw [lower_part] at hv5
        obtain ⟨p5,c5,rfl,_,_⟩:=hv5.slice
        have HV5:=hid hv5
        clear hv5 hNd2 hbx11
        have hwr:IntKind.u64.wrap ((dd:Int)-1)=((dd-1:Nat):Int):=by rw [IntWalk.u64_in _ (by omega)];omega
        have hdi:((dd:Int)-1)=((dd-1:Nat):Int):=by omega
        have HDI:=hid hdi
        clear hwr hdi
        go_wp2
        go_roundw
        case rel =>
         exact ⟨dd-1,by rw [HDI.out],HLO.out,by omega,HV5.out,(hbr.trans (hb11.mono hbr.size)).trans (hb12.mono (Nat.le_trans hbr.size hb11.size))⟩
        case measure=>simp [intOf];omega
       ·have hc3:decide (0<cmpI ((N*dd:Nat):Int) (R2:Int))=false:=by rw [cmpI_nat_gt];simpa using hgt
        have hle:N*dd≤R2:=by omega
        have hdg:dd=R2/N:=digit_of (by omega) HDD.out (by rw [Nat.mul_comm];exact hle)
        have HDG:=hid hdg
        have HLE:=hid hle
        generalize cmpI ((N*dd:Nat):Int) (R2:Int)=cc3 at hc3 ⊢
        clear hgt hbxr hdg hle hbx11
        have hq11:=HI11.out.q
        obtain ⟨⟨u11,hu11⟩,hf11⟩:=HI11.out.cell (k:=j) (by omega)
        have hji1:(0:Int)≤(j:Int):=by omega
        have hji2:(j:Int)<((pcs M).length:Int):=by omega
        go_wp2_with fail
        go_region_with (first
         | (go_at_call 92;refine (integer_minus _ _ R2 (N*dd) _ (by omega) HLE.out HV11.out.drew HP11.out.drew).mono ?_;rintro e w12 ⟨v5,rfl,hv5,hb12,hF5⟩;obtain ⟨p5,c5,rfl,_,_⟩:=hv5.slice;have HI12:=hid (HI11.out.drew.below hb12);have hq12:=HI12.out.q;obtain ⟨⟨u12,hu12⟩,hf12⟩:=HI12.out.cell (k:=j) (by omega);have HV5:=hid hv5;clear hv5))
        all_goals
         go_wp2
         go_roundw
         case rel =>
          refine ⟨j,rfl,HI12.out.digit HX.out (by omega) ?_ ?_ (hF5.mono HI11.out.size)⟩
          ·rw [←HR.out,←HR2.out,HDG.out]
          ·rw [←HR.out,←HR2.out,←digit_rest,←HDG.out];exact HV5.out
         case measure=>simp [intOf]
end Go.Proofs.YtogdahbbogimcaaGreatDoor
