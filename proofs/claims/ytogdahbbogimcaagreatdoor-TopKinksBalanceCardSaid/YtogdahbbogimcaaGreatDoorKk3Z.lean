import Derived.Test.YtogdahbbogimcaaGreatDoorKk1Z
import Derived.Test.YtogdahbbogimcaaGreatDoorAtLawZ
set_option maxRecDepth 100000
set_option maxHeartbeats 8000000
namespace Go.Proofs.YtogdahbbogimcaaGreatDoor
open Go.RowKit Go.Shelf
open Go.Lib (decDigits itoa nDigits)
open Go.Lib (hid)
attribute [local go_sem] Oper.semAt_some
def tK (D:List (Rat × Rat)) (k:Nat):Rat:=(D.getD k (0,0)).1
def lK (D:List (Rat × Rat)) (k:Nat):Rat:=(D.getD k (0,0)).2
def atK (s:QP) (D:List (Rat × Rat)):Nat→QP
 | 0=>s
 | k+1=>plusQ (atK s D k) (dirQ (tK D k)) (lK D k)
structure PrOk (s:QP) (D:List (Rat × Rat)):Prop where
 s1:OkB s.1
 s2:OkB s.2
 d:∀ x∈D,OkB x.1∧OkB x.2
 n:D.length≤4
 ne:0<D.length
theorem tK_eq {D:List (Rat × Rat)} {k:Nat} (h:k<D.length):D[k].1=tK D k:=by unfold tK;rw [List.getD_eq_getElem?_getD,List.getElem?_eq_getElem h];rfl
theorem lK_eq {D:List (Rat × Rat)} {k:Nat} (h:k<D.length):D[k].2=lK D k:=by unfold lK;rw [List.getD_eq_getElem?_getD,List.getElem?_eq_getElem h];rfl
theorem sz0:Sz 402 0:=by unfold Sz;rw [tx0];decide
theorem PrOk.t {s:QP} {D:List (Rat × Rat)} (h:PrOk s D) (k:Nat):Sz 402 (tK D k):=by
 by_cases hk:k<D.length
 ·rw [←tK_eq hk];exact (h.d _ (List.getElem_mem hk)).1.sz
 ·unfold tK;rw [List.getD_eq_getElem?_getD,List.getElem?_eq_none (by omega)];exact sz0
theorem PrOk.l {s:QP} {D:List (Rat × Rat)} (h:PrOk s D) (k:Nat):Sz 402 (lK D k):=by
 by_cases hk:k<D.length
 ·rw [←lK_eq hk];exact (h.d _ (List.getElem_mem hk)).2.sz
 ·unfold lK;rw [List.getD_eq_getElem?_getD,List.getElem?_eq_none (by omega)];exact sz0
theorem PrOk.dir {s:QP} {D:List (Rat × Rat)} (h:PrOk s D) (k:Nat):Sz2 4924 (dirQ (tK D k)):=sz_dir (h.t k)
theorem sz_plus {a b c:Nat} {p d:QP} {k:Rat} (hp:Sz2 a p) (hd:Sz2 b d) (hk:Sz c k):Sz2 (2*(a+(c+b+4))+4) (plusQ p d k):=⟨hp.1.add (hk.mul hd.1),hp.2.add (hk.mul hd.2)⟩
theorem PrOk.atz {s:QP} {D:List (Rat × Rat)} (h:PrOk s D):∀ k,Sz2 (12000*2 ^ k-10664) (atK s D k)
 | 0=>⟨h.s1.sz.mono (by decide),h.s2.sz.mono (by decide)⟩
 | k+1=>(sz_plus (h.atz k) (h.dir k) (h.l k)).mono (by have:=Nat.one_le_two_pow (n:=k);omega)
theorem PrOk.at4 {s:QP} {D:List (Rat × Rat)} (h:PrOk s D) {k:Nat} (hk:k≤4):Sz2 181336 (atK s D k):=
 (h.atz k).mono (by have:2 ^ k≤2 ^ 4:=Nat.pow_le_pow_right (by decide) hk;omega)
def domV (s:QP) (D:List (Rat × Rat)) (k:Nat):Value:=
 .agg #[.string (tx (dirQ (tK D k)).1),.string (tx (dirQ (tK D k)).2),.string (tx (upQ (dirQ (tK D k))).1),.string (tx (upQ (dirQ (tK D k))).2),.string (tx (atK s D k).1),.string (tx (atK s D k).2),.string (tx (lK D k))]
def KeepP (n₀ B1:Nat) (W W':World):Prop:=Below n₀ W W'∧W'.heap[B1]?=W.heap[B1]?∧∀ (k:Nat) (c:Array Value) (fz:Nat × Nat),W.heap[k]?=some (Obj.cells c 30 fz)→W'.heap[k]?=some (Obj.cells c 30 fz)
theorem KeepP.refl (n₀ B1:Nat) (W:World):KeepP n₀ B1 W W:=⟨Below.refl _ _,rfl,fun _ _ _ h=>h⟩
theorem KeepP.trans {n₀ B1:Nat} {A B C:World} (h:KeepP n₀ B1 A B) (k:KeepP n₀ B1 B C):KeepP n₀ B1 A C:=⟨h.1.trans k.1,k.2.1.trans h.2.1,fun i c fz hi=>k.2.2 i c fz (h.2.2 i c fz hi)⟩
theorem KeepP.cell {n₀ B1:Nat} {A B:World} (h:KeepP n₀ B1 A B) {a:Addr} (ha:a.block<n₀∨a.block=B1):B.cell? a=A.cell? a:=by
 rcases ha with ha | ha
 ·exact World.cell?_of_block (h.1.block a.block ha)
 ·exact World.cell?_of_block (by rw [ha];exact h.2.1)
theorem KeepP.of_below {n₀ B1:Nat} {W W':World} (h:Below W.heap.size W W') (h1:n₀≤W.heap.size) (h2:B1<W.heap.size):KeepP n₀ B1 W W':=
 ⟨h.mono h1,h.block B1 h2,fun k _ _ hk=>(h.block k (lt_of_some hk)).trans hk⟩
theorem KeepP.put {n₀ B1:Nat} {w:World} (h1:n₀≤w.heap.size) (h2:B1<w.heap.size) (W:World) (l:Nat) (o o':Obj) (hl:w.heap.size≤l) (ho:W.heap[l]?=some o) (hc:o.isCells=false) (hwk:o.isWalk=false):KeepP n₀ B1 W (W.putObj l o'):=by
 refine ⟨belowK_b h1 W l o o' hl ho hc hwk,?_,fun k _ _ hk=>?_⟩
 ·simp only [World.putObj]
  rw [Array.getElem?_setIfInBounds,if_neg (by omega)]
 ·simp only [World.putObj]
  rw [Array.getElem?_setIfInBounds,if_neg,hk]
  intro e
  subst e
  rw [hk] at ho
  cases ho
  simp [Obj.isCells] at hc
def KeepQ (n₀ B1:Nat) (W W':World):Prop:=Below n₀ W W'∧W'.heap[B1]?=W.heap[B1]?
theorem KeepP.q {n₀ B1:Nat} {A B:World} (h:KeepP n₀ B1 A B):KeepQ n₀ B1 A B:=⟨h.1,h.2.1⟩
theorem KeepQ.trans {n₀ B1:Nat} {A B C:World} (h:KeepQ n₀ B1 A B) (k:KeepQ n₀ B1 B C):KeepQ n₀ B1 A C:=⟨h.1.trans k.1,k.2.trans h.2⟩
theorem KeepQ.cell {n₀ B1:Nat} {A B:World} (h:KeepQ n₀ B1 A B) {a:Addr} (ha:a.block<n₀∨a.block=B1):B.cell? a=A.cell? a:=by
 rcases ha with ha | ha
 ·exact World.cell?_of_block (h.1.block a.block ha)
 ·exact World.cell?_of_block (by rw [ha];exact h.2)
theorem KeepQ.set {n₀ B1:Nat} {A B:World} (h:KeepQ n₀ B1 A B) (a:Addr) (v:Value) (h1:n₀≤a.block) (h2:a.block≠B1):KeepQ n₀ B1 A (B.setCell a v):=
 ⟨h.1.setCell (p:=a) h1 v,(by
  show (B.heap.modify a.block _)[B1]?=_
  rw [Array.getElem?_modify,if_neg h2];exact h.2)⟩
theorem abidesT_below {T:TypeId} {B:Nat} {J:Nat→World→Prop} (h:AbidesT T B J) {k:Nat} {W W':World} (hs:J k W) (hb:Below W.heap.size W W'):J k W':=
 h k W W' none hs ⟨hb.os,hb.tape,hb.output,hb.size,fun k hk _=>hb.block k hk⟩ (fun r e=>by cases e)
theorem abidesT_set {T:TypeId} {B:Nat} {J:Nat→World→Prop} (h:AbidesT T B J) {k:Nat} {W:World} (hs:J k W) {a:Addr} (v:Value) (ha:B≤a.block) {c:Array Value} {fz:Nat × Nat} (ho:W.heap[a.block]?=some (.cells c T fz)):J k (W.setCell a v):=
 h k W _ (some a.block) hs ⟨rfl,rfl,rfl,by simp [World.setCell],fun j hj hne=>by
  show (W.heap.modify a.block _)[j]?=_
  rw [Array.getElem?_modify,if_neg (fun e=>hne (by rw [e]))]⟩ (fun r e=>by cases e;exact ⟨ha,_,ho,.inr ⟨c,fz,rfl⟩⟩)
theorem below_of_eq {n:Nat} {W W':World} (h:W'=W):Below n W W':=h ▸ Below.refl _ _
theorem domains1_in (n:Nat) (_hn:1≤n) (l Bp:Nat) (wd:World) (hgd:Good wd) (s:QP) (D:List (Rat × Rat)) (hP:PrOk s D) (vd vl:Value) (hvd:Txs wd vd (D.map (·.1))) (hvl:Txs wd vl (D.map (·.2))) (J Jx:Nat→World→Prop)
  (W:World) (hbW:Below wd.heap.size wd W) (hJ:AbidesT 30 W.heap.size J)
  (hY:∀ k (_:k<D.length) W1,J k W1→YieldAt Fence.wide (n-1) Tryz.prog l #[.int .i64 (k:Int),domV s D k] W1 fun e W'=>(e=.returned (.bool true)∧J (k+1) W'∧KeepP wd.heap.size Bp W1 W')∨(e=.returned (.bool false)∧Jx k W'))
  (hbp:Bp<W.heap.size) (e0:W.cell? ⟨Bp,0,none⟩=some (.string (tx s.1))) (e1:W.cell? ⟨Bp,1,none⟩=some (.string (tx s.2))) (e2:W.cell? ⟨Bp,2,none⟩=some vd) (e3:W.cell? ⟨Bp,3,none⟩=some vl) (h0:J 0 W) :
  CallsIn Fence.wide n Tryz.prog 110 #[.func (.yield l) #[] #[],.pointer (some ⟨Bp,0,none⟩)] W fun e W'=>(∃ v,e=.returned v)∧(J D.length W'∨∃ k,k<D.length∧Jx k W'):=by
 obtain ⟨bd,cd,rfl,hdn,hdm,hdl,hdc⟩:=hvd
 obtain ⟨bl,cl,rfl,hln,hlm,hll,hlc⟩:=hvl
 simp only [List.length_map,List.getElem_map] at *
 have HDIR:=hid (fun k w' (hg:Good w')=>kink_direction (tK D k) ((hP.t k).mono (by decide)) w' hg)
 have HUP:=hid (fun k w'=>kink_up (dirQ (tK D k)) ((hP.dir k).mono (by decide)) w')
 have HPL:=hid (fun k (hk:k<D.length) w' (hg:Good w')=>show Calls Tryz.prog 50 #[ptV (atK s D k),ptV (dirQ (tK D k)),.string (tx (lK D k))] w' (RV (ptV (atK s D (k+1))) w') from
  kink_plus (atK s D k) (dirQ (tK D k)) (lK D k) ((hP.at4 (Nat.le_trans (Nat.le_of_lt hk) hP.n)).mono (by decide)) ((hP.dir k).mono (by decide)) ((hP.l k).mono (by decide)) w' hg)
 unfold RV ptV at HDIR HUP HPL
 have HD:=hid (fun k (hk:k<D.length)=>(hdc k hk).trans (by rw [tK_eq hk]))
 have HL:=hid (fun k (hk:k<D.length)=>(hlc k hk).trans (by rw [lK_eq hk]))
 have hds:D.length≤4:=hP.n
 have HJ:=hid hJ
 have HY:=hid hY
 unfold domV at HY
 obtain ⟨wA,hwA⟩ : ∃ wA,wA=W.alloc (Obj.cells #[.string (tx s.1),.string (tx s.2)] 30):=⟨_,rfl⟩
 have HWA:=hid hwA
 have hrA:Below W.heap.size W wA:=by rw [hwA];exact alloc_below _ _
 have hk0:wA.heap[W.heap.size]?=some (.cells #[.string (tx (atK s D 0).1),.string (tx (atK s D 0).2)] 30 (0,0)):=by rw [hwA];exact World.alloc_heap_new _ _
 have hJA:J 0 wA:=abidesT_below hJ h0 hrA
 have hKA:KeepP wd.heap.size Bp W wA:=KeepP.of_below hrA hbW.size hbp
 have hsA:wA.heap.size=W.heap.size+1:=by rw [hwA];simp
 have HSA:=hid hsA
 clear hJ hY hP hdc hlc hwA hsA
 refine callsIn_of_wp Tryz.func110 rfl trivial ?_ rfl
 simp only [Tryz.ntmps110,List.size_toArray,List.length_cons,List.length_nil,Nat.reduceAdd,Nat.reduceSub,Array.replicate_succ,Array.replicate_zero,List.push_toArray,List.append_toArray,List.nil_append,List.cons_append]
 gi_wp2
 rw [←HWA.out]
 gi_loopw [4,5,6,12] (fun _ _ _ iv wr=>∃ k:Nat,k≤D.length∧iv=.int .i64 (k:Int)∧J k wr∧KeepQ wd.heap.size Bp W wr∧wr.heap[W.heap.size]?=some (.cells #[.string (tx (atK s D k).1),.string (tx (atK s D k).2)] 30 (0,0)))
  (fun _ _ _ iv _=>D.length-(intOf iv).toNat)
 case atStart=>exact ⟨0,Nat.zero_le _,rfl,hJA,hKA.q,hk0⟩
 case round =>
  obtain ⟨k,hk,rfl,hJs,hnx,hbx⟩:=hrel
  have hszr:=hnx.1.size
  have hszW:=hbW.size
  have hgr:Good wr:=hgd.below (hbW.trans hnx.1)
  have hbr:=hbW.trans hnx.1
  have r0:=(hnx.cell (a:=⟨Bp,0,none⟩) (.inr rfl)).trans e0
  have r1:=(hnx.cell (a:=⟨Bp,1,none⟩) (.inr rfl)).trans e1
  have r2:=(hnx.cell (a:=⟨Bp,2,none⟩) (.inr rfl)).trans e2
  have r3:=(hnx.cell (a:=⟨Bp,3,none⟩) (.inr rfl)).trans e3
  have HNX:=hid hnx
  have HBX:=hid hbx
  have HJS:=hid hJs
  have hB0l:=lt_of_blk hbx
  obtain ⟨x0,x1,_,_⟩:=two_cells hbx
  clear e0 e1 e2 e3 hnx hbx hJs h0 hJA hKA hk0 hrA
  by_cases hkl:k<D.length
  ·have t0:=(hbr.cell (p:=⟨bd,k,none⟩) hdl).trans (HD.out k hkl)
   have l0:=(hbr.cell (p:=⟨bl,k,none⟩) hll).trans (HL.out k hkl)
   have HY1:=hid (HY.out k hkl)
   have HDIR1:=hid (HDIR.out k)
   have HUP1:=hid (HUP.out k)
   have HPL1:=hid (HPL.out k hkl)
   have hkn:decide ((k:Int)<(D.length:Int))=true:=decide_eq_true (by omega)
   have i1:(0:Int)≤(k:Int):=by omega
   have i2:(k:Int)<(D.length:Int):=by omega
   clear HY HDIR HUP HPL HD HL
   gi_wp2
   refine ⟨trivial,?_⟩
   refine (callsIn_wide.2 (HDIR1.out wr hgr)).mono ?_
   rintro e w1 ⟨rfl,hb1⟩
   gi_wp2
   obtain ⟨wB,hwB⟩ : ∃ wB,wB=w1.alloc (Obj.cells #[.string (tx (dirQ (tK D k)).1),.string (tx (dirQ (tK D k)).2)] 30):=⟨_,rfl⟩
   have hb1B:Below w1.heap.size w1 wB:=by rw [hwB];exact alloc_below _ _
   have hbB:=hb1.trans (hb1B.mono hb1.size)
   have hkB:wB.heap[w1.heap.size]?=some (.cells #[.string (tx (dirQ (tK D k)).1),.string (tx (dirQ (tK D k)).2)] 30 (0,0)):=by rw [hwB];exact World.alloc_heap_new _ _
   have hsB:wB.heap.size=w1.heap.size+1:=by rw [hwB];simp
   rw [←hwB]
   have hk3:=(hbB.block _ hB0l).trans HBX.out
   obtain ⟨y0,y1,_,_⟩:=two_cells hk3
   obtain ⟨z0,z1,_,_⟩:=two_cells hkB
   have q2:=(hbB.cell (p:=⟨Bp,2,none⟩) (show Bp<_ by omega)).trans r2
   have q3:=(hbB.cell (p:=⟨Bp,3,none⟩) (show Bp<_ by omega)).trans r3
   have m0:=(hbB.cell (p:=⟨bl,k,none⟩) (show bl<_ by omega)).trans l0
   have hs1:=hb1.size
   have L1:W.heap.size<wB.heap.size:=by omega
   have L2:Bp<wB.heap.size:=by omega
   have L3:bl<wB.heap.size:=by omega
   have L4:w1.heap.size<wB.heap.size:=by omega
   have HGB:=hid (hgr.below hbB)
   have HKB:=hid hkB
   have HK3:=hid hk3
   clear hwB hkB hk3 hsB
   refine wpIn_held_list lifts_wide (fun W'=>Below wB.heap.size wB W') [0,1,2,3,5,6,7,8,9,10] [4,11] 12 (by kernel_rfl) (by kernel_rfl) (by kernel_rfl) ⟨rfl,rfl,rfl,Nat.le_refl _,fun _ _=>rfl⟩ ?_
   iterate 10
    refine wpTakeL_step rfl ?_ rfl ?_ ?_
    rotate_left
    ·intro W' hS'
     have s0:=(hS'.cell (p:=⟨W.heap.size,0,none⟩) L1).trans y0
     have s1:=(hS'.cell (p:=⟨W.heap.size,1,none⟩) L1).trans y1
     have s2:=(hS'.cell (p:=⟨w1.heap.size,0,none⟩) L4).trans z0
     have s3:=(hS'.cell (p:=⟨w1.heap.size,1,none⟩) L4).trans z1
     have s4:=(hS'.cell (p:=⟨Bp,2,none⟩) L2).trans q2
     have s5:=(hS'.cell (p:=⟨Bp,3,none⟩) L2).trans q3
     have s6:=(hS'.cell (p:=⟨bl,k,none⟩) L3).trans m0
     go_simp
     try with_reducible rfl
    try simp only [zA,zB,zC,Act.put,zD,zE,zF]
   have hH0:Below wB.heap.size wB wB.drew:=⟨rfl,rfl,rfl,Nat.le_refl _,fun _ _=>rfl⟩
   refine wpKeepL_step rfl rfl (fun K hK=>?_)
   go_simp
   refine (HUP1.out _).mono ?_
   rintro e v1 ⟨rfl,hbv1⟩
   have hH1:=hH0.trans (hbv1.mono hH0.size)
   refine hK _ _ ⟨hH1,?_⟩
   clear hK K
   try simp only [zA,zB,zC,Act.put,zD,zE,zF]
   refine wpKeepL_step rfl rfl (fun K hK=>?_)
   go_simp
   refine hK _ _ ⟨hH1,?_⟩
   clear hK K
   try simp only [zA,zB,zC,Act.put,zD,zE,zF]
   unfold wpKeepL
   simp only [List.drop_succ_cons,List.drop_zero]
   have hbv:=hbB.trans (hH1.mono hbB.size)
   have hJv:J k v1:=abidesT_below HJ.out HJS.out hbv
   have hKv:KeepP wd.heap.size Bp wr v1:=KeepP.of_below hbv (by omega) (by omega)
   obtain ⟨fn,tmps,assign,body,hy,hR⟩:=HY1.out v1 hJv
   have HKv:=hid hKv
   have HR3:=hid r3
   have HL0:=hid l0
   have H3v:=hid ((hH1.block _ L1).trans HK3.out)
   have HBv:=hid ((hH1.block _ L4).trans HKB.out)
   clear hKv hJv y0 y1 z0 z1 q2 q3 m0 t0 l0 r0 r1 r2 r3 x0 x1
   gi_wp2
   refine hR.mono ?_
   rintro e W9 (⟨rfl,hJ9,hk9⟩ | ⟨rfl,hJx9⟩)
   ·have h39:=hk9.2.2 _ _ _ H3v.out
    have hB9:=hk9.2.2 _ _ _ HBv.out
    have hk19:=HKv.out.trans hk9
    have hs9:=hk19.1.size
    have q3:=(hk19.cell (a:=⟨Bp,3,none⟩) (.inr rfl)).trans HR3.out
    have m0:=(hk19.cell (a:=⟨bl,k,none⟩) (.inl hll)).trans HL0.out
    have hv1s:=hbv.size
    have L1:=lt_of_blk h39
    have L4:=lt_of_blk hB9
    have L2:Bp<W9.heap.size:=by
     have:W9.heap[Bp]?=_:=hk19.2.1
     have h0:=Array.getElem?_eq_getElem (show Bp<wr.heap.size by omega)
     rw [h0] at this
     exact lt_of_blk this
    have L3:bl<W9.heap.size:=by have:=hk9.1.size;have:=hbr.size;omega
    have HG9:=hid (hgd.below (hbr.trans hk19.1))
    obtain ⟨y0,y1,_,_⟩:=two_cells h39
    obtain ⟨z0,z1,_,_⟩:=two_cells hB9
    have H39:=hid h39
    clear h39 hB9
    gi_wp2
    refine wpIn_held_list lifts_wide (fun W'=>Below W9.heap.size W9 W') [0,1,2,3,4,5,6] [7] 8 (by kernel_rfl) (by kernel_rfl) (by kernel_rfl) ⟨rfl,rfl,rfl,Nat.le_refl _,fun _ _=>rfl⟩ ?_
    iterate 7
     refine wpTakeL_step rfl ?_ rfl ?_ ?_
     rotate_left
     ·intro W' hS'
      have s0:=(hS'.cell (p:=⟨W.heap.size,0,none⟩) L1).trans y0
      have s1:=(hS'.cell (p:=⟨W.heap.size,1,none⟩) L1).trans y1
      have s2:=(hS'.cell (p:=⟨w1.heap.size,0,none⟩) L4).trans z0
      have s3:=(hS'.cell (p:=⟨w1.heap.size,1,none⟩) L4).trans z1
      have s5:=(hS'.cell (p:=⟨Bp,3,none⟩) L2).trans q3
      have s6:=(hS'.cell (p:=⟨bl,k,none⟩) L3).trans m0
      go_simp
      try with_reducible rfl
     try simp only [zA,zB,zC,Act.put,zD,zE,zF]
    have hN0:Below W9.heap.size W9 W9.drew:=⟨rfl,rfl,rfl,Nat.le_refl _,fun _ _=>rfl⟩
    refine wpKeepL_step rfl rfl (fun K hK=>?_)
    go_simp
    refine (HPL1.out _ (HG9.out.below hN0)).mono ?_
    rintro e v2 ⟨rfl,hbv2⟩
    have hN1:=hN0.trans (hbv2.mono hN0.size)
    refine hK _ _ ⟨hN1,?_⟩
    clear hK K
    try simp only [zA,zB,zC,Act.put,zD,zE,zF]
    unfold wpKeepL
    simp only [List.drop_succ_cons,List.drop_zero]
    have hkX:=(hN1.block _ L1).trans H39.out
    have hkY:=two_set0 (.string (tx (atK s D (k+1)).1)) hkX
    have hkZ:=two_set1 (.string (tx (atK s D (k+1)).2)) hkY
    have J2:=abidesT_below HJ.out hJ9 hN1
    have J3:=abidesT_set HJ.out J2 (a:=⟨W.heap.size,0,none⟩) (.string (tx (atK s D (k+1)).1)) (Nat.le_refl _) hkX
    have J4:=abidesT_set HJ.out J3 (a:=⟨W.heap.size,1,none⟩) (.string (tx (atK s D (k+1)).2)) (Nat.le_refl _) hkY
    have K4:=((HNX.out.trans (hk19.q.trans (KeepP.of_below (n₀:=wd.heap.size) (B1:=Bp) hN1 (by omega) L2).q)).set ⟨W.heap.size,0,none⟩ (.string (tx (atK s D (k+1)).1)) hszW (by simp;omega)).set ⟨W.heap.size,1,none⟩ (.string (tx (atK s D (k+1)).2)) hszW (by simp;omega)
    obtain ⟨_,_,_,_⟩:=two_cells hkX
    have HJ4:=hid J4
    have HK4:=hid K4
    have HKZ:=hid hkZ
    clear J2 J3 J4 K4 hkX hkY hkZ y0 y1 z0 z1 q3 m0
    gi_wp2
    go_roundw
    case rel=>exact ⟨k+1,hkl,int_succ k,HJ4.out,HK4.out,HKZ.out⟩
    case measure=>show D.length-((k:Int)+1).toNat<D.length-((k:Int)).toNat;omega
   ·gi_wp2
    refine bodyPost_ret (results_none rfl _ _ _) rfl ?_
    exact ⟨⟨_,rfl⟩,.inr ⟨k,hkl,hJx9⟩⟩
  ·obtain rfl:k=D.length:=by omega
   have hkn:decide ((D.length:Int)<(D.length:Int))=false:=decide_eq_false (by omega)
   gi_wp2
   go_end0
   exact ⟨⟨_,rfl⟩,.inl HJS.out⟩
def profV (s:QP) (vd vl:Value):Value:=.agg #[.string (tx s.1),.string (tx s.2),vd,vl]
def profO (s:QP) (vd vl:Value):Obj:=.cells #[.string (tx s.1),.string (tx s.2),vd,vl] 33
theorem kink_domains (n:Nat) (s:QP) (a b:Option Addr) (la ca lb cb:Nat) (w:World) :
  CallsIn Fence.wide n Tryz.prog 77 #[profV s (.slice a la ca) (.slice b lb cb)] w fun e w'=>e=.returned (.func (.func 110) #[] #[.pointer (some ⟨w.heap.size,0,none⟩)])∧w'=w.alloc (profO s (.slice a la ca) (.slice b lb cb)):=by
 unfold profV profO
 generalize tx s.1=s1
 generalize tx s.2=s2
 refine callsIn_of_wp Tryz.func77 rfl trivial ?_ rfl
 simp only [Tryz.ntmps77,List.size_toArray,List.length_cons,List.length_nil,Nat.reduceAdd,Nat.reduceSub,Array.replicate_succ,Array.replicate_zero,List.push_toArray,List.append_toArray,List.nil_append,List.cons_append]
 gi_wp2
 go_ret
 exact ⟨rfl,rfl⟩
theorem prof_cells {w:World} {s:QP} {vd vl:Value} {B:Nat} (h:w.heap[B]?=some (profO s vd vl)):w.cell? ⟨B,0,none⟩=some (.string (tx s.1))∧w.cell? ⟨B,1,none⟩=some (.string (tx s.2))∧w.cell? ⟨B,2,none⟩=some vd∧w.cell? ⟨B,3,none⟩=some vl:=by
 unfold profO at h
 refine ⟨by simp [World.cell?,h],by simp [World.cell?,h],by simp [World.cell?,h],by simp [World.cell?,h]⟩
def domE (s:QP) (D:List (Rat × Rat)) (k:Nat):Array Value:=#[.int .i64 (k:Int),domV s D k]
theorem domains_at (n:Nat) (hn:1≤n) (Bp:Nat) (wd:World) (hgd:Good wd) (s:QP) (D:List (Rat × Rat)) (hP:PrOk s D) (vd vl:Value) (hvd:Txs wd vd (D.map (·.1))) (hvl:Txs wd vl (D.map (·.2)))
  (w:World) (hw:Below wd.heap.size wd w) (hb:w.heap[Bp]?=some (profO s vd vl)) :
  SeqAt 30 Fence.wide n Tryz.prog 110 #[.pointer (some ⟨Bp,0,none⟩)] (domE s D) (KeepP wd.heap.size Bp) (List.range D.length) w:=by
 intro l J Jx W hW hJ _ hY h0
 have hbp:=lt_of_blk hb
 obtain ⟨e0,e1,e2,e3⟩:=prof_cells ((hW.block Bp hbp).trans hb)
 simp only [List.length_range,List.getElem_range] at *
 exact domains1_in n hn l Bp wd hgd s D hP vd vl hvd hvl J Jx W (hw.trans (hW.mono hw.size)) hJ hY (Nat.lt_of_lt_of_le hbp hW.size) e0 e1 e2 e3 h0
end Go.Proofs.YtogdahbbogimcaaGreatDoor
namespace Go.Proofs.YtogdahbbogimcaaGreatDoor
open Go.RowKit Go.Shelf
open Go.Lib (decDigits itoa nDigits)
open Go.Lib (hid)
attribute [local go_sem] Oper.semAt_some
def nK (D:List (Rat × Rat)) (k:Nat):QP:=upQ (dirQ (tK D k))
def axK (D:List (Rat × Rat)) (k:Nat):QP:=
 if k=0 then nK D 0 else if k<D.length then plusQ (0,0) (plusQ (nK D (k-1)) (nK D k) 1) (1*(1+dotQ (nK D (k-1)) (nK D k))⁻¹) else nK D (k-1)
def axC (s:QP) (D:List (Rat × Rat)) (k:Nat):List Value:=[.string (tx (atK s D k).1),.string (tx (atK s D k).2),.string (tx (axK D k).1),.string (tx (axK D k).2)]
def axCs (s:QP) (D:List (Rat × Rat)):Nat→List Value
 | 0=>[]
 | k+1=>axCs s D k++axC s D k
theorem axCs_len (s:QP) (D:List (Rat × Rat)):∀ k,(axCs s D k).length=k*4
 | 0=>rfl
 | k+1=>by rw [axCs,List.length_append,axCs_len s D k];show k*4+4=_;omega
theorem axCs_get (s:QP) (D:List (Rat × Rat)):∀ (k i:Nat),i<k→∀ j (u:Value),(axC s D i)[j]?=some u→(axCs s D k)[i*4+j]?=some u
 | 0,i,h,_,_,_=>by omega
 | k+1,i,h,j,u,hu=>by
  have hj:j<4:=by
   rcases Nat.lt_or_ge j 4 with h | h
   ·exact h
   ·rw [List.getElem?_eq_none (by show 4≤j;exact h)] at hu;cases hu
  rw [axCs]
  rcases Nat.lt_or_ge i k with h1 | h1
  ·rw [List.getElem?_append_left (by rw [axCs_len];omega)]
   exact axCs_get s D k i h1 j u hu
  ·obtain rfl:i=k:=by omega
   rw [List.getElem?_append_right (by rw [axCs_len];omega),axCs_len,show i*4+j-i*4=j by omega]
   exact hu
def domC (s:QP) (D:List (Rat × Rat)) (k:Nat):Array Value:=
 #[.string (tx (dirQ (tK D k)).1),.string (tx (dirQ (tK D k)).2),.string (tx (nK D k).1),.string (tx (nK D k).2),.string (tx (atK s D k).1),.string (tx (atK s D k).2),.string (tx (lK D k))]
def domZ:Array Value:=#[.string ⟨#[]⟩,.string ⟨#[]⟩,.string ⟨#[]⟩,.string ⟨#[]⟩,.string ⟨#[]⟩,.string ⟨#[]⟩,.string ⟨#[]⟩]
def lastC (s:QP) (D:List (Rat × Rat)):Nat→Array Value
 | 0=>domZ
 | k+1=>domC s D k
def Axes (w:World) (v:Value) (s:QP) (D:List (Rat × Rat)):Prop:=
 ∃ b c,v=.slice (some ⟨b,0,none⟩) (D.length+1) c∧D.length+1≤c∧c≤maxLen∧b<w.heap.size∧∀ i,i≤D.length→∀ j (u:Value),(axC s D i)[j]?=some u→w.cell? ⟨b,i*4+j,none⟩=some u
def EndsPost (s:QP) (D:List (Rat × Rat)) (w:World) (e:Ending) (w':World):Prop:=∃ v,e=.returned v∧Axes w' v s D∧Below w.heap.size w w'
theorem slAxis:SliceOf 82 90 (.agg #[.string ⟨#[]⟩,.string ⟨#[]⟩,.string ⟨#[]⟩,.string ⟨#[]⟩]) 4 64:=⟨Tryz.underlying82,by kernel_rfl,rfl,by decide⟩
structure EndsInv (w4:World) (B3 B4 Bp s1:Nat) (s:QP) (D:List (Rat × Rat)) (k:Nat) (W:World):Prop where
 low:Below B3 w4 W
 prof:W.heap[Bp]?=w4.heap[Bp]?
 out:∃ v:Value,Boxed W B3 82 v∧W.ownsRow s1 90 4 v k (axCs s D k)
 last:W.heap[B4]?=some (.cells (lastC s D k) 132 (0,0))
 sz:s1≤W.heap.size
section
variable {T:TypeId} {B:Nat} {W W':World} {row:Option Nat}
theorem cells_keptT (hg:W.grownBy W' row) (hr:∀ r,row=some r→B≤r∧∃ o:Obj,W.heap[r]?=some o∧(o.isCells=false∨∃ c fz,o=.cells c T fz)) {k:Nat} {c:Array Value} {e:TypeId} {fz:Nat × Nat} (hk:W.heap[k]?=some (.cells c e fz)) (he:e≠T):W'.heap[k]?=some (.cells c e fz):=by
 rw [hg.block k (lt_of_some hk) ?_]
 ·exact hk
 ·intro e'
  obtain ⟨_,o,ho,hc⟩:=hr k e'.symm
  rw [hk] at ho
  cases ho
  rcases hc with hc | ⟨c',fz',hc⟩
  ·simp [Obj.isCells] at hc
  ·cases hc;exact he rfl
theorem ownsRow_keptT (hg:W.grownBy W' row) (hr:∀ r,row=some r→B≤r∧∃ o:Obj,W.heap[r]?=some o∧(o.isCells=false∨∃ c fz,o=.cells c T fz)) {base:Nat} {e:TypeId} {size n:Nat} {v:Value} {xs:List Value} (h:W.ownsRow base e size v n xs) (he:e≠T):W'.ownsRow base e size v n xs:=by
 refine ⟨h.1,?_⟩
 rcases h.2 with h2 | ⟨g,cap,cur,e1,e2,e3,r⟩
 ·exact .inl h2
 ·exact .inr ⟨g,cap,cur,e1,e2,cells_keptT hg hr e3 he,r⟩
theorem below_keptT {n:Nat} {w:World} (h:Below n w W) (hn:n≤B) (hw:n≤w.heap.size) (hg:W.grownBy W' row) (hr:∀ r,row=some r→B≤r∧∃ o:Obj,W.heap[r]?=some o∧(o.isCells=false∨∃ c fz,o=.cells c T fz)):Below n w W':=
 h.trans ⟨hg.os,hg.tape,hg.output,hg.size,fun k hk=>hg.block k (by have:=h.size;omega) fun e=>by have:=(hr k e.symm).1;omega⟩
end
theorem endsInv_own {w4:World} {B3 B4 Bp s1 B:Nat} {s:QP} {D:List (Rat × Rat)} (hB:Bp<B) (h34:B3<Bp) (hs:Bp<w4.heap.size):OwnT 30 B (EndsInv w4 B3 B4 Bp s1 s D):=fun k X Y row h hg hr =>
 ⟨below_keptT h.low (by omega) (by omega) hg hr,(by
  refine (hg.block Bp (by have:=h.low.size;omega) fun e=>?_).trans h.prof
  have:=(hr _ e.symm).1
  omega),(by
  obtain ⟨v,h1,h2⟩:=h.out
  exact ⟨v,cells_keptT hg hr h1 (by decide),ownsRow_keptT hg hr h2 (by decide)⟩),cells_keptT hg hr h.last (by decide),Nat.le_trans h.sz hg.size⟩
theorem endsInv_below {w4:World} {B3 B4 Bp s1:Nat} {s:QP} {D:List (Rat × Rat)} {k:Nat} {W W':World} (h:EndsInv w4 B3 B4 Bp s1 s D k W) (hb:Below W.heap.size W W') (h3:B3≤w4.heap.size) (hp:Bp<w4.heap.size):EndsInv w4 B3 B4 Bp s1 s D k W':=
 ⟨h.low.trans (hb.mono (Nat.le_trans h3 h.low.size)),(hb.block Bp (Nat.lt_of_lt_of_le hp h.low.size)).trans h.prof,(by
  obtain ⟨v,h1,h2⟩:=h.out
  exact ⟨v,(hb.block _ h1.lt).trans h1,owns_below h2 hb⟩),(hb.block _ (lt_of_some h.last)).trans h.last,Nat.le_trans h.sz hb.size⟩
theorem append_allT {t e:TypeId} {size:Nat} (hte:t≠e) (htp:t≠30) (hep:e≠30) {W w1:World} {s0 s1 n₀ Bp k m:Nat} {v v':Value} {xs ys:List Value} {tmp:Obj} (hv:Boxed W s0 t v) (hrow:W.ownsRow s1 e size v k xs) (h0:n₀≤s0) (h01:s0<s1) (hs:s1≤W.heap.size)
  (hb:Bp<s1) (hn:Bp≠s0) (hown':w1.ownsRow s1 e size v' m ys) (hgrow:(W.alloc tmp).grownBy w1 v.ownBlock) :
  Boxed w1 s0 t v∧Boxed (w1.setCell ⟨s0,0,none⟩ v') s0 t v'∧(w1.setCell ⟨s0,0,none⟩ v').ownsRow s1 e size v' m ys∧KeepsOthers W (w1.setCell ⟨s0,0,none⟩ v')∧KeepP n₀ Bp W (w1.setCell ⟨s0,0,none⟩ v')∧Below s0 W (w1.setCell ⟨s0,0,none⟩ v') ∧
  (∀ k,k≠s0→k<s1→(w1.setCell ⟨s0,0,none⟩ v').heap[k]?=W.heap[k]?)∧(∀ (k:Nat) (c:Array Value) (t':TypeId) (fz:Nat × Nat),t'≠t→t'≠e→W.heap[k]?=some (.cells c t' fz)→(w1.setCell ⟨s0,0,none⟩ v').heap[k]?=some (.cells c t' fz)∧w1.heap[k]?=some (.cells c t' fz)):=by
 obtain ⟨c1,c2,_,c4,c5⟩:=hv.appended (n₀:=s0) hte (owns_base hrow (Nat.le_of_lt h01)) (by omega) (Nat.le_refl _) (owns_base hown' (Nat.le_of_lt h01)) hgrow
 have hg1:∀ g,v.ownBlock=some g→s1≤g:=fun g hg=>by
  rcases hrow.2 with ⟨rfl,_⟩ | ⟨g',cap,cur,rfl,hb,_,_⟩
  ·simp [Value.ownBlock] at hg
  ·obtain rfl:g'=g:=by simpa [Value.ownBlock] using hg
   exact hb
 have hg2:∀ g,v'.ownBlock=some g→s1≤g:=fun g hg=>by
  rcases hown'.2 with ⟨rfl,_⟩ | ⟨g',cap,cur,rfl,hb,_,_⟩
  ·simp [Value.ownBlock] at hg
  ·obtain rfl:g'=g:=by simpa [Value.ownBlock] using hg
   exact hb
 have one1:∀ k,k<W.heap.size→some k≠v.ownBlock→w1.heap[k]?=W.heap[k]?:=fun k hkl hkr=>by
  rw [hgrow.block k (by simp;omega) hkr]
  exact (alloc_below W tmp).block k hkl
 have one:∀ k,k≠s0→k<W.heap.size→some k≠v.ownBlock→(w1.setCell ⟨s0,0,none⟩ v').heap[k]?=W.heap[k]?:=fun k hk hkl hkr=>by
  rw [Below.heap_setCell _ _ _ k hk]
  exact one1 k hkl hkr
 have low:∀ k,k≠s0→k<s1→(w1.setCell ⟨s0,0,none⟩ v').heap[k]?=W.heap[k]?:=fun k hk hkl=>one k hk (by omega) (fun h=>by have:=hg1 _ h.symm;omega)
 have typ:∀ (k:Nat) (c:Array Value) (t':TypeId) (fz:Nat × Nat),t'≠t→t'≠e→W.heap[k]?=some (.cells c t' fz)→(w1.setCell ⟨s0,0,none⟩ v').heap[k]?=some (.cells c t' fz)∧w1.heap[k]?=some (.cells c t' fz):=fun k c t' fz ht he hk=>by
  have h1:k≠s0:=fun e'=>by
   subst e'
   rw [show W.heap[k]?=_ from hv] at hk
   cases hk
   exact ht rfl
  have h2:some k≠v.ownBlock:=fun h=>by
   rcases hrow.2 with ⟨rfl,_⟩ | ⟨g',cap,cur,rfl,hb,hgb,_⟩
   ·simp [Value.ownBlock] at h
   ·obtain rfl:k=g':=by simpa [Value.ownBlock] using h
    rw [hgb] at hk
    cases hk
    exact he rfl
  exact ⟨(one k h1 (lt_of_some hk) h2).trans hk,(one1 k (lt_of_some hk) h2).trans hk⟩
 refine ⟨c1,c2,ownsRow_setCell_other hown' (fun h=>?_) _,c4,⟨c5.mono h0,low Bp hn hb,fun k c fz hk=>(typ k c _ fz (Ne.symm htp) (Ne.symm hep) hk).1⟩,c5,low,typ⟩
 have:=hg2 _ h
 dsimp only at this
 omega
theorem seven_cells {W:World} {B:Nat} {t:TypeId} {a b c d e f g:Value} (h:W.heap[B]?=some (.cells #[a,b,c,d,e,f,g] t (0,0))) :
  W.cell? ⟨B,0,none⟩=some a∧W.cell? ⟨B,1,none⟩=some b∧W.cell? ⟨B,2,none⟩=some c∧W.cell? ⟨B,3,none⟩=some d∧W.cell? ⟨B,4,none⟩=some e∧W.cell? ⟨B,5,none⟩=some f∧W.cell? ⟨B,6,none⟩=some g:=by
 refine ⟨?_,?_,?_,?_,?_,?_,?_⟩ <;> simp [World.cell?,h]
theorem seven_free {W:World} {B:Nat} {t:TypeId} {a b c d e f g:Value} (h:W.heap[B]?=some (.cells #[a,b,c,d,e,f,g] t (0,0))) :
  W.frozen? ⟨B,0,none⟩=false∧W.frozen? ⟨B,1,none⟩=false∧W.frozen? ⟨B,2,none⟩=false∧W.frozen? ⟨B,3,none⟩=false∧W.frozen? ⟨B,4,none⟩=false∧W.frozen? ⟨B,5,none⟩=false∧W.frozen? ⟨B,6,none⟩=false:=by
 refine ⟨?_,?_,?_,?_,?_,?_,?_⟩ <;> simp [World.frozen?,h]
theorem seven_set {W w7:World} {B:Nat} {t:TypeId} {a b c d e f g a' b' c' d' e' f' g':Value} (h:W.heap[B]?=some (.cells #[a,b,c,d,e,f,g] t (0,0)))
  (hw:w7=((((((W.setCell ⟨B,0,none⟩ a').setCell ⟨B,1,none⟩ b').setCell ⟨B,2,none⟩ c').setCell ⟨B,3,none⟩ d').setCell ⟨B,4,none⟩ e').setCell ⟨B,5,none⟩ f').setCell ⟨B,6,none⟩ g') :
  w7.heap[B]?=some (.cells #[a',b',c',d',e',f',g'] t (0,0))∧(∀ k,k≠B→w7.heap[k]?=W.heap[k]?)∧W.heap.size≤w7.heap.size∧(∀ n,n≤B→Below n W w7)∧KeepsOthers W w7:=by
 refine ⟨?_,fun k hk=>?_,?_,fun n hn=>?_,?_⟩
 ·rw [hw]
  have h7:=set_block (i:=6) g' (set_block (i:=5) f' (set_block (i:=4) e' (set_block (i:=3) d' (set_block (i:=2) c' (set_block (i:=1) b' (set_block (i:=0) a' h))))))
  simp only [List.setIfInBounds_toArray,List.set_cons_zero,List.set_cons_succ] at h7
  exact h7
 ·rw [hw]
  simp only [Below.heap_setCell _ (⟨B,_,none⟩ : Addr) _ k hk]
 ·rw [hw];simp
 ·rw [hw]
  exact ((((((((Below.refl n W).setCell (p:=⟨B,0,none⟩) hn _).setCell (p:=⟨B,1,none⟩) hn _).setCell (p:=⟨B,2,none⟩) hn _).setCell (p:=⟨B,3,none⟩) hn _).setCell (p:=⟨B,4,none⟩) hn _).setCell (p:=⟨B,5,none⟩) hn _).setCell (p:=⟨B,6,none⟩) hn _)
 ·rw [hw]
  exact (((((((KeepsOthers.setCell _ _ _).trans (KeepsOthers.setCell _ _ _)).trans (KeepsOthers.setCell _ _ _)).trans (KeepsOthers.setCell _ _ _)).trans (KeepsOthers.setCell _ _ _)).trans (KeepsOthers.setCell _ _ _)).trans (KeepsOthers.setCell _ _ _))
theorem axes_of_row {W:World} {s:QP} {D:List (Rat × Rat)} {g cap base n:Nat} (hn:D.length+1=n) (h:W.ownsRow base 90 4 (.slice (some ⟨g,0,none⟩) n cap) n (axCs s D n)) {Dk:Nat} (hd:W.heap[Dk]?=some (.deferred (some []))) (o:Obj) :
  Axes (W.putObj Dk o) (.slice (some ⟨g,0,none⟩) n cap) s D:=by
 subst hn
 rcases h.2 with ⟨h2,_⟩ | ⟨g',cap',cur,e1,_,e3,e4,e5,e6,e7⟩
 ·cases h2
 ·cases e1
  have hne:Dk≠g:=by
   intro e
   subst e
   rw [e3] at hd
   cases hd
  refine ⟨g,cap,rfl,e4,e5,by simpa [World.putObj] using lt_of_some e3,fun i hi j u hu=>?_⟩
  have h1:=axCs_get s D (D.length+1) i (by omega) j u hu
  have hj:j<4:=by
   rcases Nat.lt_or_ge j 4 with h | h
   ·exact h
   ·rw [List.getElem?_eq_none (by show 4≤j;exact h)] at hu;cases hu
  have hblk:(W.putObj Dk o).heap[g]?=W.heap[g]?:=by
   simp only [World.putObj]
   rw [Array.getElem?_setIfInBounds,if_neg hne]
  rw [World.cell?_of_block (a:=⟨g,i*4+j,none⟩) hblk]
  rw [←e7,List.getElem?_take,if_pos (by omega)] at h1
  simp [World.cell?,e3]
  simpa using h1
theorem ends_round {w w4 W wX w7:World} {s:QP} {D:List (Rat × Rat)} {k:Nat} {v':Value} {a b c d e f g:Value} (h4:w.heap.size+4≤w4.heap.size) (hlow:Below (w.heap.size+1) w4 W) (hpro:W.heap[w.heap.size+3]?=w4.heap[w.heap.size+3]?)
  (k2:Boxed wX (w.heap.size+1) 82 v') (k3:wX.ownsRow w4.heap.size 90 4 v' (k+1) (axCs s D (k+1))) (k4:KeepsOthers W wX) (k5:KeepP w.heap.size (w.heap.size+3) W wX) (k6:Below (w.heap.size+1) W wX)
  (hly:wX.heap[w.heap.size+1+1]?=some (.cells #[a,b,c,d,e,f,g] 132 (0,0)))
  (hw7:w7=((((((wX.setCell ⟨w.heap.size+1+1,0,none⟩ (.string (tx (dirQ (tK D k)).1))).setCell ⟨w.heap.size+1+1,1,none⟩ (.string (tx (dirQ (tK D k)).2))).setCell ⟨w.heap.size+1+1,2,none⟩ (.string (tx (upQ (dirQ (tK D k))).1))).setCell ⟨w.heap.size+1+1,3,none⟩ (.string (tx (upQ (dirQ (tK D k))).2))).setCell ⟨w.heap.size+1+1,4,none⟩ (.string (tx (atK s D k).1))).setCell ⟨w.heap.size+1+1,5,none⟩ (.string (tx (atK s D k).2))).setCell ⟨w.heap.size+1+1,6,none⟩ (.string (tx (lK D k)))) :
  KeepsFrom w4.heap.size W w7∧KeepP w.heap.size (w.heap.size+3) W w7∧EndsInv w4 (w.heap.size+1) (w.heap.size+1+1) (w.heap.size+3) w4.heap.size s D (k+1) w7:=by
 obtain ⟨m1,m2,m3,m4,m5⟩:=seven_set hly hw7
 refine ⟨(k4.trans m5).from _,k5.trans ⟨m4 _ (by omega),m2 _ (by omega),fun j c' fz hj=>(m2 j (fun e'=>?_)).trans hj⟩,hlow.trans (k6.trans (m4 _ (by omega))),?_,⟨v',(m2 _ (by omega)).trans k2,k3.1,?_⟩,m1,?_⟩
 ·subst e'
  rw [hly] at hj
  cases hj
 ·rw [m2 _ (by omega),k5.2.1,hpro]
 ·rcases k3.2 with h2 | ⟨g,cap,cur,e1,e2,e3,r⟩
  ·exact .inl h2
  ·exact .inr ⟨g,cap,cur,e1,e2,(m2 g (by omega)).trans e3,r⟩
 ·have:=hlow.size
  have:=k6.size
  omega
theorem kink_ends (s:QP) (D:List (Rat × Rat)) (hP:PrOk s D) (hnd:∀ k,0<k→k<D.length→1+dotQ (nK D (k-1)) (nK D k)≠0) (vd vl:Value) (w:World) (hw:Good w) (hvd:Txs w vd (D.map (·.1))) (hvl:Txs w vl (D.map (·.2))) :
  CallsIn Fence.wide 9 Tryz.prog 49 #[profV s vd vl] w (EndsPost s D w):=by
 have HVD:=hid hvd
 have HVL:=hid hvl
 obtain ⟨bd,cd,rfl,-,-,-,-⟩:=hvd
 obtain ⟨bl,cl,rfl,-,-,-,-⟩:=hvl
 have HDM:=hid (fun W=>kink_domains 8 s (some ⟨bd,0,none⟩) (some ⟨bl,0,none⟩) D.length cd D.length cl W)
 have HL1:=hid (show (D.map (·.1)).length=D.length from List.length_map _)
 have HL2:=hid (show (D.map (·.2)).length=D.length from List.length_map _)
 rw [HL1.out] at HVD
 rw [HL2.out] at HVL
 rw [HL1.out,HL2.out]
 obtain ⟨wA,hwA⟩ : ∃ wA,wA=((w.alloc (profO s (.slice (some ⟨bd,0,none⟩) D.length cd) (.slice (some ⟨bl,0,none⟩) D.length cl))).alloc (Obj.cells #[.slice none 0 0] 82)).alloc (Obj.cells domZ 132):=⟨_,rfl⟩
 have HWA:=hid hwA
 unfold profV profO domZ at *
 refine callsIn_of_wp_marks Tryz.func49 rfl trivial ?_ rfl
 simp only [Tryz.ntmps49,List.size_toArray,List.length_cons,List.length_nil,Nat.reduceAdd,Nat.reduceSub,Array.replicate_succ,Array.replicate_zero,List.push_toArray,List.append_toArray,List.nil_append,List.cons_append]
 have HP:=hid hP
 have HND:=hid hnd
 clear hwA hP hnd
 gi_wp2
 rw [←HWA.out]
 refine ⟨trivial,?_⟩
 refine (HDM.out wA).mono ?_
 rintro e w4 ⟨rfl,hw4⟩
 have HW4:=hid hw4
 have hsA:wA.heap.size=w.heap.size+3:=by rw [HWA.out];simp
 have hbA:Below w.heap.size w wA:=by rw [HWA.out];exact (alloc_below _ _).trans (((alloc_below _ _).mono (by simp)).trans ((alloc_below _ _).mono (by simp;omega)))
 have hb4:Below wA.heap.size wA w4:=by rw [hw4];exact alloc_below _ _
 have hs4:w4.heap.size=wA.heap.size+1:=by rw [hw4];simp
 have hx4:w4.heap[(w.heap.size+3)]?=some (profO s (.slice (some ⟨bd,0,none⟩) D.length cd) (.slice (some ⟨bl,0,none⟩) D.length cl)):=by rw [hw4,←hsA];exact World.alloc_heap_new _ _
 have hy3:Boxed w4 (w.heap.size+1) 82 (.slice none 0 0):=by
  refine (hb4.block _ (by omega)).trans ?_
  rw [HWA.out]
  refine ((alloc_below _ _).block _ (by simp)).trans ?_
  have:=World.alloc_heap_new (w.alloc (profO s (.slice (some ⟨bd,0,none⟩) D.length cd) (.slice (some ⟨bl,0,none⟩) D.length cl))) (Obj.cells #[.slice none 0 0] 82)
  rwa [World.size_alloc] at this
 have hz4:w4.heap[w.heap.size+1+1]?=some (.cells (lastC s D 0) 132 (0,0)):=by
  refine (hb4.block _ (by omega)).trans ?_
  rw [HWA.out]
  have:=World.alloc_heap_new ((w.alloc (profO s (.slice (some ⟨bd,0,none⟩) D.length cd) (.slice (some ⟨bl,0,none⟩) D.length cl))).alloc (Obj.cells #[.slice none 0 0] 82)) (Obj.cells domZ 132)
  rwa [World.size_alloc,World.size_alloc] at this
 have hbw4:Below w.heap.size w w4:=hbA.trans (hb4.mono hbA.size)
 have hg4:Good w4:=hw.below hbw4
 have HX4:=hid hx4
 have HY3:=hid hy3
 have HZ4:=hid hz4
 have HBW4:=hid hbw4
 clear hw4 hx4 hy3 hz4
 gi_wp2
 clear HDM HWA
 refine wpIn_rangeFunc_at (n:=9) rfl (by decide) (gf:=110) (lb:=#[.pointer (some ⟨(w.heap.size+3),0,none⟩)]) rfl trivial (enters_of Tryz.func110 (by kernel_rfl) rfl)
  (domains_at 8 (by decide) (w.heap.size+3) w hw s D HP.out _ _ HVD.out HVL.out w4 hbw4 HX4.out)
  KeepP.trans (KeepP.put (by omega) (by omega)) (Below.refl _ _) (fun _=>rfl)
  (EndsInv w4 (w.heap.size+1) (w.heap.size+1+1) (w.heap.size+3) w4.heap.size s D) (fun _ _ _=>False) (endsInv_own (by omega) (by omega) (by omega)) (fun _ _ _ _ _ hs _ _=>hs)
  ⟨Below.refl _ _,rfl,⟨_,HY3.out,World.ownsRow_nil _ _ _ _⟩,HZ4.out,Nat.le_refl _⟩
  (fun k a' W=>∃ Bx,w4.heap.size≤Bx∧W.heap[Bx]?=some (.cells (domC s D k) 132 (0,0))∧a'={ tmps:=#[.agg #[(.string (tx s.1)),(.string (tx s.2)),.slice (some ⟨bd,0,none⟩) D.length cd,.slice (some ⟨bl,0,none⟩) D.length cl],.pointer (some ⟨w.heap.size,0,none⟩),.slice none 0 0,.pointer (some ⟨w.heap.size+1,0,none⟩),.pointer (some ⟨w.heap.size+1+1,0,none⟩),.int .i64 (k:Int),.pointer (some ⟨Bx,0,none⟩),undef,.agg #[(.string (tx s.1)),(.string (tx s.2)),.slice (some ⟨bd,0,none⟩) D.length cd,.slice (some ⟨bl,0,none⟩) D.length cl],.func (.func 110) #[] #[.pointer (some ⟨(w.heap.size+3),0,none⟩)],.int .i64 (k:Int),.agg (domC s D k),undef,undef,undef,undef,undef,undef,undef,undef,undef,undef,undef,undef,undef,undef,undef,undef,undef,undef,undef,undef,undef,undef,undef,undef,undef,undef,undef,undef,undef,undef,undef,undef,undef,undef,undef,undef,undef,undef,undef,undef,undef,undef,undef,undef,undef],defers:=[] })
  (fun k a' _ X Y row hs hg hr=>by obtain ⟨Bx,h1,h2,h3⟩:=hs;exact ⟨Bx,h1,cells_kept hg hr h2,h3⟩) ?assign ?body ?done ?stop
 case assign =>
  intro l k hk W K hI hK
  have hsz1:=hI.sz
  simp only [List.length_range] at hk
  simp only [List.getElem_range,domE,domV]
  gi_wp2
  exact hK _ _ (keepsFrom_below (alloc_below _ _)) (KeepP.of_below (alloc_below _ _) (by omega) (by omega)) (endsInv_below hI (alloc_below _ _) (by omega) (by omega)) ⟨W.heap.size,hsz1,World.alloc_heap_new _ _,rfl⟩
 case body =>
  rintro l k hk a' W hl hr hinv ⟨Bx,hBx,hdx,rfl⟩
  simp only [List.length_range] at hk
  obtain ⟨hlow,hpro,⟨ov,hov,hrow⟩,hlast,hsz⟩:=hinv
  have hbx:=lt_of_some hdx
  have hlw:=hlow.size
  have HPRO:=hid hpro
  have HDX:=hid hdx
  have HLAST:=hid hlast
  have hgW:Good W:=hw.below (HBW4.out.trans (hlow.mono (by omega)))
  unfold domC nK at hdx
  obtain ⟨x0,x1,x2,x3,x4,x5,x6⟩:=seven_cells hdx
  have q0:=hov.cell
  obtain ⟨i0,hi,hz0,hz1,hz2⟩:=info_parts slAxis.info
  have hkl:k≤4:=Nat.le_trans (Nat.le_of_lt hk) HP.out.n
  have HRN:=hid (HND.out k)
  clear hpro hdx HND
  cases k with
  | zero =>
   clear HRN
   change W.heap[w.heap.size+1+1]?=some (.cells domZ 132 (0,0)) at hlast
   unfold domZ at hlast
   obtain ⟨f0,f1,f2,f3,f4,f5,f6⟩:=seven_free hlast
   obtain ⟨g0,g1,g2,g3,g4,g5,g6⟩:=seven_cells hlast
   clear hlast
   simp only [domC,nK,Int.natCast_zero] at *
   have hdx0:W.heap[Bx]?=some (.cells #[.string (tx (dirQ (tK D 0)).1),.string (tx (dirQ (tK D 0)).2),.string (tx (upQ (dirQ (tK D 0))).1),.string (tx (upQ (dirQ (tK D 0))).2),.string (tx (atK s D 0).1),.string (tx (atK s D 0).2),.string (tx (lK D 0))] 132 (0,0)):=HDX.out
   have hls0:W.heap[w.heap.size+1+1]?=some (.cells #[.string ⟨#[]⟩,.string ⟨#[]⟩,.string ⟨#[]⟩,.string ⟨#[]⟩,.string ⟨#[]⟩,.string ⟨#[]⟩,.string ⟨#[]⟩] 132 (0,0)):=HLAST.out
   have HDX0:=hid hdx0
   have HLS0:=hid hls0
   clear HDX HLAST hdx0 hls0 f0 f1 f2 f3 f4 f5 f6 g0 g1 g2 g3 g4 g5 g6
   gi_wp2_with (gi_at_builtin;refine wpListIn_append_own _ rfl _ _ 82 rfl w4.heap.size 90 i0 (.agg #[.string ⟨#[]⟩,.string ⟨#[]⟩,.string ⟨#[]⟩,.string ⟨#[]⟩]) 4 64 slAxis.ht hi hz0 hz1 hz2 slAxis.hzs slAxis.hsz _ _ _ rfl (hrow.alloc _) ⟨W.heap.size,0,none⟩ 1 1 [.string (tx (atK s D 0).1),.string (tx (atK s D 0).2),.string (tx (upQ (dirQ (tK D 0))).1),.string (tx (upQ (dirQ (tK D 0))).2)] rfl rfl (cell_four_new _ _ _ _ _ _) (by simp [Value.oneCell']) (by unfold maxLen;omega) (by omega) (by simp;omega) ?_;intro v' w21 hown' hgrow _;obtain ⟨g',cap',rfl⟩:=ownsRow_succ hown';obtain ⟨k1,k2,k3,k4,k5,k6,k7,k8⟩:=append_allT (n₀:=w.heap.size) (Bp:=w.heap.size+3) (by decide) (by decide) (by decide) hov hrow (by omega) (by omega) (by omega) (by omega) (by omega) hown' hgrow;have hc1:=k1.cell;have hf1:=k1.frozen;have hdy:=(k8 _ _ _ _ (by decide) (by decide) HDX0.out).1;have hly:=(k8 _ _ _ _ (by decide) (by decide) HLS0.out).1;obtain ⟨a0,a1,a2,a3,a4,a5,a6⟩:=seven_cells hdy;obtain ⟨b0,b1,b2,b3,b4,b5,b6⟩:=seven_cells hly;obtain ⟨c0,c1,c2,c3,c4,c5,c6⟩:=seven_free hly)
   exact ends_round (k:=0) (by omega) hlow HPRO.out k2 k3 k4 k5 k6 hly rfl
  | succ k =>
   have hne:=HRN.out (by omega) hk
   rw [Nat.add_sub_cancel] at hne
   have hn0:∀ j,Sz2 4925 (nK D j):=fun j=>⟨(HP.out.dir j).2.neg,(HP.out.dir j).1.mono (by decide)⟩
   have hone:Sz 1 1:=by unfold Sz;rw [tx1];decide
   have hzer:Sz2 1 ((0:Rat),(0:Rat)):=by unfold Sz2 Sz;rw [tx0];decide
   have hd0:=sz_dot (hn0 k) (hn0 (k+1))
   have hd1:=hone.add hd0
   have hd2:=hone.div hd1
   have hm0:=sz_plus (hn0 k) (hn0 (k+1)) hone
   have HAX:=hid (show plusQ (0,0) (plusQ (nK D k) (nK D (k+1)) 1) (1*(1+dotQ (nK D k) (nK D (k+1)))⁻¹)=axK D (k+1) by
    unfold axK;rw [if_neg (by omega),if_pos hk,Nat.add_sub_cancel])
   have HDOT:=hid (fun w' (hg:Good w')=>kink_dot (nK D k) (nK D (k+1)) ((hn0 k).mono (by decide)) ((hn0 (k+1)).mono (by decide)) w' hg)
   have HADD:=hid (fun w' (hg:Good w')=>k_add 1 (dotQ (nK D k) (nK D (k+1))) (hone.mono (by decide)) (hd0.mono (by decide)) w' hg)
   have HQUO:=hid (fun w' (hg:Good w')=>kink_quotient 1 (1+dotQ (nK D k) (nK D (k+1))) hne (hone.mono (by decide)) (hd1.mono (by decide)) w' hg)
   have HPL1:=hid (fun w' (hg:Good w')=>kink_plus (nK D k) (nK D (k+1)) 1 ((hn0 k).mono (by decide)) ((hn0 (k+1)).mono (by decide)) (hone.mono (by decide)) w' hg)
   have HPL2:=hid (fun w' (hg:Good w')=>kink_plus (0,0) (plusQ (nK D k) (nK D (k+1)) 1) (1*(1+dotQ (nK D k) (nK D (k+1)))⁻¹) (hzer.mono (by decide)) (hm0.mono (by decide)) (hd2.mono (by decide)) w' hg)
   rw [HAX.out] at HPL2
   unfold RV ptV at HPL1 HPL2
   unfold RV ptV at HDOT
   unfold RV at HADD HQUO
   dsimp only at HPL2
   rw [tx0] at HPL2
   rw [tx1] at HPL1 HADD HQUO
   clear hne hn0 hone hzer hd0 hd1 hd2 hm0 HRN
   generalize plusQ (nK D k) (nK D (k+1)) 1=mid at *
   generalize 1*(1+dotQ (nK D k) (nK D (k+1)))⁻¹=kq at *
   generalize 1+dotQ (nK D k) (nK D (k+1))=dq1 at *
   generalize dotQ (nK D k) (nK D (k+1))=dq at *
   change W.heap[w.heap.size+1+1]?=some (.cells (domC s D k) 132 (0,0)) at hlast
   unfold domC at hlast
   obtain ⟨g0,g1,g2,g3,g4,g5,g6⟩:=seven_cells hlast
   have HLS0:=hid hlast
   have HDX0:=hid (show W.heap[Bx]?=some (.cells #[.string (tx (dirQ (tK D (k+1))).1),.string (tx (dirQ (tK D (k+1))).2),.string (tx (nK D (k+1)).1),.string (tx (nK D (k+1)).2),.string (tx (atK s D (k+1)).1),.string (tx (atK s D (k+1)).2),.string (tx (lK D (k+1)))] 132 (0,0)) from HDX.out)
   obtain ⟨x0,x1,x2,x3,x4,x5,x6⟩:=seven_cells HDX0.out
   clear hlast HDX HLAST
   unfold domC
   obtain ⟨K,hK⟩ : ∃ K:Int,K=((k+1:Nat):Int):=⟨_,rfl⟩
   have hK0:¬ K=0:=by omega
   have hK1:(K == 0)=false:=beq_false_of_ne hK0
   rw [←hK]
   clear hK
   gi_wp2
   refine ⟨trivial,?_⟩
   refine (CallsIn.inRound l (callsIn_wide.2 (HDOT.out W hgW))).mono ?_
   rintro e v1 ⟨rfl,hv1⟩
   have hg1:=hgW.below hv1
   gi_wp2
   refine ⟨trivial,?_⟩
   refine (CallsIn.inRound l (callsIn_wide.2 (HADD.out v1 hg1))).mono ?_
   rintro e v2 ⟨rfl,hv2⟩
   have hg2:=hg1.below hv2
   have hv02:=hv1.trans (hv2.mono hv1.size)
   gi_wp2
   refine ⟨trivial,?_⟩
   refine (CallsIn.inRound l (callsIn_wide.2 (HQUO.out v2 hg2))).mono ?_
   rintro e v3 ⟨rfl,hv3⟩
   have hg3:=hg2.below hv3
   have hv03:=hv02.trans (hv3.mono hv02.size)
   have hb3s:=hv03.size
   have hov3:Boxed v3 (w.heap.size+1) 82 ov:=(hv03.block _ hov.lt).trans hov
   have q03:=hov3.cell
   have l3:=hov3.lt
   have lx:=Nat.lt_of_lt_of_le hbx hb3s
   have ly:=Nat.lt_of_lt_of_le (lt_of_some HLS0.out) hb3s
   obtain ⟨y0,y1,y2,y3,y4,y5,y6⟩:=seven_cells ((hv03.block _ hbx).trans HDX0.out)
   obtain ⟨z0,z1,z2,z3,z4,z5,z6⟩:=seven_cells ((hv03.block _ (lt_of_some HLS0.out)).trans HLS0.out)
   have HOV:=hid hov
   have HROW:=hid hrow
   clear x0 x1 x2 x3 x4 x5 x6 g0 g1 g2 g3 g4 g5 g6 q0 hov hov3 hrow hv1 hv2 hv3 hv02
   gi_wp2
   refine wpIn_held_list lifts_round (fun W'=>Below v3.heap.size v3 W') [0,1,2,3,4,5,6,7,9] [8,10,11,12] 13 (by kernel_rfl) (by kernel_rfl) (by kernel_rfl) ⟨rfl,rfl,rfl,Nat.le_refl _,fun _ _=>rfl⟩ ?_
   iterate 9
    refine wpTakeL_step rfl ?_ rfl ?_ ?_
    rotate_left
    ·intro W' hS'
     have s0:=(hS'.cell (p:=⟨w.heap.size+1,0,none⟩) l3).trans q03
     have s1:=(hS'.cell (p:=⟨Bx,2,none⟩) lx).trans y2
     have s2:=(hS'.cell (p:=⟨Bx,3,none⟩) lx).trans y3
     have s3:=(hS'.cell (p:=⟨Bx,4,none⟩) lx).trans y4
     have s4:=(hS'.cell (p:=⟨Bx,5,none⟩) lx).trans y5
     have s5:=(hS'.cell (p:=⟨w.heap.size+1+1,2,none⟩) ly).trans z2
     have s6:=(hS'.cell (p:=⟨w.heap.size+1+1,3,none⟩) ly).trans z3
     go_simp
     try with_reducible rfl
    try simp only [zA,zB,zC,Act.put,zD,zE,zF]
   have hH0:Below v3.heap.size v3 v3.drew:=⟨rfl,rfl,rfl,Nat.le_refl _,fun _ _=>rfl⟩
   refine wpKeepL_step rfl rfl (fun K hK=>?_)
   go_simp
   refine (HPL1.out _ (hg3.below hH0)).mono ?_
   rintro e v4 ⟨rfl,hv4⟩
   have hH1:=hH0.trans (hv4.mono hH0.size)
   refine hK _ _ ⟨hH1,?_⟩
   clear hK K
   try simp only [zA,zB,zC,Act.put,zD,zE,zF]
   refine wpKeepL_step rfl rfl (fun K hK=>?_)
   go_simp
   refine (HPL2.out _ (hg3.below hH1)).mono ?_
   rintro e v5 ⟨rfl,hv5⟩
   have hH2:=hH1.trans (hv5.mono hH1.size)
   refine hK _ _ ⟨hH2,?_⟩
   clear hK K
   try simp only [zA,zB,zC,Act.put,zD,zE,zF]
   refine wpKeepL_step rfl rfl (fun K hK=>?_)
   go_simp
   refine hK _ _ ⟨hH2,?_⟩
   clear hK K
   try simp only [zA,zB,zC,Act.put,zD,zE,zF]
   refine wpKeepL_step rfl rfl (fun K hK=>?_)
   go_simp
   refine hK _ _ ⟨hH2.trans ((alloc_below _ _).mono hH2.size),?_⟩
   clear hK K
   try simp only [zA,zB,zC,Act.put,zD,zE,zF]
   unfold wpKeepL
   simp only [List.drop_succ_cons,List.drop_zero]
   have hv05:=hv03.trans (hH2.mono hv03.size)
   have hs05:=hv05.size
   have hrow5:=owns_below HROW.out hv05
   have hov5:Boxed v5 (w.heap.size+1) 82 ov:=(hv05.block _ HOV.out.lt).trans HOV.out
   have HDX5:=hid ((hv05.block _ (lt_of_some HDX0.out)).trans HDX0.out)
   have HLS5:=hid ((hv05.block _ (lt_of_some HLS0.out)).trans HLS0.out)
   clear y0 y1 y2 y3 y4 y5 y6 z0 z1 z2 z3 z4 z5 z6 hv4 hv5 hH0 hH1 q03
   refine wpListIn_append_own _ rfl _ _ 82 rfl w4.heap.size 90 i0 (.agg #[.string ⟨#[]⟩,.string ⟨#[]⟩,.string ⟨#[]⟩,.string ⟨#[]⟩]) 4 64 slAxis.ht hi hz0 hz1 hz2 slAxis.hzs slAxis.hsz _ _ _ rfl (hrow5.alloc _) ⟨v5.heap.size,0,none⟩ 1 1 [.string (tx (atK s D (k+1)).1),.string (tx (atK s D (k+1)).2),.string (tx (axK D (k+1)).1),.string (tx (axK D (k+1)).2)] rfl rfl (cell_four_new _ _ _ _ _ _) (by simp [Value.oneCell']) (by unfold maxLen;omega) (by omega) (by simp;omega) ?_
   intro v' w21 hown' hgrow _
   obtain ⟨g',cap',rfl⟩:=ownsRow_succ hown'
   obtain ⟨k1,k2,k3,k4,k5,k6,k7,k8⟩:=append_allT (n₀:=w.heap.size) (Bp:=w.heap.size+3) (by decide) (by decide) (by decide) hov5 hrow5 (by omega) (by omega) (by omega) (by omega) (by omega) hown' hgrow
   have hc1:=k1.cell
   have hf1:=k1.frozen
   have hdy:=(k8 _ _ _ _ (by decide) (by decide) HDX5.out).1
   have hly:=(k8 _ _ _ _ (by decide) (by decide) HLS5.out).1
   obtain ⟨a0,a1,a2,a3,a4,a5,a6⟩:=seven_cells hdy
   obtain ⟨b0,b1,b2,b3,b4,b5,b6⟩:=seven_cells hly
   obtain ⟨c0,c1,c2,c3,c4,c5,c6⟩:=seven_free hly
   have HK2:=hid k2
   have HK3:=hid k3
   have HK4:=hid k4
   have HK5:=hid k5
   have HK6:=hid k6
   have HLY:=hid hly
   clear k1 k2 k3 k4 k5 k6 k7 k8 hdy hly hown' hgrow hrow5 hov5
   gi_wp2
   exact ends_round (k:=k+1) (by omega) hlow HPRO.out HK2.out HK3.out (KeepsOthers.trans ⟨hv05.size,fun j o h _=>(hv05.block j (lt_of_some h)).trans h⟩ HK4.out) ((KeepP.of_below hv05 (by omega) (by omega)).trans HK5.out) ((hv05.mono (by omega)).trans HK6.out) HLY.out rfl
 case done =>
  rintro Dk W hD hinv hK
  simp only [List.length_range] at hinv
  obtain ⟨hlow,hpro,⟨ov,hov,hrow⟩,hlast,hsz⟩:=hinv
  have hn1:=HP.out.ne
  obtain ⟨m,hm⟩ : ∃ m,D.length=m+1:=⟨D.length-1,by omega⟩
  rw [hm] at hlast
  change W.heap[w.heap.size+1+1]?=some (.cells (domC s D m) 132 (0,0)) at hlast
  unfold domC at hlast
  have hgW:Good W:=hw.below (HBW4.out.trans (hlow.mono (by omega)))
  have HPL:=hid (fun w' (hg:Good w')=>show Calls Tryz.prog 50 #[ptV (atK s D m),ptV (dirQ (tK D m)),.string (tx (lK D m))] w' (RV (ptV (atK s D (m+1))) w') from
   kink_plus (atK s D m) (dirQ (tK D m)) (lK D m) ((HP.out.at4 (by have:=HP.out.n;omega)).mono (by decide)) ((HP.out.dir m).mono (by decide)) ((HP.out.l m).mono (by decide)) w' hg)
  have HAX:=hid (show axK D (m+1)=nK D m by unfold axK;rw [if_neg (by omega),if_neg (by omega),Nat.add_sub_cancel])
  unfold RV ptV at HPL
  have HM:=hid hm
  have hmn:m≤3:=by have:=HP.out.n;omega
  obtain ⟨z0,z1,z2,z3,z4,z5,z6⟩:=seven_cells hlast
  have q0:=hov.cell
  have lo:=hov.lt
  have ll:=lt_of_some hlast
  have hlw:=hlow.size
  obtain ⟨i0,hi,hz0,hz1,hz2⟩:=info_parts slAxis.info
  have HOV:=hid hov
  have HROW:=hid hrow
  have HKD:=hid hK
  clear hK hov hrow hlast hpro hm HND
  gi_wp2
  refine wpIn_held_list lifts_wide (fun W'=>Below W.heap.size W W') [0,1,2,3,4,5,6,8,9] [7,10,11] 12 (by kernel_rfl) (by kernel_rfl) (by kernel_rfl) ⟨rfl,rfl,rfl,Nat.le_refl _,fun _ _=>rfl⟩ ?_
  iterate 9
   refine wpTakeL_step rfl ?_ rfl ?_ ?_
   rotate_left
   ·intro W' hS'
    have s0:=(hS'.cell (p:=⟨w.heap.size+1,0,none⟩) lo).trans q0
    have s1:=(hS'.cell (p:=⟨w.heap.size+1+1,0,none⟩) ll).trans z0
    have s2:=(hS'.cell (p:=⟨w.heap.size+1+1,1,none⟩) ll).trans z1
    have s3:=(hS'.cell (p:=⟨w.heap.size+1+1,2,none⟩) ll).trans z2
    have s4:=(hS'.cell (p:=⟨w.heap.size+1+1,3,none⟩) ll).trans z3
    have s5:=(hS'.cell (p:=⟨w.heap.size+1+1,4,none⟩) ll).trans z4
    have s6:=(hS'.cell (p:=⟨w.heap.size+1+1,5,none⟩) ll).trans z5
    have s7:=(hS'.cell (p:=⟨w.heap.size+1+1,6,none⟩) ll).trans z6
    go_simp
    try with_reducible rfl
   try simp only [zA,zB,zC,Act.put,zD,zE,zF]
  have hH0:Below W.heap.size W W.drew:=⟨rfl,rfl,rfl,Nat.le_refl _,fun _ _=>rfl⟩
  refine wpKeepL_step rfl rfl (fun K hK=>?_)
  go_simp
  refine (HPL.out _ (hgW.below hH0)).mono ?_
  rintro e v5 ⟨rfl,hv5⟩
  have hH2:=hH0.trans (hv5.mono hH0.size)
  refine hK _ _ ⟨hH2,?_⟩
  clear hK K
  try simp only [zA,zB,zC,Act.put,zD,zE,zF]
  refine wpKeepL_step rfl rfl (fun K hK=>?_)
  go_simp
  refine hK _ _ ⟨hH2,?_⟩
  clear hK K
  try simp only [zA,zB,zC,Act.put,zD,zE,zF]
  refine wpKeepL_step rfl rfl (fun K hK=>?_)
  go_simp
  refine hK _ _ ⟨hH2.trans ((alloc_below _ _).mono hH2.size),?_⟩
  clear hK K
  try simp only [zA,zB,zC,Act.put,zD,zE,zF]
  unfold wpKeepL
  simp only [List.drop_succ_cons,List.drop_zero]
  have hs05:=hH2.size
  have hrow5:=owns_below HROW.out hH2
  have hlow5:=hlow.trans (hH2.mono (by omega))
  have HKD5:=hid ((hH2.block _ (lt_of_some HKD.out)).trans HKD.out)
  clear z0 z1 z2 z3 z4 z5 z6 hv5 hH0 q0
  refine wpListIn_append_own _ rfl _ _ 82 rfl w4.heap.size 90 i0 (.agg #[.string ⟨#[]⟩,.string ⟨#[]⟩,.string ⟨#[]⟩,.string ⟨#[]⟩]) 4 64 slAxis.ht hi hz0 hz1 hz2 slAxis.hzs slAxis.hsz _ _ _ rfl (hrow5.alloc _) ⟨v5.heap.size,0,none⟩ 1 1 [.string (tx (atK s D (m+1)).1),.string (tx (atK s D (m+1)).2),.string (tx (nK D m).1),.string (tx (nK D m).2)] rfl rfl (cell_four_new _ _ _ _ _ _) (by simp [Value.oneCell']) (by rw [HM.out];unfold maxLen;omega) (by rw [HM.out];omega) (by simp;omega) ?_
  intro v' w21 hown' hgrow _
  change World.grownBy _ w21 ov.ownBlock at hgrow
  have HRW:=hid hown'
  obtain ⟨g',cap',rfl⟩:=ownsRow_succ hown'
  have hlow21:Below (w.heap.size+1) w4 w21:=(hlow5.trans ((alloc_below v5 _).mono (by omega))).grown hgrow (by simp;omega) (fun g hg=>Nat.le_trans (by omega) (hrow5.lt g hg).1)
  have hDk5:Dk<v5.heap.size:=lt_of_some HKD5.out
  have hKD21:w21.heap[Dk]?=some (.deferred (some [])):=by
   rw [hgrow.block Dk (by simp;omega) (fun h=>?_),(alloc_below v5 _).block Dk hDk5]
   ·exact HKD5.out
   ·rcases hrow5.2 with ⟨rfl,_⟩ | ⟨g2,cap2,cur2,rfl,_,hgb,_⟩
    ·simp [Value.ownBlock] at h
    ·obtain rfl:Dk=g2:=by simpa [Value.ownBlock] using h
     have:=HKD5.out
     rw [hgb] at this
     cases this
  have HKD21:=hid hKD21
  have HLOW21:=hid hlow21
  rw [show axCs s D D.length ++ [.string (tx (atK s D (m+1)).1),.string (tx (atK s D (m+1)).2),.string (tx (nK D m).1),.string (tx (nK D m).2)]=axCs s D (D.length+1) by rw [axCs,HM.out,axC,HAX.out]] at HRW
  have HAXS:=hid (fun o=>axes_of_row rfl HRW.out HKD21.out o)
  clear hown' hgrow hrow5 hKD21 hlow21 HRW hlow5
  gi_wp2
  refine ⟨by simp,.inl ⟨_,_,rfl,run_takeDeferred HKD21.out,?_⟩⟩
  exact ⟨_,results_tmp rfl _ _ _,_,rfl,HAXS.out _,(HBW4.out.trans (HLOW21.out.mono (by omega))).trans (putObj_below _ _ _ (by omega))⟩
 case stop =>
  rintro D c k W _ _ h _
  exact h.elim
end Go.Proofs.YtogdahbbogimcaaGreatDoor
namespace Go.Proofs.YtogdahbbogimcaaGreatDoor
open Go.RowKit
def AxD (a:Act) (B p1 p2 j1 j2:Nat) (s:QP) (D:List (Rat × Rat)) (k:Nat) (a':Act) (W:World):Prop:=
 ∃ Bx,B≤Bx∧W.heap[Bx]?=some (.cells (domC s D k) 132 (0,0))∧a'={ tmps:=(((a.tmps.setIfInBounds p1 (.int .i64 (k:Int))).setIfInBounds p2 (.agg (domC s D k))).setIfInBounds j1 (.int .i64 (k:Int))).setIfInBounds j2 (.pointer (some ⟨Bx,0,none⟩)),defers:=[] }
theorem wpIn_rangeFunc_dom {F:Fence} {n:Nat} {P:Program} {g:Operand} {ps:Array Tmp} {assign body:Code} {Q:Exit→Act→World→Prop} {a:Act} {w:World} (p1 p2 j1 j2:Nat) (s:QP) (D:List (Rat × Rat))
  (hro:F.round=none) (h1:1≤n) {gf:Nat} {lb:Array Value} (hg:a.eval g=.func (.func gf) #[] lb) (hFg:F.fn gf) (eg:∀ args w,(callFunc gf args).run P w=.ok (.enter gf args) w)
  {Kp:World→World→Prop} {w0:World} {T:TypeId} (hseq:SeqAt T F (n-1) P gf lb (domE s D) Kp (List.range D.length) w0)
  (hKt:∀ {A B C:World},Kp A B→Kp B C→Kp A C) (hKb:∀ (W:World) (l:Nat) (o o':Obj),w.heap.size≤l→W.heap[l]?=some o→o.isCells=false→o.isWalk=false→Kp W (W.putObj l o')) (hb0:Below w0.heap.size w0 w) (hps:∀ k,(domE s D k).size=ps.size)
  (I:Nat→World→Prop) (Ix:Code→Nat→World→Prop) (hI:OwnT T w.heap.size I) (hIx:∀ c,OwnT T w.heap.size (Ix c)) (h0:I 0 w)
  (hassign:∀ (l k:Nat) (_:k<D.length) (W:World) (K:Act→World→Prop),I k W→(∀ a' W',KeepsFrom w.heap.size W W'→Kp W W'→I k W'→AxD a w.heap.size p1 p2 j1 j2 s D k a' W'→K a' W') →
   assign.wpIn (F.inRound l) (n-1-1) P (Exit.then K (fun _ _ _=>False)) { tmps:=(ps.zip (domE s D k)).foldl (fun t (p,v)=>t.setIfInBounds p v) a.tmps,defers:=[] } W)
  (hbody:∀ (l k:Nat) (_:k<D.length) (a':Act) (W:World),w.heap.size≤l→I k W→AxD a w.heap.size p1 p2 j1 j2 s D k a' W→body.wpIn (F.inRound l) (n-1-1) P (RoundAt w.heap.size Kp I Ix k W) a' W)
  (hdone:∀ (Dk:Nat) (W:World),w.heap.size≤Dk→I D.length W→W.heap[Dk]?=some (.deferred (some []))→Q .normal { a with defers:={ target:=.collected Dk,args:=#[] } :: a.defers } W)
  (hstop:∀ (Dk:Nat) (c:Code) (k:Nat) (W:World),w.heap.size≤Dk→k<D.length→Ix c k W→W.heap[Dk]?=some (.deferred (some []))→c.wpIn F n P Q { a with defers:={ target:=.collected Dk,args:=#[] } :: a.defers } W) :
  (Code.rangeFunc g ps assign body).wpIn F n P Q a w:=by
 have hl:(List.range D.length).length=D.length:=List.length_range
 refine wpIn_rangeFunc_at (Q:=Q) hro h1 hg hFg eg hseq hKt hKb hb0 hps I Ix hI hIx h0 (AxD a w.heap.size p1 p2 j1 j2 s D)
  (fun k a' _ X Y row hs hg hr=>by obtain ⟨Bx,h1,h2,h3⟩:=hs;exact ⟨Bx,h1,cells_kept hg hr h2,h3⟩) ?_ ?_ ?_ ?_
 ·intro l k hk W K hi hK
  rw [List.getElem_range]
  exact hassign l k (by omega) W K hi hK
 ·intro l k hk a' W hl' _ hi hx
  exact hbody l k (by omega) a' W hl' hi hx
 ·intro Dk W hD hi hK
  rw [hl] at hi
  exact hdone Dk W hD hi hK
 ·intro Dk c k W hD hk hi hK
  exact hstop Dk c k W hD (by omega) hi hK
end Go.Proofs.YtogdahbbogimcaaGreatDoor
