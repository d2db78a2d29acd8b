import Derived.Test.YtgohnjdgoglcfaaGreatDoorU3Z
set_option maxRecDepth 100000
set_option maxHeartbeats 8000000
namespace Go.Proofs.YtgohnjdgoglcfaaGreatDoor
open Go.RowKit Go.Shelf
open Go.Lib (decDigits itoa nDigits)
open Go.Lib (hid)
theorem three_cells {W:World} {B:Nat} {t:TypeId} {a b c:Value} (h:W.heap[B]?=some (.cells #[a,b,c] t (0,0))):W.cell? ⟨B,0,none⟩=some a∧W.cell? ⟨B,1,none⟩=some b∧W.cell? ⟨B,2,none⟩=some c:=by
 refine ⟨?_,?_,?_⟩ <;> simp [World.cell?,h]
def lnV (a b c:ByteArray):Value:=.agg #[.string a,.string b,.string c]
def lnBox (a b c:ByteArray):Obj:=.cells #[.string a,.string b,.string c] 64
theorem pg_left1 (Bl:Nat) (a b c:Rat) (p:QP) (ha:Sz 100000 a) (hb:Sz 100000 b) (hc:Sz 100000 c) (hp:Sz2 100000 p) (w:World) (hw:Good w) (hl:w.heap[Bl]?=some (lnBox (tx a) (tx b) (tx c))) :
  Calls Tryz.prog 127 (#[ptV p] ++ #[.pointer (some ⟨Bl,0,none⟩)]) w (RV (.string (tx (valP a b c p))) w):=by
 have M1:=hid (fun w' (hg:Good w')=>k_mul a p.1 (ha.mono (by decide)) (hp.1.mono (by decide)) w' hg)
 have M2:=hid (fun w' (hg:Good w')=>k_mul b p.2 (hb.mono (by decide)) (hp.2.mono (by decide)) w' hg)
 have A1:=hid (fun w' (hg:Good w')=>k_add (a*p.1) (b*p.2) ((ha.mul hp.1).mono (by decide)) ((hb.mul hp.2).mono (by decide)) w' hg)
 have S1:=hid (fun w' (hg:Good w')=>k_sub (a*p.1+b*p.2) c (((ha.mul hp.1).add (hb.mul hp.2)).mono (by decide)) (hc.mono (by decide)) w' hg)
 unfold RV at M1 M2 A1 S1
 show Calls Tryz.prog 127 #[ptV p,.pointer (some ⟨Bl,0,none⟩)] w _
 clear ha hb hc hp
 unfold valP ptV
 unfold lnBox at hl
 generalize tx (a*p.1+b*p.2-c)=r at *
 generalize tx (a*p.1+b*p.2)=s at *
 generalize tx (a*p.1)=m1 at *
 generalize tx (b*p.2)=m2 at *
 generalize tx a=ta at *
 generalize tx b=tb at *
 generalize tx c=tc at *
 generalize tx p.1=p1 at *
 generalize tx p.2=p2 at *
 have hll:=lt_of_blk hl
 go_enter Tryz.func127,Tryz.ntmps127
 go_upto_region 1 with fail
 obtain ⟨wA,hwwA⟩ : ∃ wA,wA=w.alloc (Obj.cells #[.string p1,.string p2] 31):=⟨_,rfl⟩
 obtain ⟨hbwA,lwA,z0,z1⟩:=box_new hwwA
 rw [←hwwA]
 clear hwwA
 obtain ⟨l0,l1,l2⟩:=three_cells ((hbwA.block _ hll).trans hl)
 have ll:=Nat.lt_of_lt_of_le hll hbwA.size
 go_wp2_with fail
 refine wp_held_list (fun W'=>Below wA.heap.size wA W') [0,1,2,3,5,6,7,8,11,12] [4,9,10,13] 14 (by kernel_rfl) (by kernel_rfl) ⟨rfl,rfl,rfl,Nat.le_refl _,fun _ _=>rfl⟩ ?_
 iterate 10
  refine wpTakeL_step rfl ?_ rfl ?_ ?_
  rotate_left
  ·intro W' hS'
   have s0:=(hS'.cell (p:=⟨Bl,0,none⟩) ll).trans l0
   have s1:=(hS'.cell (p:=⟨Bl,1,none⟩) ll).trans l1
   have s2:=(hS'.cell (p:=⟨Bl,2,none⟩) ll).trans l2
   have s3:=(hS'.cell (p:=⟨w.heap.size,0,none⟩) lwA).trans z0
   have s4:=(hS'.cell (p:=⟨w.heap.size,1,none⟩) lwA).trans z1
   go_simp
   try with_reducible rfl
  try simp only [zA,zB,zC,Act.put,zD,zE,zF]
 have hR0:Below wA.heap.size wA wA.drew:=⟨rfl,rfl,rfl,Nat.le_refl _,fun _ _=>rfl⟩
 refine wpKeepL_step rfl rfl (fun K hK=>?_)
 go_simp
 refine (M1.out _ (hw.below (hbwA.trans (hR0.mono hbwA.size)))).mono ?_
 rintro e u1 ⟨rfl,hbu1⟩
 have hR1:=hR0.trans (hbu1.mono hR0.size)
 refine hK _ _ ⟨hR1,?_⟩
 clear hK K
 try simp only [zA,zB,zC,Act.put,zD,zE,zF]
 refine wpKeepL_step rfl rfl (fun K hK=>?_)
 go_simp
 refine (M2.out _ (hw.below (hbwA.trans (hR1.mono hbwA.size)))).mono ?_
 rintro e u2 ⟨rfl,hbu2⟩
 have hR2:=hR1.trans (hbu2.mono hR1.size)
 refine hK _ _ ⟨hR2,?_⟩
 clear hK K
 try simp only [zA,zB,zC,Act.put,zD,zE,zF]
 refine wpKeepL_step rfl rfl (fun K hK=>?_)
 go_simp
 refine (A1.out _ (hw.below (hbwA.trans (hR2.mono hbwA.size)))).mono ?_
 rintro e u3 ⟨rfl,hbu3⟩
 have hR3:=hR2.trans (hbu3.mono hR2.size)
 refine hK _ _ ⟨hR3,?_⟩
 clear hK K
 try simp only [zA,zB,zC,Act.put,zD,zE,zF]
 refine wpKeepL_step rfl rfl (fun K hK=>?_)
 go_simp
 refine (S1.out _ (hw.below (hbwA.trans (hR3.mono hbwA.size)))).mono ?_
 rintro e u4 ⟨rfl,hbu4⟩
 have hR4:=hR3.trans (hbu4.mono hR3.size)
 refine hK _ _ ⟨hR4,?_⟩
 clear hK K
 try simp only [zA,zB,zC,Act.put,zD,zE,zF]
 unfold wpKeepL
 simp only [List.drop_succ_cons,List.drop_zero]
 try simp only [zA,zB,zC,Act.put,zD,zE,zF]
 refine wpKeep_step rfl (fun K hK=>?_)
 go_simp
 refine hK _ _ ⟨trivial,wpKeep_nil ?_⟩
 clear hK K
 try simp only [zA,zB,zC,Act.put,zD,zE,zF]
 refine NormalOnly.mk ?_
 go_wp2
 go_ret
 exact ⟨rfl,hbwA.trans (hR4.mono hbwA.size)⟩
theorem pg_left (a b c:ByteArray) (w:World):Calls Tryz.prog 87 #[lnV a b c] w fun e w'=>e=.returned (.func (.func 127) #[] #[.pointer (some ⟨w.heap.size,0,none⟩)])∧w'=w.alloc (lnBox a b c):=by
 unfold lnV lnBox
 go_enter Tryz.func87,Tryz.ntmps87
 go_wp2
 go_ret
 exact ⟨rfl,rfl⟩
theorem run_idx3 (cs:Array Value) (k:Int) (v:Value) (h0:0≤k) (h3:k<3) (hv:cs[k.toNat]?=some v) (w:World):(Instr.index 142 (.agg cs) (.int .i64 k)).run Tryz.prog w=.ok v w:=by
 unfold Instr.index part
 simp [asIntOf,run_underlying Tryz.underlying142,h0,h3,Tryz.isAgg29,Tryz.sizeOf29,hv]
noncomputable def lineErr (a b c:ByteArray):Int:=if okS a=true∧okS b=true∧okS c=true then (if (a.toList == [48])=true∧(b.toList == [48])=true then 17 else 0) else 2
def LnTo (a b c:ByteArray) (k:Nat):Prop:=(0<k→okS a=true)∧(1<k→okS b=true)∧(2<k→okS c=true)
theorem LnTo.step1 {a b c:ByteArray} (_:LnTo a b c 0) (h:okS a=true):LnTo a b c 1:=⟨fun _=>h,fun h=>absurd h (by decide),fun h=>absurd h (by decide)⟩
theorem LnTo.step2 {a b c:ByteArray} (g:LnTo a b c 1) (h:okS b=true):LnTo a b c 2:=⟨fun _=>g.1 (by decide),fun _=>h,fun h=>absurd h (by decide)⟩
theorem LnTo.step3 {a b c:ByteArray} (g:LnTo a b c 2) (h:okS c=true):LnTo a b c 3:=⟨fun _=>g.1 (by decide),fun _=>g.2.1 (by decide),fun _=>h⟩
theorem pg_checkLine (v:Value) (P:List QP) (hP:Poly P) (h60:P.length≤60) (hz:∀ p∈P,OkB p.1∧OkB p.2) (a b c:ByteArray) (ha:a.size≤4000000) (hb:b.size≤4000000) (hc:c.size≤4000000) (w:World) (hw:Good w) (hv:Pts w v P) :
  Calls Tryz.prog 85 #[v,lnV a b c] w (RV (.int .i64 (lineErr a b c)) w):=by
 have h3:=hP.1.1
 have HC:=hid (fun w' (hg:Good w') (hp:Pts w' v P)=>pg_checkP v P h3 h60 hz w' hg hp)
 rw [polyC_poly hP] at HC
 have Ca:=hid (fun w' (hg:Good w')=>k_checkS a (Nat.le_trans ha (by decide)) w' hg)
 have Cb:=hid (fun w' (hg:Good w')=>k_checkS b (Nat.le_trans hb (by decide)) w' hg)
 have Cc:=hid (fun w' (hg:Good w')=>k_checkS c (Nat.le_trans hc (by decide)) w' hg)
 unfold RV at HC Ca Cb Cc
 obtain ⟨R,hR⟩ : ∃ R,R=lineErr a b c:=⟨_,rfl⟩
 rw [←hR]
 have HR:=hid hR
 have HV:=hid hv
 have X0:=run_idx3 #[.string a,.string b,.string c] 0 (.string a) (by decide) (by decide) rfl
 have X1:=run_idx3 #[.string a,.string b,.string c] 1 (.string b) (by decide) (by decide) rfl
 have X2:=run_idx3 #[.string a,.string b,.string c] 2 (.string c) (by decide) (by decide) rfl
 clear hz hv hP ha hb hc hR
 unfold lnV
 go_enter Tryz.func85,Tryz.ntmps85
 go_upto_region 1 with fail
 obtain ⟨wA,hwA⟩ : ∃ wA,wA=w.alloc (lnBox a b c):=⟨_,rfl⟩
 have hbA:Below w.heap.size w wA:=by rw [hwA];exact alloc_below _ _
 have hlA:wA.heap[w.heap.size]?=some (lnBox a b c):=by rw [hwA];exact World.alloc_heap_new _ _
 unfold lnBox at hwA hlA
 rw [←hwA]
 clear hwA
 go_wp2_with fail
 refine (HC.out _ (hw.below hbA) (HV.out.below hbA)).mono ?_
 rintro e w1 ⟨rfl,h1⟩
 have hb1:=hbA.trans (h1.mono hbA.size)
 have hl1:=(h1.block _ (lt_of_blk hlA)).trans hlA
 have HL1:=hid hl1
 obtain ⟨l0,l1,l2⟩:=three_cells hl1
 clear hlA hl1 HC
 go_wp2_with fail
 go_loopw [21] (fun iv wr=>∃ k:Nat,k≤3∧iv=.int .i64 (k:Int)∧LnTo a b c k∧Below w1.heap.size w1 wr) (fun iv _=>3-(intOf iv).toNat)
 case atStart=>exact ⟨0,by decide,rfl,⟨fun h=>absurd h (by decide),fun h=>absurd h (by decide),fun h=>absurd h (by decide)⟩,Below.refl _ _⟩
 case round =>
  obtain ⟨k,hk3,rfl,hA,hbr1⟩:=hrel
  have hbr:=hb1.trans (hbr1.mono hb1.size)
  clear l0 l1 l2
  rcases (show k=0∨k=1∨k=2∨k=3 by omega) with rfl | rfl | rfl | rfl
  ·have HA:=hid hA
   clear hA
   cases hB:okS a
   ·rw [hB] at Ca
    simp only [Bool.false_eq_true,if_false] at Ca
    have HE:=hid (show R=2 by rw [HR.out];unfold lineErr;rw [if_neg (by rw [hB];simp)])
    clear hB
    go_wp2_with fail
    refine (Ca.out _ (hw.below hbr)).mono ?_
    rintro e w2 ⟨rfl,h2⟩
    go_wp2
    go_ret
    exact ⟨by rw [HE.out];rfl,hbr.trans (h2.mono hbr.size)⟩
   ·rw [hB] at Ca
    simp only [if_true] at Ca
    have HN:=hid (show LnTo a b c 1 from HA.out.step1 hB)
    clear hB
    go_wp2_with fail
    refine (Ca.out _ (hw.below hbr)).mono ?_
    rintro e w2 ⟨rfl,h2⟩
    go_wp2
    exact ⟨⟨1,by decide,rfl,HN.out,hbr1.trans (h2.mono hbr1.size)⟩,by decide⟩
  ·have HA:=hid hA
   clear hA
   cases hB:okS b
   ·rw [hB] at Cb
    simp only [Bool.false_eq_true,if_false] at Cb
    have HE:=hid (show R=2 by rw [HR.out];unfold lineErr;rw [if_neg (by rw [hB];simp)])
    clear hB
    go_wp2_with fail
    refine (Cb.out _ (hw.below hbr)).mono ?_
    rintro e w2 ⟨rfl,h2⟩
    go_wp2
    go_ret
    exact ⟨by rw [HE.out];rfl,hbr.trans (h2.mono hbr.size)⟩
   ·rw [hB] at Cb
    simp only [if_true] at Cb
    have HN:=hid (show LnTo a b c 2 from HA.out.step2 hB)
    clear hB
    go_wp2_with fail
    refine (Cb.out _ (hw.below hbr)).mono ?_
    rintro e w2 ⟨rfl,h2⟩
    go_wp2
    exact ⟨⟨2,by decide,rfl,HN.out,hbr1.trans (h2.mono hbr1.size)⟩,by decide⟩
  ·have HA:=hid hA
   clear hA
   cases hB:okS c
   ·rw [hB] at Cc
    simp only [Bool.false_eq_true,if_false] at Cc
    have HE:=hid (show R=2 by rw [HR.out];unfold lineErr;rw [if_neg (by rw [hB];simp)])
    clear hB
    go_wp2_with fail
    refine (Cc.out _ (hw.below hbr)).mono ?_
    rintro e w2 ⟨rfl,h2⟩
    go_wp2
    go_ret
    exact ⟨by rw [HE.out];rfl,hbr.trans (h2.mono hbr.size)⟩
   ·rw [hB] at Cc
    simp only [if_true] at Cc
    have HN:=hid (show LnTo a b c 3 from HA.out.step3 hB)
    clear hB
    go_wp2_with fail
    refine (Cc.out _ (hw.below hbr)).mono ?_
    rintro e w2 ⟨rfl,h2⟩
    go_wp2
    exact ⟨⟨3,by decide,rfl,HN.out,hbr1.trans (h2.mono hbr1.size)⟩,by decide⟩
  ·have HE:=hid (show R=(if (a.toList == [48])=true∧(b.toList == [48])=true then 17 else 0) by
    rw [HR.out];unfold lineErr;rw [if_pos ⟨hA.1 (by decide),hA.2.1 (by decide),hA.2.2 (by decide)⟩])
   obtain ⟨l0,l1,l2⟩:=three_cells ((hbr1.block _ (lt_of_blk HL1.out)).trans HL1.out)
   clear hA
   cases ha0:(a.toList == [48])
   ·have HF:=hid (show R=0 by rw [HE.out,if_neg (by rw [ha0];simp)])
    go_wp2
    go_ret
    exact ⟨by rw [HF.out];rfl,hbr⟩
   ·cases hb0:(b.toList == [48])
    ·have HF:=hid (show R=0 by rw [HE.out,if_neg (by rw [hb0];simp)])
     go_wp2
     go_ret
     exact ⟨by rw [HF.out];rfl,hbr⟩
    ·have HF:=hid (show R=17 by rw [HE.out,if_pos ⟨ha0,hb0⟩])
     go_wp2
     go_ret
     exact ⟨by rw [HF.out];rfl,hbr⟩
def ClipPost (f:QP→Rat) (P:List QP) (w:World) (e:Ending) (w':World):Prop:=
 (((∃ p∈P,0<f p)∧∃ r t,e=.returned (.tuple #[r,.bool true,.int .i64 0])∧LeastAt (clipL f P) t∧Pts w' r (rotL (clipL f P) t))∨((¬ ∃ p∈P,0<f p)∧e=.returned (.tuple #[.slice none 0 0,.bool false,.int .i64 0])))∧Below w.heap.size w w'
theorem some_left_iff (f:QP→Rat) (P:List QP):someB f P P.length=true↔∃ p∈P,0<f p:=by
 rw [someB_iff]
 constructor
 ·rintro ⟨i,h1,h2⟩;exact ⟨_,pt_mem h1,h2⟩
 ·rintro ⟨p,h1,h2⟩
  obtain ⟨i,hi,rfl⟩:=mem_pt h1
  exact ⟨i,hi,h2⟩
theorem okQ_sz {q:QP} (h:okQ q):Sz2 402 q:=by
 unfold okQ okPr at h
 rw [Bool.and_eq_true] at h
 exact ⟨ratB_size h.1,ratB_size h.2⟩
structure LineOk (a b c:Rat):Prop where
 ha:OkB a
 hb:OkB b
 hc:OkB c
 ne:a≠0∨b≠0
theorem LineOk.err {a b c:Rat} (h:LineOk a b c):lineErr (tx a) (tx b) (tx c)=0:=by
 unfold lineErr
 rw [if_pos ⟨h.ha,h.hb,h.hc⟩,if_neg]
 rintro ⟨h1,h2⟩
 have e1:((tx a).toList == [48])=decide (a=0):=(isR_mk a).zero
 have e2:((tx b).toList == [48])=decide (b=0):=(isR_mk b).zero
 rw [e1] at h1
 rw [e2] at h2
 rcases h.ne with h3 | h3
 ·exact h3 (of_decide_eq_true h1)
 ·exact h3 (of_decide_eq_true h2)
theorem val_sz {a b c:Rat} (ha:Sz 402 a) (hb:Sz 402 b) (hc:Sz 402 c) {p:QP} (hp:Sz2 402 p):Sz 100000 (valP a b c p):=((((ha.mul hp.1).add (hb.mul hp.2))).sub hc).mono (by decide)
theorem pg_Clip (v:Value) (P:List QP) (hP:Poly P) (h59:P.length≤59) (hz:∀ p∈P,OkB p.1∧OkB p.2) (a b c:Rat) (hl:LineOk a b c) (hok:∀ q∈clipL (valP a b c) P,okQ q) (w:World) (hw:Good w) (hv:Pts w v P) :
  Calls Tryz.prog 34 #[v,lnV (tx a) (tx b) (tx c)] w (ClipPost (valP a b c) P w):=by
 have h3:=hP.1.1
 have hz2:∀ p∈P,Sz2 402 p:=fun p hp=>okP_sz (hz p hp)
 have HLE:=hid (fun w' (hg:Good w') (hp:Pts w' v P)=>pg_checkLine v P hP (by omega) hz (tx a) (tx b) (tx c) (Nat.le_trans hl.ha.sz (by decide)) (Nat.le_trans hl.hb.sz (by decide)) (Nat.le_trans hl.hc.sz (by decide)) w' hg hp)
 rw [hl.err] at HLE
 have HLF:=hid (pg_left (tx a) (tx b) (tx c))
 have heg:∀ args w,(callFunc 127 args).run Tryz.prog w=.ok (.enter 127 args) w:=enters_of Tryz.func127 (by kernel_rfl) rfl
 have HKP:=hid (fun Bl w' (hg:Good w') (hp:Pts w' v P) (hb:w'.heap[Bl]?=some (lnBox (tx a) (tx b) (tx c)))=>callsIn_wide.1 (pg_keep_in 127 #[.pointer (some ⟨Bl,0,none⟩)] heg (valP a b c) P (by omega) (by omega) (fun p hp=>(hz2 p hp).mono (by decide)) (fun p hp=>val_sz hl.ha.sz hl.hb.sz hl.hc.sz (hz2 p hp)) v w' hg hp
  (fun q hq W' hgW hbW=>pg_left1 Bl a b c q (hl.ha.sz.mono (by decide)) (hl.hb.sz.mono (by decide)) (hl.hc.sz.mono (by decide)) ((hz2 q hq).mono (by decide)) W' hgW ((hbW.block _ (lt_of_blk hb)).trans hb))))
 have hcl:(clipL (valP a b c) P).length≤60:=by have:=hP.1.clip_le a b c;omega
 have HCV:=hid (fun (h:∃ p∈P,0<valP a b c p)=>hP.1.clip a b c h)
 have HFN:=hid (fun (h:∃ p∈P,0<valP a b c p) r w' (hg:Good w') (hp:Pts w' r (clipL (valP a b c) P))=>pg_finish r (clipL (valP a b c) P) (by have:=(hP.1.clip a b c h).1;omega) hcl (fun q hq=>(okQ_sz (hok q hq)).mono (by decide)) w' hg hp)
 have HOKQ:=hid hok
 unfold RV at HLE
 unfold KeepPost at HKP
 unfold FinPost at HFN
 have HV:=hid hv
 have HSB:=hid (some_left_iff (valP a b c) P)
 have qnil:∀ (w:World) (a:Addr) (n c:Nat),(binOp .eql 22 (.slice (some a) n c) (.slice none 0 0)).run Tryz.prog w=.ok (.bool false) w:=fun w a n c=>Lib.run_eql_slice_nil w _ _ (some a) n c 0 0 Tryz.underlying22
 have qnil0:∀ (w:World),(binOp .eql 22 (.slice none 0 0) (.slice none 0 0)).run Tryz.prog w=.ok (.bool true) w:=fun w=>Lib.run_eql_slice_nil w _ _ none 0 0 0 0 Tryz.underlying22
 clear hz hz2 hv hP hok hl hcl
 unfold lnV lnBox at *
 generalize tx a=ta at *
 generalize tx b=tb at *
 generalize tx c=tc at *
 generalize valP a b c=f at *
 go_enter Tryz.func34,Tryz.ntmps34
 go_upto_region 1 with fail
 obtain ⟨wA,hwA⟩ : ∃ wA,wA=w.alloc (Obj.cells #[.string ta,.string tb,.string tc] 64):=⟨_,rfl⟩
 have hbA:Below w.heap.size w wA:=by rw [hwA];exact alloc_below _ _
 have hlA:wA.heap[w.heap.size]?=some (.cells #[.string ta,.string tb,.string tc] 64 (0,0)):=by rw [hwA];exact World.alloc_heap_new _ _
 rw [←hwA]
 clear hwA
 obtain ⟨l0,l1,l2⟩:=three_cells hlA
 go_wp2_with fail
 refine (HLE.out _ (hw.below hbA) (HV.out.below hbA)).mono ?_
 rintro e w1 ⟨rfl,h1⟩
 have hb1:=hbA.trans (h1.mono hbA.size)
 have hl1:=(h1.block _ (lt_of_blk hlA)).trans hlA
 clear l0 l1 l2 HLE hlA
 obtain ⟨l0,l1,l2⟩:=three_cells hl1
 go_wp2_with fail
 refine (HLF.out w1).mono ?_
 rintro e w2 ⟨rfl,hw2⟩
 have h2:Below w1.heap.size w1 w2:=by rw [hw2];exact alloc_below _ _
 have hbx:w2.heap[w1.heap.size]?=some (.cells #[.string ta,.string tb,.string tc] 64 (0,0)):=by rw [hw2];exact World.alloc_heap_new _ _
 have HBX:=hid hbx
 have hb2:=hb1.trans (h2.mono hb1.size)
 clear hw2 hbx l0 l1 l2 hl1
 go_wp2_with fail
 refine (HKP.out w1.heap.size w2 (hw.below hb2) (HV.out.below hb2) HBX.out).mono ?_
 rintro e w3 ⟨r,rfl,h3b,hor⟩
 have hb3:=hb2.trans (h3b.mono hb2.size)
 rcases hor with ⟨hs,hpr⟩ | ⟨hs,rfl⟩
 ·have hex:=HSB.out.1 hs
  have h3c:=(HCV.out hex).1
  have HPR:=hid hpr
  obtain ⟨pr,cr,rfl,_,_⟩:=hpr.slice
  obtain ⟨br,fr,rfl,_,_⟩:=Pts.cells hpr (by omega)
  have HF:=hid (HFN.out hex _ w3 (hw.below hb3) HPR.out)
  have HEX:=hid hex
  clear hpr hs hex HFN HCV
  go_wp2_with fail
  refine HF.out.mono ?_
  rintro e w4 ⟨hor,h4⟩
  have hb4:=hb3.trans (h4.mono hb3.size)
  rcases hor with ⟨r,t,_,rfl,hLA,hPt⟩ | ⟨⟨p,hp,hnp⟩,_⟩
  ·have HLA:=hid hLA
   have HPT:=hid hPt
   clear hLA hPt
   go_wp2
   refine bodyPost_ret (v:=.tuple #[r,.bool true,.int .i64 0]) (by simp [results,Tryz.results34,go_sem]) rfl ?_
   exact ⟨.inl ⟨HEX.out,r,t,rfl,HLA.out,HPT.out⟩,hb4⟩
  ·exact absurd (HOKQ.out p hp) hnp
 ·have HEX:=hid (show ¬ ∃ p∈P,0<f p from fun h=>by have:=HSB.out.2 h;rw [hs] at this;exact Bool.noConfusion this)
  clear hs
  go_wp2
  refine bodyPost_ret (v:=.tuple #[.slice none 0 0,.bool false,.int .i64 0]) (by simp [results,Tryz.results34,go_sem]) rfl ?_
  exact ⟨.inr ⟨HEX.out,rfl⟩,hb3⟩
theorem rational_Min (a b:ByteArray) (p q:Rat) (ha:IsR a p) (hb:IsR b q) (hsa:a.size≤1000000000) (hsb:b.size≤1000000000) (w:World) (hw:Good w) :
  Calls Tryz.prog 71 #[.string a,.string b] w fun e w'=>∃ r:ByteArray,e=.returned (.string r)∧r=(if q<p then b else a)∧Below w.heap.size w w':=by
 have HA:=hid ha
 have HB:=hid hb
 clear ha hb
 have hsw:cmpR q p<0↔q<p:=by
  exact cmpR_neg
 by_cases hpq:q<p
 ·have h1:decide (cmpR q p<0)=true:=decide_eq_true (hsw.2 hpq)
  go_enter Tryz.func71,Tryz.ntmps71
  go_wp2_with fail
  refine (rational_Compare b a q p HB.out HA.out hsb hsa _ hw).mono ?_
  rintro e w1 ⟨rfl,hb1⟩
  generalize cmpR q p=c at h1 ⊢
  go_wp2
  go_ret
  exact ⟨_,rfl,rfl,hb1⟩
 ·have h1:decide (cmpR q p<0)=false:=decide_eq_false (fun h=>hpq (hsw.1 h))
  go_enter Tryz.func71,Tryz.ntmps71
  go_wp2_with fail
  refine (rational_Compare b a q p HB.out HA.out hsb hsa _ hw).mono ?_
  rintro e w1 ⟨rfl,hb1⟩
  generalize cmpR q p=c at h1 ⊢
  go_wp2
  go_ret
  exact ⟨_,rfl,rfl,hb1⟩
theorem k_max (p q:Rat) (hp:Sz 1000000000 p) (hq:Sz 1000000000 q) (w:World) (hw:Good w):Calls Tryz.prog 70 #[.string (tx p),.string (tx q)] w (RV (.string (tx (if p<q then q else p))) w):=
 (rational_Max _ _ p q (isR_mk p) (isR_mk q) hp hq w hw).mono fun e w' ⟨r,h1,h2,h3⟩=>⟨by rw [h1,h2];split <;> rfl,h3⟩
theorem k_min (p q:Rat) (hp:Sz 1000000000 p) (hq:Sz 1000000000 q) (w:World) (hw:Good w):Calls Tryz.prog 71 #[.string (tx p),.string (tx q)] w (RV (.string (tx (if q<p then q else p))) w):=
 (rational_Min _ _ p q (isR_mk p) (isR_mk q) hp hq w hw).mono fun e w' ⟨r,h1,h2,h3⟩=>⟨by rw [h1,h2];split <;> rfl,h3⟩
end Go.Proofs.YtgohnjdgoglcfaaGreatDoor
