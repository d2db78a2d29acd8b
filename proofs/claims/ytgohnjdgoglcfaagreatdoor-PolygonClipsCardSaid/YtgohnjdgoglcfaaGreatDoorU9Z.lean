import Derived.Test.YtgohnjdgoglcfaaGreatDoorU8Z
import Derived.Laws.EntriesVeiled
import Derived.Test.YtgohnjdgoglcfaaGreatDoorBxZ
set_option maxRecDepth 100000
set_option maxHeartbeats 8000000
namespace Go.Proofs.YtgohnjdgoglcfaaGreatDoor
open Go.RowKit Go.Shelf
open Go.Lib (decDigits itoa nDigits)
open Go.Lib (hid)
theorem pg_split1 (Bf Bl:Nat) {tf:TypeId} (a b c:Rat) (p:QP) (ha:Sz 100000 a) (hb:Sz 100000 b) (hc:Sz 100000 c) (hp:Sz2 100000 p) (w:World) (hw:Good w) (hl:w.heap[Bl]?=some (lnBox (tx a) (tx b) (tx c)))
  (hf:w.heap[Bf]?=some (.cells #[.func (.func 127) #[] #[.pointer (some ⟨Bl,0,none⟩)]] tf (0,0))) :
  Calls Tryz.prog 88 (#[ptV p] ++ #[.pointer (some ⟨Bf,0,none⟩)]) w (RV (.string (tx (-(valP a b c p)))) w):=by
 have H1:=hid (fun w' (hg:Good w') (h:w'.heap[Bl]?=some (lnBox (tx a) (tx b) (tx c)))=>pg_left1 Bl a b c p ha hb hc hp w' hg h)
 have N1:=hid (fun w'=>k_neg (valP a b c p) (((((ha.mul hp.1).add (hb.mul hp.2))).sub hc).mono (by decide)) w')
 have heg:∀ args w,(callFunc 127 args).run Tryz.prog w=.ok (.enter 127 args) w:=enters_of Tryz.func127 (by kernel_rfl) rfl
 unfold RV at H1 N1
 show Calls Tryz.prog 88 #[ptV p,.pointer (some ⟨Bf,0,none⟩)] w _
 clear ha hb hc hp
 have HL:=hid hl
 obtain ⟨g0,g1⟩:=one_cell hf
 have hlf:=lt_of_blk hf
 unfold ptV at H1 ⊢
 unfold lnBox at HL H1
 clear hl
 generalize tx (-(valP a b c p))=r at *
 generalize tx (valP a b c p)=s at *
 generalize tx a=ta at *
 generalize tx b=tb at *
 generalize tx c=tc at *
 generalize tx p.1=p1 at *
 generalize tx p.2=p2 at *
 go_enter Tryz.func88,Tryz.ntmps88
 go_upto_region 1 with fail
 obtain ⟨wA,hwwA⟩ : ∃ wA,wA=w.alloc (Obj.cells #[.string p1,.string p2] 31):=⟨_,rfl⟩
 obtain ⟨hbwA,lwA,z0,z1⟩:=box_new hwwA
 rw [←hwwA]
 clear hwwA
 have g0':=(hbwA.cell (p:=⟨Bf,0,none⟩) hlf).trans g0
 go_wp2_with fail
 refine (H1.out _ (hw.below hbwA) ((hbwA.block _ (lt_of_blk HL.out)).trans HL.out)).mono ?_
 rintro e w1 ⟨rfl,h1⟩
 have hb1:=hbwA.trans (h1.mono hbwA.size)
 go_wp2_with fail
 refine (N1.out w1).mono ?_
 rintro e w2 ⟨rfl,h2⟩
 go_wp2
 go_ret
 exact ⟨rfl,hb1.trans (h2.mono hb1.size)⟩
def KeptV (f:QP→Rat) (P:List QP) (W:World) (r:Value):Prop:=((∃ p∈P,0<f p)∧Pts W r (clipL f P))∨((¬ ∃ p∈P,0<f p)∧r=.slice none 0 0)
def PartV (f:QP→Rat) (P:List QP) (W:World) (r:Value):Prop:=((∃ p∈P,0<f p)∧∃ t,LeastAt (clipL f P) t∧Pts W r (rotL (clipL f P) t))∨((¬ ∃ p∈P,0<f p)∧r=.slice none 0 0)
def SplitsPost (f g:QP→Rat) (P:List QP) (w:World) (e:Ending) (w':World):Prop:=∃ r s,e=.returned (.tuple #[r,s,.int .i64 0])∧PartV f P w' r∧PartV g P w' s∧Below w.heap.size w w'
theorem KeptV.below {f:QP→Rat} {P:List QP} {W W':World} {r:Value} (h:KeptV f P W r) (hb:Below W.heap.size W W'):KeptV f P W' r:=h.imp (fun ⟨a,b⟩=>⟨a,b.below hb⟩) id
theorem PartV.below {f:QP→Rat} {P:List QP} {W W':World} {r:Value} (h:PartV f P W r) (hb:Below W.heap.size W W'):PartV f P W' r:=h.imp (fun ⟨a,t,b,c⟩=>⟨a,t,b,c.below hb⟩) id
theorem Pts.set_box {W:World} {B0:Nat} {v u:Value} {L:List QP} (h:Pts W v L) (hb:W.heap[B0]?=some (slBox u)) (hu:∀ s,u≠.string s) (x:Value):Pts (W.setCell ⟨B0,0,none⟩ x) v L:=by
 obtain ⟨p,c,h1,h2,h3,h4⟩:=h
 refine ⟨p,c,h1,h2,h3,fun h0=>?_⟩
 obtain ⟨b,off,e1,e2,e3⟩:=h4 h0
 have hne:b≠B0:=by
  intro e
  have hc:=(e3 0 h0).1
  rw [e] at hc
  simp only [World.cell?,hb,slBox,Nat.zero_mul,Nat.add_zero] at hc
  rcases Nat.eq_zero_or_pos off with h5 | h5
  ·rw [h5] at hc
   simp at hc
   exact hu _ hc
  ·rw [Array.getElem?_eq_none (show (#[u]:Array Value).size≤off from h5)] at hc
   simp at hc
 refine ⟨b,off,e1,by simpa [World.setCell] using e2,fun i hi=>?_⟩
 have key:∀ o,(W.setCell ⟨B0,0,none⟩ x).cell? ⟨b,o,none⟩=W.cell? ⟨b,o,none⟩:=fun o=>World.cell?_of_block (Below.heap_setCell _ _ _ b hne)
 rw [key,key]
 exact e3 i hi
theorem KeptV.set_box {f:QP→Rat} {P:List QP} {W:World} {B0:Nat} {r u:Value} (h:KeptV f P W r) (hb:W.heap[B0]?=some (slBox u)) (hu:∀ s,u≠.string s) (x:Value):KeptV f P (W.setCell ⟨B0,0,none⟩ x) r:=h.imp (fun ⟨a,b⟩=>⟨a,b.set_box hb hu x⟩) id
theorem PartV.set_box {f:QP→Rat} {P:List QP} {W:World} {B0:Nat} {r u:Value} (h:PartV f P W r) (hb:W.heap[B0]?=some (slBox u)) (hu:∀ s,u≠.string s) (x:Value):PartV f P (W.setCell ⟨B0,0,none⟩ x) r:=h.imp (fun ⟨a,t,b,c⟩=>⟨a,t,b,c.set_box hb hu x⟩) id
theorem boxes_split {w wA:World} {a b c:ByteArray} (hwA:wA=((w.alloc (lnBox a b c)).alloc (slBox (.slice none 0 0))).alloc (slBox (.slice none 0 0))) :
  Below w.heap.size w wA∧wA.heap.size=w.heap.size+1+1+1∧wA.heap[w.heap.size]?=some (.cells #[.string a,.string b,.string c] 64 (0,0))∧wA.heap[w.heap.size+1]?=some (slBox (.slice none 0 0))∧wA.heap[w.heap.size+1+1]?=some (slBox (.slice none 0 0)):=by
 have e1:=World.alloc_heap_new w (lnBox a b c)
 have p1:=alloc_below w (lnBox a b c)
 have s1:(w.alloc (lnBox a b c)).heap.size=w.heap.size+1:=by simp
 generalize w.alloc (lnBox a b c)=w1 at *
 have e2:=World.alloc_heap_new w1 (slBox (.slice none 0 0))
 have p2:=alloc_below w1 (slBox (.slice none 0 0))
 have s2:(w1.alloc (slBox (.slice none 0 0))).heap.size=w1.heap.size+1:=by simp
 generalize w1.alloc (slBox (.slice none 0 0))=w2 at *
 have e3:=World.alloc_heap_new w2 (slBox (.slice none 0 0))
 have p3:=alloc_below w2 (slBox (.slice none 0 0))
 have s3:(w2.alloc (slBox (.slice none 0 0))).heap.size=w2.heap.size+1:=by simp
 rw [←hwA] at e3 p3 s3
 have q1:=p2.trans (p3.mono (by omega))
 have q0:=p1.trans (q1.mono (by omega))
 refine ⟨q0,by omega,(q1.block _ (by omega)).trans e1,?_,?_⟩
 ·rw [←s1];exact (p3.block _ (by omega)).trans e2
 ·rw [←s1,←s2];exact e3
theorem pg_split_fn (v:Value) (P:List QP) (hP:Poly P) (h59:P.length≤59) (hz:∀ p∈P,OkB p.1∧OkB p.2) (a b c:Rat) (hl:LineOk a b c) (fn:QP→Rat) (hfn:∀ p,fn p = -(valP a b c p)) (hok:∀ q∈clipL (valP a b c) P,okQ q) (hok2:∀ q∈clipL fn P,okQ q)
  (hcn:(∃ p∈P,0<fn p)→0<(clipL fn P).length) (hcl2:(clipL fn P).length≤60) (w:World) (hw:Good w) (hv:Pts w v P) :
  Calls Tryz.prog 35 #[v,lnV (tx a) (tx b) (tx c)] w (SplitsPost (valP a b c) fn P w):=by
 have h3:=hP.1.1
 have hz2:∀ p∈P,Sz2 402 p:=fun p hp=>okP_sz (hz p hp)
 have HLE:=hid (fun w' (hg:Good w') (hp:Pts w' v P)=>pg_checkLine v P hP (by omega) hz (tx a) (tx b) (tx c) (Nat.le_trans hl.ha.sz (by decide)) (Nat.le_trans hl.hb.sz (by decide)) (Nat.le_trans hl.hc.sz (by decide)) w' hg hp)
 rw [hl.err] at HLE
 have HLF:=hid (pg_left (tx a) (tx b) (tx c))
 have heg:∀ args w,(callFunc 127 args).run Tryz.prog w=.ok (.enter 127 args) w:=enters_of Tryz.func127 (by kernel_rfl) rfl
 have heg2:∀ args w,(callFunc 88 args).run Tryz.prog w=.ok (.enter 88 args) w:=enters_of Tryz.func88 (by kernel_rfl) rfl
 have hvz:∀ p∈P,Sz 100000 (valP a b c p):=fun p hp=>val_sz hl.ha.sz hl.hb.sz hl.hc.sz (hz2 p hp)
 have hvn:∀ p∈P,Sz 100000 (fn p):=fun p hp=>by
  rw [hfn]
  exact ((((((hl.ha.sz.mul (hz2 p hp).1).add (hl.hb.sz.mul (hz2 p hp).2))).sub hl.hc.sz)).neg).mono (by decide)
 have HKP:=hid (fun Bl w' (hg:Good w') (hp:Pts w' v P) (hb:w'.heap[Bl]?=some (lnBox (tx a) (tx b) (tx c)))=>callsIn_wide.1 (pg_keep_in 127 #[.pointer (some ⟨Bl,0,none⟩)] heg (valP a b c) P (by omega) (by omega) (fun p hp=>(hz2 p hp).mono (by decide)) hvz v w' hg hp
  (fun q hq W' hgW hbW=>pg_left1 Bl a b c q (hl.ha.sz.mono (by decide)) (hl.hb.sz.mono (by decide)) (hl.hc.sz.mono (by decide)) ((hz2 q hq).mono (by decide)) W' hgW ((hbW.block _ (lt_of_blk hb)).trans hb))))
 have HKN:=hid (fun Bf Bl (tf:TypeId) w' (hg:Good w') (hp:Pts w' v P) (hb:w'.heap[Bl]?=some (lnBox (tx a) (tx b) (tx c))) (hf:w'.heap[Bf]?=some (.cells #[.func (.func 127) #[] #[.pointer (some ⟨Bl,0,none⟩)]] tf (0,0)))=>callsIn_wide.1 (pg_keep_in 88 #[.pointer (some ⟨Bf,0,none⟩)] heg2 fn P (by omega) (by omega) (fun p hp=>(hz2 p hp).mono (by decide)) hvn v w' hg hp
  (fun q hq W' hgW hbW=>by rw [hfn];exact pg_split1 Bf Bl a b c q (hl.ha.sz.mono (by decide)) (hl.hb.sz.mono (by decide)) (hl.hc.sz.mono (by decide)) ((hz2 q hq).mono (by decide)) W' hgW ((hbW.block _ (lt_of_blk hb)).trans hb) ((hbW.block _ (lt_of_blk hf)).trans hf))))
 have hcl:(clipL (valP a b c) P).length≤60:=by have:=hP.1.clip_le a b c;omega
 have HFA:=hid (fun (h:∃ p∈P,0<valP a b c p) r w' (hg:Good w') (hp:Pts w' r (clipL (valP a b c) P))=>pg_finish r (clipL (valP a b c) P) (by have:=(hP.1.clip a b c h).1;omega) hcl (fun q hq=>(okQ_sz (hok q hq)).mono (by decide)) w' hg hp)
 have HFB:=hid (fun (h:∃ p∈P,0<fn p) r w' (hg:Good w') (hp:Pts w' r (clipL fn P))=>pg_finish r (clipL fn P) (hcn h) hcl2 (fun q hq=>(okQ_sz (hok2 q hq)).mono (by decide)) w' hg hp)
 have HOK:=hid (And.intro hok hok2)
 have HC1:=hid (fun (h:∃ p∈P,0<valP a b c p)=>show 0<(clipL (valP a b c) P).length from by have:=(hP.1.clip a b c h).1;omega)
 have HC2:=hid hcn
 have HSB:=hid (some_left_iff (valP a b c) P)
 have HSB2:=hid (some_left_iff fn P)
 unfold RV at HLE
 unfold KeepPost at HKP HKN
 unfold FinPost at HFA HFB
 have HV:=hid hv
 have qnil:∀ (w:World) (a:Addr) (n c:Nat),(binOp .eql 22 (.slice (some a) n c) (.slice none 0 0)).run Tryz.prog w=.ok (.bool false) w:=fun w a n c=>Lib.run_eql_slice_nil w _ _ (some a) n c 0 0 Tryz.underlying22
 have qnil0:∀ (w:World),(binOp .eql 22 (.slice none 0 0) (.slice none 0 0)).run Tryz.prog w=.ok (.bool true) w:=fun w=>Lib.run_eql_slice_nil w _ _ none 0 0 0 0 Tryz.underlying22
 clear hz hz2 hv hP hok hok2 hl hcl hcn hcl2 hvz hvn heg heg2 hfn
 unfold lnV lnBox at *
 generalize tx a=ta at *
 generalize tx b=tb at *
 generalize tx c=tc at *
 generalize valP a b c=f at *
 obtain ⟨wA,hwA⟩ : ∃ wA,wA=((w.alloc (lnBox ta tb tc)).alloc (slBox (.slice none 0 0))).alloc (slBox (.slice none 0 0)):=⟨_,rfl⟩
 have HWA:=hid hwA
 obtain ⟨hbA,lA,hlA,hoA,htA⟩:=boxes_split hwA
 unfold lnBox slBox at HWA
 unfold slBox at hoA htA
 clear hwA
 go_enter Tryz.func35,Tryz.ntmps35
 go_upto_region 1 with fail
 rw [←HWA.out]
 obtain ⟨l0,l1,l2⟩:=three_cells hlA
 go_wp2_with fail
 refine (HLE.out wA (hw.below hbA) (HV.out.below hbA)).mono ?_
 rintro e w1 ⟨rfl,h1⟩
 have hb1:=hbA.trans (h1.mono hbA.size)
 have hl1:=(h1.block _ (lt_of_blk hlA)).trans hlA
 have ho1:=(h1.block _ (lt_of_blk hoA)).trans hoA
 have ht1:=(h1.block _ (lt_of_blk htA)).trans htA
 have l1s:=h1.size
 clear l0 l1 l2 HLE hlA hoA htA HWA
 obtain ⟨l0,l1,l2⟩:=three_cells hl1
 go_wp2_with fail
 refine (HLF.out w1).mono ?_
 rintro e w2 ⟨rfl,hw2⟩
 have h2:Below w1.heap.size w1 w2:=by rw [hw2];exact alloc_below _ _
 have hbx:w2.heap[w1.heap.size]?=some (.cells #[.string ta,.string tb,.string tc] 64 (0,0)):=by rw [hw2];exact World.alloc_heap_new _ _
 have hb2:=hb1.trans (h2.mono hb1.size)
 have ho2:=(h2.block _ (lt_of_blk ho1)).trans ho1
 have ht2:=(h2.block _ (lt_of_blk ht1)).trans ht1
 have HBX:=hid hbx
 have l2s:=h2.size
 clear hw2 hbx l0 l1 l2 hl1 ho1 ht1 HLF
 go_wp2_with fail
 obtain ⟨wF,hwF⟩ : ∃ wF,wF=w2.alloc (Obj.cells #[.func (.func 127) #[] #[.pointer (some ⟨w1.heap.size,0,none⟩)]] 109):=⟨_,rfl⟩
 have h3f:Below w2.heap.size w2 wF:=by rw [hwF];exact alloc_below _ _
 have hfx:wF.heap[w2.heap.size]?=some (.cells #[.func (.func 127) #[] #[.pointer (some ⟨w1.heap.size,0,none⟩)]] 109 (0,0)):=by rw [hwF];exact World.alloc_heap_new _ _
 have hbf:=hb2.trans (h3f.mono hb2.size)
 have hof:=(h3f.block _ (lt_of_blk ho2)).trans ho2
 have htf:=(h3f.block _ (lt_of_blk ht2)).trans ht2
 have hlf:=(h3f.block _ (lt_of_blk HBX.out)).trans HBX.out
 have HFX:=hid hfx
 have HLX:=hid hlf
 have lfs:=h3f.size
 rw [←hwF]
 clear hwF hfx hlf ho2 ht2 HBX
 refine (HKP.out w1.heap.size wF (hw.below hbf) (HV.out.below hbf) HLX.out).mono ?_
 rintro e w3 ⟨r0,rfl,h3b,hor⟩
 have hb3:=hbf.trans (h3b.mono hbf.size)
 have ho3:=(h3b.block _ (lt_of_blk hof)).trans hof
 have ht3:=(h3b.block _ (lt_of_blk htf)).trans htf
 have hfx3:=(h3b.block _ (lt_of_blk HFX.out)).trans HFX.out
 have hlx3:=(h3b.block _ (lt_of_blk HLX.out)).trans HLX.out
 have l3s:=h3b.size
 have HK3:=hid (show KeptV f P w3 r0 from hor.imp (fun ⟨a,b⟩=>⟨HSB.out.1 a,b⟩) (fun ⟨a,b⟩=>⟨fun h=>by have:=HSB.out.2 h;rw [a] at this;exact Bool.noConfusion this,b⟩))
 have hr0:∃ po no co,r0=.slice po no co:=by
  rcases HK3.out with ⟨_,h⟩ | ⟨_,h⟩
  ·obtain ⟨pp,cc,h',_⟩:=h.slice
   exact ⟨_,_,_,h'⟩
  ·exact ⟨_,_,_,h⟩
 obtain ⟨po,no,co,rfl⟩:=hr0
 clear hor hof htf HFX HLX HKP
 obtain ⟨o0,o1⟩:=one_cell (show w3.heap[w.heap.size+1]?=some (.cells #[.slice none 0 0] 22 (0,0)) from ho3)
 go_wp2_with fail
 obtain ⟨w4,hw4⟩ : ∃ w4,w4=w3.setCell ⟨w.heap.size+1,0,none⟩ (.slice po no co):=⟨_,rfl⟩
 have hb4:Below w.heap.size w w4:=by rw [hw4];exact hb3.setCell (p:=⟨w.heap.size+1,0,none⟩) (by show w.heap.size≤w.heap.size+1;omega) _
 have one4:∀ j,j≠w.heap.size+1→w4.heap[j]?=w3.heap[j]?:=fun j hj=>by rw [hw4];exact Below.heap_setCell _ _ _ j hj
 have ho4:w4.heap[w.heap.size+1]?=some (slBox (.slice po no co)):=by rw [hw4];exact set_block _ ho3
 have ht4:=(one4 (w.heap.size+1+1) (by omega)).trans ht3
 have hfx4:=(one4 w2.heap.size (by omega)).trans hfx3
 have hlx4:=(one4 w1.heap.size (by omega)).trans hlx3
 have HK4:=hid (show KeptV f P w4 (.slice po no co) by rw [hw4];exact HK3.out.set_box ho3 (fun s e=>by cases e) _)
 have l4s:w4.heap.size=w3.heap.size:=by rw [hw4];simp [World.setCell]
 rw [←hw4]
 clear hw4 o0 o1 ho3 ht3 hfx3 hlx3 one4 HK3
 refine (HKN.out w2.heap.size w1.heap.size _ w4 (hw.below hb4) (HV.out.below hb4) hlx4 hfx4).mono ?_
 rintro e w5 ⟨s0,rfl,h5b,hor⟩
 have hb5:=hb4.trans (h5b.mono hb4.size)
 have ho5:=(h5b.block _ (lt_of_blk ho4)).trans ho4
 have ht5:=(h5b.block _ (lt_of_blk ht4)).trans ht4
 have l5s:=h5b.size
 have HK5:=hid (HK4.out.below h5b)
 have HN5:=hid (show KeptV fn P w5 s0 from hor.imp (fun ⟨a,b⟩=>⟨HSB2.out.1 a,b⟩) (fun ⟨a,b⟩=>⟨fun h=>by have:=HSB2.out.2 h;rw [a] at this;exact Bool.noConfusion this,b⟩))
 have hs0:∃ pt nt ct,s0=.slice pt nt ct:=by
  rcases HN5.out with ⟨_,h⟩ | ⟨_,h⟩
  ·obtain ⟨pp,cc,h',_⟩:=h.slice
   exact ⟨_,_,_,h'⟩
  ·exact ⟨_,_,_,h⟩
 obtain ⟨pt',nt,ct,rfl⟩:=hs0
 clear hor ho4 ht4 hfx4 hlx4 HKN HK4 h5b HSB HSB2
 obtain ⟨o0,o1⟩:=one_cell (show w5.heap[w.heap.size+1+1]?=some (.cells #[.slice none 0 0] 22 (0,0)) from ht5)
 go_wp2_with fail
 obtain ⟨w6,hw6⟩ : ∃ w6,w6=w5.setCell ⟨w.heap.size+1+1,0,none⟩ (.slice pt' nt ct):=⟨_,rfl⟩
 have hb6:Below w.heap.size w w6:=by rw [hw6];exact hb5.setCell (p:=⟨w.heap.size+1+1,0,none⟩) (by show w.heap.size≤w.heap.size+1+1;omega) _
 have ho6:w6.heap[w.heap.size+1]?=some (slBox (.slice po no co)):=by rw [hw6,Below.heap_setCell _ _ _ _ (by show w.heap.size+1≠w.heap.size+1+1;omega)];exact ho5
 have ht6:w6.heap[w.heap.size+1+1]?=some (slBox (.slice pt' nt ct)):=by rw [hw6];exact set_block _ ht5
 have HK6:=hid (show KeptV f P w6 (.slice po no co) by rw [hw6];exact HK5.out.set_box ht5 (fun s e=>by cases e) _)
 have HN6:=hid (show KeptV fn P w6 (.slice pt' nt ct) by rw [hw6];exact HN5.out.set_box ht5 (fun s e=>by cases e) _)
 obtain ⟨w7,hw7⟩ : ∃ w7,w7=w6.alloc (Obj.cells #[.pointer (some ⟨w.heap.size+1,0,none⟩),.pointer (some ⟨w.heap.size+1+1,0,none⟩)] 111):=⟨_,rfl⟩
 obtain ⟨h7,hxw7⟩:=box_any hw7
 have hbw7:=hb6.trans (h7.mono hb6.size)
 have how7:=(h7.block _ (lt_of_blk ho6)).trans ho6
 have htw7:=(h7.block _ (lt_of_blk ht6)).trans ht6
 have HK7:=hid (HK6.out.below h7)
 have HN7:=hid (HN6.out.below h7)
 have hs5:=lt_of_blk ht5
 have l6s:w6.heap.size=w5.heap.size:=by rw [hw6];simp [World.setCell]
 rw [l6s] at hxw7
 clear l6s
 rw [←hw6,←hw7]
 clear hw6 hw7 ho6 ht6 hb6 HK6 HN6 HK5 HN5 o0 o1 h7 hb5 ho5 ht5
 refine wp_loop_rounds 3 ?_
 rcases HK7.out with ⟨hs1,hp1⟩ | ⟨hs1,hp1⟩
 ·have hr1:=hp1.slice
  obtain ⟨b1',f1',hpo1,_,_⟩:=Pts.cells hp1 (HC1.out hs1)
  subst hpo1
  have HPA1:=hid hp1
  clear hp1 hr1
  obtain ⟨q0,q1⟩:=one_cell how7
  obtain ⟨q2,q3⟩:=one_cell htw7
  obtain ⟨x0,x1,_,_⟩:=two_cells hxw7
  rw [rounds_succ]
  go_wp2_with fail
  refine (HFA.out hs1 _ w7 (hw.below hbw7) HPA1.out).mono ?_
  rintro e Y1 ⟨hor,hY1⟩
  rcases hor with ⟨r1,t1,_,rfl,hLA,hPr⟩ | ⟨⟨q,hq,hnq⟩,_⟩
  rotate_left
  ·exact absurd (HOK.out.1 q hq) hnq
  obtain ⟨pp1,cc1,hr1,_,_⟩:=hPr.slice
  obtain ⟨nn1,hnn1⟩ : ∃ n,n=(rotL (clipL f P) t1).length:=⟨_,rfl⟩
  rw [←hnn1] at hr1
  subst hr1
  have HTH1:=hid (show PartV f P Y1 (.slice pp1 nn1 cc1) from .inl ⟨hs1,t1,hLA,hPr⟩)
  clear hLA hPr hnn1 q0 q1 q2 q3 x0 x1
  have hbY:=hbw7.trans (hY1.mono hbw7.size)
  have hoY:=(hY1.block _ (lt_of_blk how7)).trans how7
  have htY:=(hY1.block _ (lt_of_blk htw7)).trans htw7
  have hxY:=(hY1.block _ (lt_of_blk hxw7)).trans hxw7
  have HOT1:=hid (HN7.out.below hY1)
  obtain ⟨q0,q1⟩:=one_cell hoY
  obtain ⟨q2,q3⟩:=one_cell htY
  go_wp2_with fail
  obtain ⟨Za,hwZa⟩ : ∃ Za,Za=Y1.setCell ⟨w.heap.size+1,0,none⟩ (.slice pp1 nn1 cc1):=⟨_,rfl⟩
  have hoZa:Za.heap[w.heap.size+1]?=some (slBox (.slice pp1 nn1 cc1)):=by rw [hwZa];exact set_block _ hoY
  have htZa:Za.heap[w.heap.size+1+1]?=some (slBox (.slice pt' nt ct)):=by rw [hwZa,Below.heap_setCell _ _ _ _ (by show w.heap.size+1+1≠w.heap.size+1;omega)];exact htY
  have hxZa:=(show Za.heap[w5.heap.size]?=Y1.heap[w5.heap.size]? by rw [hwZa,Below.heap_setCell _ _ _ _ (by show w5.heap.size≠w.heap.size+1;omega)]).trans hxY
  have HTZa:=hid (show PartV f P Za (.slice pp1 nn1 cc1) by rw [hwZa];exact HTH1.out.set_box hoY (fun s e=>by cases e) _)
  have HOZa:=hid (show KeptV fn P Za (.slice pt' nt ct) by rw [hwZa];exact HOT1.out.set_box hoY (fun s e=>by cases e) _)
  have hbZa:Below w.heap.size w Za:=by rw [hwZa];exact hbY.setCell (p:=⟨w.heap.size+1,0,none⟩) (by show w.heap.size≤w.heap.size+1;omega) _
  rw [←hwZa]
  clear hwZa q0 q1 q2 q3 hbY hoY htY hxY
  rcases HOZa.out with ⟨hs2,hp2⟩ | ⟨hs2,hp2⟩
  ·have hr2:=hp2.slice
   obtain ⟨b2',f2',hpo2,_,_⟩:=Pts.cells hp2 (HC2.out hs2)
   subst hpo2
   have HPA2:=hid hp2
   clear hp2 hr2
   obtain ⟨q0,q1⟩:=one_cell htZa
   obtain ⟨q2,q3⟩:=one_cell hoZa
   obtain ⟨x0,x1,_,_⟩:=two_cells hxZa
   rw [rounds_succ]
   go_wp2_with fail
   refine (HFB.out hs2 _ Za (hw.below hbZa) HPA2.out).mono ?_
   rintro e Y2 ⟨hor,hY2⟩
   rcases hor with ⟨r2,t2,_,rfl,hLA,hPr⟩ | ⟨⟨q,hq,hnq⟩,_⟩
   rotate_left
   ·exact absurd (HOK.out.2 q hq) hnq
   obtain ⟨pp2,cc2,hr2,_,_⟩:=hPr.slice
   obtain ⟨nn2,hnn2⟩ : ∃ n,n=(rotL (clipL fn P) t2).length:=⟨_,rfl⟩
   rw [←hnn2] at hr2
   subst hr2
   have HTH2:=hid (show PartV fn P Y2 (.slice pp2 nn2 cc2) from .inl ⟨hs2,t2,hLA,hPr⟩)
   clear hLA hPr hnn2 q0 q1 q2 q3 x0 x1
   have hbY:=hbZa.trans (hY2.mono hbZa.size)
   have hoY:=(hY2.block _ (lt_of_blk hoZa)).trans hoZa
   have htY:=(hY2.block _ (lt_of_blk htZa)).trans htZa
   have hxY:=(hY2.block _ (lt_of_blk hxZa)).trans hxZa
   have HOT2:=hid (HTZa.out.below hY2)
   obtain ⟨q0,q1⟩:=one_cell htY
   obtain ⟨q2,q3⟩:=one_cell hoY
   go_wp2_with fail
   obtain ⟨Zb,hwZb⟩ : ∃ Zb,Zb=Y2.setCell ⟨w.heap.size+1+1,0,none⟩ (.slice pp2 nn2 cc2):=⟨_,rfl⟩
   have htZb:Zb.heap[w.heap.size+1+1]?=some (slBox (.slice pp2 nn2 cc2)):=by rw [hwZb];exact set_block _ htY
   have hoZb:Zb.heap[w.heap.size+1]?=some (slBox (.slice pp1 nn1 cc1)):=by rw [hwZb,Below.heap_setCell _ _ _ _ (by show w.heap.size+1≠w.heap.size+1+1;omega)];exact hoY
   have hxZb:=(show Zb.heap[w5.heap.size]?=Y2.heap[w5.heap.size]? by rw [hwZb,Below.heap_setCell _ _ _ _ (by show w5.heap.size≠w.heap.size+1+1;omega)]).trans hxY
   have HTZb:=hid (show PartV fn P Zb (.slice pp2 nn2 cc2) by rw [hwZb];exact HTH2.out.set_box htY (fun s e=>by cases e) _)
   have HOZb:=hid (show PartV f P Zb (.slice pp1 nn1 cc1) by rw [hwZb];exact HOT2.out.set_box htY (fun s e=>by cases e) _)
   have hbZb:Below w.heap.size w Zb:=by rw [hwZb];exact hbY.setCell (p:=⟨w.heap.size+1+1,0,none⟩) (by show w.heap.size≤w.heap.size+1+1;omega) _
   rw [←hwZb]
   clear hwZb q0 q1 q2 q3 hbY hoY htY hxY
   rw [rounds_succ]
   obtain ⟨q0,q1⟩:=one_cell hoZb
   obtain ⟨q2,q3⟩:=one_cell htZb
   go_wp2_with fail
   obtain ⟨wG,hwG⟩ : ∃ wG,wG=Zb.setCell ⟨w.heap.size+1,0,none⟩ (.slice pp1 nn1 cc1):=⟨_,rfl⟩
   have hoG:wG.heap[w.heap.size+1]?=some (slBox (.slice pp1 nn1 cc1)):=by rw [hwG];exact set_block _ hoZb
   have htG:wG.heap[w.heap.size+1+1]?=some (slBox (.slice pp2 nn2 cc2)):=by rw [hwG,Below.heap_setCell _ _ _ _ (by show w.heap.size+1+1≠w.heap.size+1;omega)];exact htZb
   have HPG:=hid (show PartV f P wG (.slice pp1 nn1 cc1) by rw [hwG];exact HOZb.out.set_box hoZb (fun s e=>by cases e) _)
   have HQG:=hid (show PartV fn P wG (.slice pp2 nn2 cc2) by rw [hwG];exact HTZb.out.set_box hoZb (fun s e=>by cases e) _)
   have hbG:Below w.heap.size w wG:=by rw [hwG];exact hbZb.setCell (p:=⟨w.heap.size+1,0,none⟩) (by show w.heap.size≤w.heap.size+1;omega) _
   obtain ⟨wH,hwH⟩ : ∃ wH,wH=wG.setCell ⟨w.heap.size+1+1,0,none⟩ (.slice pp2 nn2 cc2):=⟨_,rfl⟩
   have htH:wH.heap[w.heap.size+1+1]?=some (slBox (.slice pp2 nn2 cc2)):=by rw [hwH];exact set_block _ htG
   have hoH:wH.heap[w.heap.size+1]?=some (slBox (.slice pp1 nn1 cc1)):=by rw [hwH,Below.heap_setCell _ _ _ _ (by show w.heap.size+1≠w.heap.size+1+1;omega)];exact hoG
   have HPH:=hid (show PartV f P wH (.slice pp1 nn1 cc1) by rw [hwH];exact HPG.out.set_box htG (fun s e=>by cases e) _)
   have HQH:=hid (show PartV fn P wH (.slice pp2 nn2 cc2) by rw [hwH];exact HQG.out.set_box htG (fun s e=>by cases e) _)
   have hbH:Below w.heap.size w wH:=by rw [hwH];exact hbG.setCell (p:=⟨w.heap.size+1+1,0,none⟩) (by show w.heap.size≤w.heap.size+1+1;omega) _
   rw [←hwG,←hwH]
   clear hwG hwH q0 q1 q2 q3
   obtain ⟨q0,_⟩:=one_cell hoH
   obtain ⟨q2,_⟩:=one_cell htH
   refine bodyPost_ret (v:=.tuple #[.slice pp1 nn1 cc1,.slice pp2 nn2 cc2,.int .i64 0]) (by simp [results,Tryz.results35,go_sem,q0,q2]) rfl ?_
   exact ⟨_,_,rfl,HPH.out,HQH.out,hbH⟩
  ·obtain ⟨e0,e1,e2⟩ : pt'=none∧nt=0∧ct=0:=by simpa using hp2
   subst e0 e1 e2
   have HTN2:=hid (show PartV fn P Za (.slice none 0 0) from .inr ⟨hs2,rfl⟩)
   clear hp2
   obtain ⟨q0,q1⟩:=one_cell htZa
   obtain ⟨q2,q3⟩:=one_cell hoZa
   obtain ⟨x0,x1,_,_⟩:=two_cells hxZa
   rw [rounds_succ]
   go_wp2_with fail
   clear q0 q1 q2 q3 x0 x1
   rw [rounds_succ]
   obtain ⟨q0,q1⟩:=one_cell hoZa
   obtain ⟨q2,q3⟩:=one_cell htZa
   go_wp2_with fail
   obtain ⟨wG,hwG⟩ : ∃ wG,wG=Za.setCell ⟨w.heap.size+1,0,none⟩ (.slice pp1 nn1 cc1):=⟨_,rfl⟩
   have hoG:wG.heap[w.heap.size+1]?=some (slBox (.slice pp1 nn1 cc1)):=by rw [hwG];exact set_block _ hoZa
   have htG:wG.heap[w.heap.size+1+1]?=some (slBox (.slice none 0 0)):=by rw [hwG,Below.heap_setCell _ _ _ _ (by show w.heap.size+1+1≠w.heap.size+1;omega)];exact htZa
   have HPG:=hid (show PartV f P wG (.slice pp1 nn1 cc1) by rw [hwG];exact HTZa.out.set_box hoZa (fun s e=>by cases e) _)
   have HQG:=hid (show PartV fn P wG (.slice none 0 0) by rw [hwG];exact HTN2.out.set_box hoZa (fun s e=>by cases e) _)
   have hbG:Below w.heap.size w wG:=by rw [hwG];exact hbZa.setCell (p:=⟨w.heap.size+1,0,none⟩) (by show w.heap.size≤w.heap.size+1;omega) _
   obtain ⟨wH,hwH⟩ : ∃ wH,wH=wG.setCell ⟨w.heap.size+1+1,0,none⟩ (.slice none 0 0):=⟨_,rfl⟩
   have htH:wH.heap[w.heap.size+1+1]?=some (slBox (.slice none 0 0)):=by rw [hwH];exact set_block _ htG
   have hoH:wH.heap[w.heap.size+1]?=some (slBox (.slice pp1 nn1 cc1)):=by rw [hwH,Below.heap_setCell _ _ _ _ (by show w.heap.size+1≠w.heap.size+1+1;omega)];exact hoG
   have HPH:=hid (show PartV f P wH (.slice pp1 nn1 cc1) by rw [hwH];exact HPG.out.set_box htG (fun s e=>by cases e) _)
   have HQH:=hid (show PartV fn P wH (.slice none 0 0) by rw [hwH];exact HQG.out.set_box htG (fun s e=>by cases e) _)
   have hbH:Below w.heap.size w wH:=by rw [hwH];exact hbG.setCell (p:=⟨w.heap.size+1+1,0,none⟩) (by show w.heap.size≤w.heap.size+1+1;omega) _
   rw [←hwG,←hwH]
   clear hwG hwH q0 q1 q2 q3
   obtain ⟨q0,_⟩:=one_cell hoH
   obtain ⟨q2,_⟩:=one_cell htH
   refine bodyPost_ret (v:=.tuple #[.slice pp1 nn1 cc1,.slice none 0 0,.int .i64 0]) (by simp [results,Tryz.results35,go_sem,q0,q2]) rfl ?_
   exact ⟨_,_,rfl,HPH.out,HQH.out,hbH⟩
 ·obtain ⟨e0,e1,e2⟩ : po=none∧no=0∧co=0:=by simpa using hp1
  subst e0 e1 e2
  have HTN1:=hid (show PartV f P w7 (.slice none 0 0) from .inr ⟨hs1,rfl⟩)
  clear hp1
  obtain ⟨q0,q1⟩:=one_cell how7
  obtain ⟨q2,q3⟩:=one_cell htw7
  obtain ⟨x0,x1,_,_⟩:=two_cells hxw7
  rw [rounds_succ]
  go_wp2_with fail
  clear q0 q1 q2 q3 x0 x1
  rcases HN7.out with ⟨hs2,hp2⟩ | ⟨hs2,hp2⟩
  ·have hr2:=hp2.slice
   obtain ⟨b2',f2',hpo2,_,_⟩:=Pts.cells hp2 (HC2.out hs2)
   subst hpo2
   have HPA2:=hid hp2
   clear hp2 hr2
   obtain ⟨q0,q1⟩:=one_cell htw7
   obtain ⟨q2,q3⟩:=one_cell how7
   obtain ⟨x0,x1,_,_⟩:=two_cells hxw7
   rw [rounds_succ]
   go_wp2_with fail
   refine (HFB.out hs2 _ w7 (hw.below hbw7) HPA2.out).mono ?_
   rintro e Y2 ⟨hor,hY2⟩
   rcases hor with ⟨r2,t2,_,rfl,hLA,hPr⟩ | ⟨⟨q,hq,hnq⟩,_⟩
   rotate_left
   ·exact absurd (HOK.out.2 q hq) hnq
   obtain ⟨pp2,cc2,hr2,_,_⟩:=hPr.slice
   obtain ⟨nn2,hnn2⟩ : ∃ n,n=(rotL (clipL fn P) t2).length:=⟨_,rfl⟩
   rw [←hnn2] at hr2
   subst hr2
   have HTH2:=hid (show PartV fn P Y2 (.slice pp2 nn2 cc2) from .inl ⟨hs2,t2,hLA,hPr⟩)
   clear hLA hPr hnn2 q0 q1 q2 q3 x0 x1
   have hbY:=hbw7.trans (hY2.mono hbw7.size)
   have hoY:=(hY2.block _ (lt_of_blk how7)).trans how7
   have htY:=(hY2.block _ (lt_of_blk htw7)).trans htw7
   have hxY:=(hY2.block _ (lt_of_blk hxw7)).trans hxw7
   have HOT2:=hid (HTN1.out.below hY2)
   obtain ⟨q0,q1⟩:=one_cell htY
   obtain ⟨q2,q3⟩:=one_cell hoY
   go_wp2_with fail
   obtain ⟨Zb,hwZb⟩ : ∃ Zb,Zb=Y2.setCell ⟨w.heap.size+1+1,0,none⟩ (.slice pp2 nn2 cc2):=⟨_,rfl⟩
   have htZb:Zb.heap[w.heap.size+1+1]?=some (slBox (.slice pp2 nn2 cc2)):=by rw [hwZb];exact set_block _ htY
   have hoZb:Zb.heap[w.heap.size+1]?=some (slBox (.slice none 0 0)):=by rw [hwZb,Below.heap_setCell _ _ _ _ (by show w.heap.size+1≠w.heap.size+1+1;omega)];exact hoY
   have hxZb:=(show Zb.heap[w5.heap.size]?=Y2.heap[w5.heap.size]? by rw [hwZb,Below.heap_setCell _ _ _ _ (by show w5.heap.size≠w.heap.size+1+1;omega)]).trans hxY
   have HTZb:=hid (show PartV fn P Zb (.slice pp2 nn2 cc2) by rw [hwZb];exact HTH2.out.set_box htY (fun s e=>by cases e) _)
   have HOZb:=hid (show PartV f P Zb (.slice none 0 0) by rw [hwZb];exact HOT2.out.set_box htY (fun s e=>by cases e) _)
   have hbZb:Below w.heap.size w Zb:=by rw [hwZb];exact hbY.setCell (p:=⟨w.heap.size+1+1,0,none⟩) (by show w.heap.size≤w.heap.size+1+1;omega) _
   rw [←hwZb]
   clear hwZb q0 q1 q2 q3 hbY hoY htY hxY
   rw [rounds_succ]
   obtain ⟨q0,q1⟩:=one_cell hoZb
   obtain ⟨q2,q3⟩:=one_cell htZb
   go_wp2_with fail
   obtain ⟨wG,hwG⟩ : ∃ wG,wG=Zb.setCell ⟨w.heap.size+1,0,none⟩ (.slice none 0 0):=⟨_,rfl⟩
   have hoG:wG.heap[w.heap.size+1]?=some (slBox (.slice none 0 0)):=by rw [hwG];exact set_block _ hoZb
   have htG:wG.heap[w.heap.size+1+1]?=some (slBox (.slice pp2 nn2 cc2)):=by rw [hwG,Below.heap_setCell _ _ _ _ (by show w.heap.size+1+1≠w.heap.size+1;omega)];exact htZb
   have HPG:=hid (show PartV f P wG (.slice none 0 0) by rw [hwG];exact HOZb.out.set_box hoZb (fun s e=>by cases e) _)
   have HQG:=hid (show PartV fn P wG (.slice pp2 nn2 cc2) by rw [hwG];exact HTZb.out.set_box hoZb (fun s e=>by cases e) _)
   have hbG:Below w.heap.size w wG:=by rw [hwG];exact hbZb.setCell (p:=⟨w.heap.size+1,0,none⟩) (by show w.heap.size≤w.heap.size+1;omega) _
   obtain ⟨wH,hwH⟩ : ∃ wH,wH=wG.setCell ⟨w.heap.size+1+1,0,none⟩ (.slice pp2 nn2 cc2):=⟨_,rfl⟩
   have htH:wH.heap[w.heap.size+1+1]?=some (slBox (.slice pp2 nn2 cc2)):=by rw [hwH];exact set_block _ htG
   have hoH:wH.heap[w.heap.size+1]?=some (slBox (.slice none 0 0)):=by rw [hwH,Below.heap_setCell _ _ _ _ (by show w.heap.size+1≠w.heap.size+1+1;omega)];exact hoG
   have HPH:=hid (show PartV f P wH (.slice none 0 0) by rw [hwH];exact HPG.out.set_box htG (fun s e=>by cases e) _)
   have HQH:=hid (show PartV fn P wH (.slice pp2 nn2 cc2) by rw [hwH];exact HQG.out.set_box htG (fun s e=>by cases e) _)
   have hbH:Below w.heap.size w wH:=by rw [hwH];exact hbG.setCell (p:=⟨w.heap.size+1+1,0,none⟩) (by show w.heap.size≤w.heap.size+1+1;omega) _
   rw [←hwG,←hwH]
   clear hwG hwH q0 q1 q2 q3
   obtain ⟨q0,_⟩:=one_cell hoH
   obtain ⟨q2,_⟩:=one_cell htH
   refine bodyPost_ret (v:=.tuple #[.slice none 0 0,.slice pp2 nn2 cc2,.int .i64 0]) (by simp [results,Tryz.results35,go_sem,q0,q2]) rfl ?_
   exact ⟨_,_,rfl,HPH.out,HQH.out,hbH⟩
  ·obtain ⟨e0,e1,e2⟩ : pt'=none∧nt=0∧ct=0:=by simpa using hp2
   subst e0 e1 e2
   have HTN2:=hid (show PartV fn P w7 (.slice none 0 0) from .inr ⟨hs2,rfl⟩)
   clear hp2
   obtain ⟨q0,q1⟩:=one_cell htw7
   obtain ⟨q2,q3⟩:=one_cell how7
   obtain ⟨x0,x1,_,_⟩:=two_cells hxw7
   rw [rounds_succ]
   go_wp2_with fail
   clear q0 q1 q2 q3 x0 x1
   rw [rounds_succ]
   obtain ⟨q0,q1⟩:=one_cell how7
   obtain ⟨q2,q3⟩:=one_cell htw7
   go_wp2_with fail
   obtain ⟨wG,hwG⟩ : ∃ wG,wG=w7.setCell ⟨w.heap.size+1,0,none⟩ (.slice none 0 0):=⟨_,rfl⟩
   have hoG:wG.heap[w.heap.size+1]?=some (slBox (.slice none 0 0)):=by rw [hwG];exact set_block _ how7
   have htG:wG.heap[w.heap.size+1+1]?=some (slBox (.slice none 0 0)):=by rw [hwG,Below.heap_setCell _ _ _ _ (by show w.heap.size+1+1≠w.heap.size+1;omega)];exact htw7
   have HPG:=hid (show PartV f P wG (.slice none 0 0) by rw [hwG];exact HTN1.out.set_box how7 (fun s e=>by cases e) _)
   have HQG:=hid (show PartV fn P wG (.slice none 0 0) by rw [hwG];exact HTN2.out.set_box how7 (fun s e=>by cases e) _)
   have hbG:Below w.heap.size w wG:=by rw [hwG];exact hbw7.setCell (p:=⟨w.heap.size+1,0,none⟩) (by show w.heap.size≤w.heap.size+1;omega) _
   obtain ⟨wH,hwH⟩ : ∃ wH,wH=wG.setCell ⟨w.heap.size+1+1,0,none⟩ (.slice none 0 0):=⟨_,rfl⟩
   have htH:wH.heap[w.heap.size+1+1]?=some (slBox (.slice none 0 0)):=by rw [hwH];exact set_block _ htG
   have hoH:wH.heap[w.heap.size+1]?=some (slBox (.slice none 0 0)):=by rw [hwH,Below.heap_setCell _ _ _ _ (by show w.heap.size+1≠w.heap.size+1+1;omega)];exact hoG
   have HPH:=hid (show PartV f P wH (.slice none 0 0) by rw [hwH];exact HPG.out.set_box htG (fun s e=>by cases e) _)
   have HQH:=hid (show PartV fn P wH (.slice none 0 0) by rw [hwH];exact HQG.out.set_box htG (fun s e=>by cases e) _)
   have hbH:Below w.heap.size w wH:=by rw [hwH];exact hbG.setCell (p:=⟨w.heap.size+1+1,0,none⟩) (by show w.heap.size≤w.heap.size+1+1;omega) _
   rw [←hwG,←hwH]
   clear hwG hwH q0 q1 q2 q3
   obtain ⟨q0,_⟩:=one_cell hoH
   obtain ⟨q2,_⟩:=one_cell htH
   refine bodyPost_ret (v:=.tuple #[.slice none 0 0,.slice none 0 0,.int .i64 0]) (by simp [results,Tryz.results35,go_sem,q0,q2]) rfl ?_
   exact ⟨_,_,rfl,HPH.out,HQH.out,hbH⟩
end Go.Proofs.YtgohnjdgoglcfaaGreatDoor
