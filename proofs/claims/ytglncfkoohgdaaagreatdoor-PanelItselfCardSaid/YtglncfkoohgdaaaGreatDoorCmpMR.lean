import Derived.Test.YtglncfkoohgdaaaGreatDoorGcdR
import Derived.Test.YtglncfkoohgdaaaGreatDoorG16R
import Derived.RegionTactic
import Derived.BigRegion
set_option maxRecDepth 100000
set_option maxHeartbeats 8000000
namespace Go.Proofs.YtglncfkoohgdaaaGreatDoor
open Go.RowKit
open Go.Lib (decDigits itoa nDigits)
open Go.Lib (hid)
theorem Iq (a b:ByteArray) (p q:Rat) (ha:gN a p) (hb:gN b q) (hsa:bM p) (hsb:bM q) (w:World) (hw:Good w) :
  Calls Tryz.prog 158 #[.string a,.string b] w fun e w'=>∃ r:ByteArray,e=.returned (.string r)∧r=(if p<q then b else a)∧Below w.heap.size w w':=by
 have HA:=hid ha
 have HB:=hid hb
 clear ha hb
 by_cases hpq:p<q
 ·have h1:decide (0<dx q p)=true:=by simpa using qM.2 hpq
  go_enter Tryz.func158,Tryz.ntmps158
  go_wp2_with fail
  refine (fF b a q p HB.out HA.out hsb hsa _ hw).mono ?_
  rintro e w1 ⟨rfl,hb1⟩
  generalize dx q p=c at h1 ⊢
  go_wp2
  go_ret
  exact ⟨_,rfl,rfl,hb1⟩
 ·have h1:decide (0<dx q p)=false:=by
   simp only [decide_eq_false_iff_not]
   intro h
   exact hpq (qM.1 h)
  go_enter Tryz.func158,Tryz.ntmps158
  go_wp2_with fail
  refine (fF b a q p HB.out HA.out hsb hsa _ hw).mono ?_
  rintro e w1 ⟨rfl,hb1⟩
  generalize dx q p=c at h1 ⊢
  go_wp2
  go_ret
  exact ⟨_,rfl,rfl,hb1⟩
end Go.Proofs.YtglncfkoohgdaaaGreatDoor
namespace Go.Proofs.YtglncfkoohgdaaaGreatDoor
open Go.RowKit Go.Shelf
open Go.Lib (decDigits itoa nDigits)
open Go.Lib (hid)
theorem Ir (a b:ByteArray) (p q:Rat) (ha:gN a p) (hb:gN b q) (hsa:bM p) (hsb:bM q) (w:World) (hw:Good w) :
  Calls Tryz.prog 157 #[.string a,.string b] w fun e w'=>∃ r:ByteArray,e=.returned (.string r)∧r=(if q<p then b else a)∧Below w.heap.size w w':=by
 have HA:=hid ha
 have HB:=hid hb
 clear ha hb
 have hsw:dx q p<0↔q<p:=by
  exact jV
 by_cases hpq:q<p
 ·have h1:decide (dx q p<0)=true:=decide_eq_true (hsw.2 hpq)
  go_enter Tryz.func157,Tryz.ntmps157
  go_wp2_with fail
  refine (fF b a q p HB.out HA.out hsb hsa _ hw).mono ?_
  rintro e w1 ⟨rfl,hb1⟩
  generalize dx q p=c at h1 ⊢
  go_wp2
  go_ret
  exact ⟨_,rfl,rfl,hb1⟩
 ·have h1:decide (dx q p<0)=false:=decide_eq_false (fun h=>hpq (hsw.1 h))
  go_enter Tryz.func157,Tryz.ntmps157
  go_wp2_with fail
  refine (fF b a q p HB.out HA.out hsb hsa _ hw).mono ?_
  rintro e w1 ⟨rfl,hb1⟩
  generalize dx q p=c at h1 ⊢
  go_wp2
  go_ret
  exact ⟨_,rfl,rfl,hb1⟩
theorem aby (p q:Rat) (hp:Sz 1000000000 p) (hq:Sz 1000000000 q) (w:World) (hw:Good w):Calls Tryz.prog 158 #[.string (tx p),.string (tx q)] w (RV (.string (tx (if p<q then q else p))) w):=
 (Iq _ _ p q (bU p) (bU q) hp hq w hw).mono fun e w' ⟨r,h1,h2,h3⟩=>⟨by rw [h1,h2];split <;> rfl,h3⟩
theorem abz (p q:Rat) (hp:Sz 1000000000 p) (hq:Sz 1000000000 q) (w:World) (hw:Good w):Calls Tryz.prog 157 #[.string (tx p),.string (tx q)] w (RV (.string (tx (if q<p then q else p))) w):=
 (Ir _ _ p q (bU p) (bU q) hp hq w hw).mono fun e w' ⟨r,h1,h2,h3⟩=>⟨by rw [h1,h2];split <;> rfl,h3⟩
structure Off (bs:List Nat) (w w':World):Prop where
 low:∀ N,(∀ b∈bs,N≤b)→N≤w.heap.size→Below N w w'
 same:∀ k,k<w.heap.size→k∉bs→w'.heap[k]?=w.heap[k]?
 size:w.heap.size≤w'.heap.size
theorem Off.of_below {bs:List Nat} {w w':World} (h:Below w.heap.size w w'):Off bs w w':=⟨fun _ _ hn=>h.mono hn,fun k hk _=>h.block k hk,h.size⟩
theorem Off.trans {bs:List Nat} {a b c:World} (h:Off bs a b) (k:Off bs b c):Off bs a c:=
 ⟨fun N h1 h2=>(h.low N h1 h2).trans (k.low N h1 (Nat.le_trans h2 h.size)),fun i hi hn=>(k.same i (Nat.lt_of_lt_of_le hi h.size) hn).trans (h.same i hi hn),Nat.le_trans h.size k.size⟩
theorem Off.set {bs:List Nat} {w:World} {b:Nat} (hb:b∈bs) (v:Value):Off bs w (w.setCell ⟨b,0,none⟩ v):=
 ⟨fun N h1 _=>(Below.refl N w).setCell (p:=⟨b,0,none⟩) (h1 b hb) v,fun k _ hn=>Below.heap_setCell _ _ _ _ (show k≠b from fun e=>hn (e ▸ hb)),(bK w b 0 v).size⟩
def Y0:Option (Rat × Rat)→Value | none=>.string ⟨#[]⟩ | some p=>.string (tx p.1)
def spH:Option (Rat × Rat)→Value | none=>.string ⟨#[]⟩ | some p=>.string (tx p.2)
def AB:Option (Rat × Rat)→Rat→Option (Rat × Rat)
 | none,y=>some (y,y)
 | some p,y=>some (if y<p.1 then y else p.1,if p.2<y then y else p.2)
structure NA (bl bh bf:Nat) (st:Option (Rat × Rat)) (w:World):Prop where
 low:w.heap[bl]?=some (.cells #[Y0 st] 33 (0,0))
 high:w.heap[bh]?=some (.cells #[spH st] 33 (0,0))
 flag:w.heap[bf]?=some (.cells #[.bool st.isSome] 4 (0,0))
theorem NA.below {bl bh bf:Nat} {st:Option (Rat × Rat)} {w w':World} (h:NA bl bh bf st w) (hb:Below w.heap.size w w'):NA bl bh bf st w':=
 ⟨(hb.block _ (lt_of_some h.low)).trans h.low,(hb.block _ (lt_of_some h.high)).trans h.high,(hb.block _ (lt_of_some h.flag)).trans h.flag⟩
theorem NA.set {bl bh bf:Nat} {st st':Option (Rat × Rat)} {w:World} (h:NA bl bh bf st w) (h1:bl≠bh) (h2:bl≠bf) (h3:bh≠bf) (hf:st'.isSome=st.isSome):NA bl bh bf st' ((w.setCell ⟨bl,0,none⟩ (Y0 st')).setCell ⟨bh,0,none⟩ (spH st')):=by
 have e1:=aJ (i:=0) (Y0 st') h.low
 have e2:=(Below.heap_setCell w ⟨bl,0,none⟩ (Y0 st') _ (show bh≠bl from h1.symm)).trans h.high
 have e3:=(Below.heap_setCell w ⟨bl,0,none⟩ (Y0 st') _ (show bf≠bl from h2.symm)).trans h.flag
 refine ⟨?_,aJ (i:=0) (spH st') e2,?_⟩
 ·rw [Below.heap_setCell _ _ _ _ (show bl≠bh from h1)]
  exact e1
 ·rw [Below.heap_setCell _ _ _ _ (show bf≠bh from h3.symm),hf]
  exact e3
theorem VO (st:Option (Rat × Rat)) (y:Rat) (hst:∀ p,st=some p→Sz 1000000000 p.1∧Sz 1000000000 p.2) (hy:Sz 1000000000 y) (bl bh bf:Nat) (n1:bl≠bh) (n2:bl≠bf) (n3:bh≠bf) (h6:6≤bl∧6≤bh∧6≤bf) (w:World) (hw:Good w) (hs:NA bl bh bf st w) :
  Calls Tryz.prog 156 #[.string (tx y),.pointer (some ⟨bf,0,none⟩),.pointer (some ⟨bl,0,none⟩),.pointer (some ⟨bh,0,none⟩)] w fun e w'=>e=.returned (.tuple #[])∧NA bl bh bf (AB st y) w'∧Off [bl,bh,bf] w w':=by
 have n1':=n1.symm
 have n2':=n2.symm
 have n3':=n3.symm
 obtain ⟨cl,fl⟩:=one_cell hs.low
 obtain ⟨ch,fh⟩:=one_cell hs.high
 obtain ⟨cf,ff⟩:=one_cell hs.flag
 have HS:=hid hs
 have HW:=hid hw
 clear hs hw
 cases st with
 | none =>
  have HMI:=hid (fun w' (hg:Good w')=>abz y y hy hy w' hg)
  have HMA:=hid (fun w' (hg:Good w')=>aby y y hy hy w' hg)
  rw [if_neg (show ¬ y<y from Rat.lt_irrefl)] at HMI HMA
  clear hst hy
  unfold Y0 at cl
  unfold spH at ch
  unfold RV at HMI HMA
  rw [Option.isSome_none] at cf
  go_enter Tryz.func156,Tryz.ntmps156
  go_wp2_with fail
  obtain ⟨wc,aas⟩ : ∃ wc,wc=((w.setCell ⟨bl,0,none⟩ (.string (tx y))).setCell ⟨bh,0,none⟩ (.string (tx y))).setCell ⟨bf,0,none⟩ (.bool true):=⟨_,rfl⟩
  rw [←aas]
  have hsc:Go.RowKit.Hid (NA bl bh bf (some (y,y)) wc):=hid (by
   rw [aas]
   have e1:=aJ (i:=0) (.string (tx y)) HS.out.low
   have e2:=aJ (i:=0) (.string (tx y)) ((Below.heap_setCell w ⟨bl,0,none⟩ (.string (tx y)) _ (show bh≠bl from n1')).trans HS.out.high)
   have e3:=(Below.heap_setCell w ⟨bl,0,none⟩ (.string (tx y)) _ (show bf≠bl from n2')).trans HS.out.flag
   refine ⟨?_,?_,?_⟩
   ·rw [Below.heap_setCell _ _ _ _ (show bl≠bf from n2),Below.heap_setCell _ _ _ _ (show bl≠bh from n1)]
    exact e1
   ·rw [Below.heap_setCell _ _ _ _ (show bh≠bf from n3)]
    exact e2
   ·refine aJ (i:=0) (.bool true) ((Below.heap_setCell _ _ _ _ (show bf≠bh from n3')).trans e3))
  have hof:Go.RowKit.Hid (Off [bl,bh,bf] w wc):=hid (by
   rw [aas]
   exact ((Off.set (by simp) _).trans (Off.set (by simp) _)).trans (Off.set (by simp) _))
  have hwc:Good wc:=HW.out.mono (hof.out.low 6 (fun b hb=>by simp at hb;omega) HW.out.big) (Nat.le_refl _)
  have hbc:=Below.refl wc.heap.size wc
  obtain ⟨cl,fl⟩:=one_cell (show wc.heap[bl]?=some (.cells #[.string (tx y)] 33 (0,0)) from hsc.out.low)
  obtain ⟨ch,fh⟩:=one_cell (show wc.heap[bh]?=some (.cells #[.string (tx y)] 33 (0,0)) from hsc.out.high)
  have ll:=lt_of_some hsc.out.low
  have lh:=lt_of_some hsc.out.high
  clear aas cf ff
  refine aN (fun W'=>Below wc.heap.size wc W') [0,1,3,4] [2,5] 6 (by kernel_rfl) (by kernel_rfl) ⟨rfl,rfl,rfl,Nat.le_refl _,fun _ _=>rfl⟩ ?_
  iterate 4
   refine aL rfl ?_ rfl ?_ ?_
   rotate_left
   ·intro W' hS'
    have s0:=(hS'.cell (p:=⟨bl,0,none⟩) ll).trans cl
    have s1:=(hS'.cell (p:=⟨bh,0,none⟩) lh).trans ch
    go_simp
    try with_reducible rfl
   try simp only [zA,zB,zC,Act.put,zD,zE,zF]
  have hR0:Below wc.heap.size wc wc.drew:=⟨rfl,rfl,rfl,Nat.le_refl _,fun _ _=>rfl⟩
  refine aD rfl rfl (fun K hK=>?_)
  go_simp
  refine (HMI.out _ (hwc.below (hbc.trans (hR0.mono hbc.size)))).mono ?_
  rintro e u1 ⟨rfl,lV⟩
  have eY:=hR0.trans (lV.mono hR0.size)
  refine hK _ _ ⟨eY,?_⟩
  clear hK K
  try simp only [zA,zB,zC,Act.put,zD,zE,zF]
  refine aD rfl rfl (fun K hK=>?_)
  go_simp
  refine (HMA.out _ (hwc.below (hbc.trans (eY.mono hbc.size)))).mono ?_
  rintro e u2 ⟨rfl,Ni⟩
  have hR2:=eY.trans (Ni.mono eY.size)
  refine hK _ _ ⟨hR2,?_⟩
  clear hK K
  try simp only [zA,zB,zC,Act.put,zD,zE,zF]
  unfold bE
  simp only [List.drop_succ_cons,List.drop_zero]
  try simp only [zA,zB,zC,Act.put,zD,zE,zF]
  have HZ:=hid (hsc.out.below hR2)
  obtain ⟨cl2,fl2⟩:=one_cell HZ.out.low
  obtain ⟨ch2,fh2⟩:=one_cell HZ.out.high
  refine aB rfl (fun K hK=>?_)
  go_simp
  refine hK _ _ ⟨trivial,?_⟩
  clear hK K
  try simp only [zA,zB,zC,Act.put,zD,zE,zF]
  refine aB rfl (fun K hK=>?_)
  go_simp
  refine hK _ _ ⟨trivial,aQ ?_⟩
  clear hK K
  try simp only [zA,zB,zC,Act.put,zD,zE,zF]
  refine ag.mk ?_
  go_wp2
  refine bodyPost_end (results_none rfl _ _ _) rfl ⟨rfl,?_,?_⟩
  ·rw [show AB none y=some (y,y) from rfl]
   exact HZ.out.set n1 n2 n3 rfl
  ·exact (hof.out.trans (Off.of_below hR2)).trans ((Off.set (by simp) _).trans (Off.set (by simp) _))
 | some p =>
  have HMI:=hid (fun w' (hg:Good w')=>abz p.1 y (hst p rfl).1 hy w' hg)
  have HMA:=hid (fun w' (hg:Good w')=>aby p.2 y (hst p rfl).2 hy w' hg)
  clear hst hy
  obtain ⟨lo,hlo⟩ : ∃ lo,lo=if y<p.1 then y else p.1:=⟨_,rfl⟩
  obtain ⟨hi,hhi⟩ : ∃ hi,hi=if p.2<y then y else p.2:=⟨_,rfl⟩
  rw [←hlo] at HMI
  rw [←hhi] at HMA
  have ZK:=hid (And.intro hlo hhi)
  clear hlo hhi
  unfold RV at HMI HMA
  unfold Y0 at cl
  unfold spH at ch
  dsimp only at cl ch
  rw [Option.isSome_some] at cf
  have hsc:=HS
  have hwc:=HW.out
  have hbc:=Below.refl w.heap.size w
  have ll:=lt_of_some HS.out.low
  have lh:=lt_of_some HS.out.high
  go_enter Tryz.func156,Tryz.ntmps156
  go_wp2_with fail
  refine aN (fun W'=>Below w.heap.size w W') [0,1,3,4] [2,5] 6 (by kernel_rfl) (by kernel_rfl) ⟨rfl,rfl,rfl,Nat.le_refl _,fun _ _=>rfl⟩ ?_
  iterate 4
   refine aL rfl ?_ rfl ?_ ?_
   rotate_left
   ·intro W' hS'
    have s0:=(hS'.cell (p:=⟨bl,0,none⟩) ll).trans cl
    have s1:=(hS'.cell (p:=⟨bh,0,none⟩) lh).trans ch
    go_simp
    try with_reducible rfl
   try simp only [zA,zB,zC,Act.put,zD,zE,zF]
  have hR0:Below w.heap.size w w.drew:=⟨rfl,rfl,rfl,Nat.le_refl _,fun _ _=>rfl⟩
  refine aD rfl rfl (fun K hK=>?_)
  go_simp
  refine (HMI.out _ (hwc.below (hbc.trans (hR0.mono hbc.size)))).mono ?_
  rintro e u1 ⟨rfl,lV⟩
  have eY:=hR0.trans (lV.mono hR0.size)
  refine hK _ _ ⟨eY,?_⟩
  clear hK K
  try simp only [zA,zB,zC,Act.put,zD,zE,zF]
  refine aD rfl rfl (fun K hK=>?_)
  go_simp
  refine (HMA.out _ (hwc.below (hbc.trans (eY.mono hbc.size)))).mono ?_
  rintro e u2 ⟨rfl,Ni⟩
  have hR2:=eY.trans (Ni.mono eY.size)
  refine hK _ _ ⟨hR2,?_⟩
  clear hK K
  try simp only [zA,zB,zC,Act.put,zD,zE,zF]
  unfold bE
  simp only [List.drop_succ_cons,List.drop_zero]
  try simp only [zA,zB,zC,Act.put,zD,zE,zF]
  have HZ:=hid (hsc.out.below hR2)
  obtain ⟨cl2,fl2⟩:=one_cell HZ.out.low
  obtain ⟨ch2,fh2⟩:=one_cell HZ.out.high
  refine aB rfl (fun K hK=>?_)
  go_simp
  refine hK _ _ ⟨trivial,?_⟩
  clear hK K
  try simp only [zA,zB,zC,Act.put,zD,zE,zF]
  refine aB rfl (fun K hK=>?_)
  go_simp
  refine hK _ _ ⟨trivial,aQ ?_⟩
  clear hK K
  try simp only [zA,zB,zC,Act.put,zD,zE,zF]
  refine ag.mk ?_
  go_wp2
  refine bodyPost_end (results_none rfl _ _ _) rfl ⟨rfl,?_,?_⟩
  ·rw [show AB (some p) y=some (lo,hi) by rw [ZK.out.1,ZK.out.2];rfl]
   exact HZ.out.set n1 n2 n3 rfl
  ·exact ((Off.of_below hR2)).trans ((Off.set (by simp) _).trans (Off.set (by simp) _))
def zf (x:Rat) (a b:Rat × Rat):Rat:=a.2+(x-a.1)*(b.1-a.1)⁻¹*(b.2-a.2)
def xS (x:Rat) (a b:Rat × Rat):List Rat:=if a.1=x then [a.2] else if dx a.1 x*dx b.1 x<0 then [zf x a b] else []
def zg (L:List QP) (x:Rat) (k:Nat):List Rat:=xS x (pt L k) (pt L ((k+1) % L.length))
def stA (L:List QP) (x:Rat) (k:Nat):Option (Rat × Rat):=((List.range k).flatMap (zg L x)).foldl AB none
def oM (L:List QP) (x:Rat):Option (Rat × Rat):=stA L x L.length
theorem VP (L:List QP) (x:Rat) (k:Nat):stA L x (k+1)=(zg L x k).foldl AB (stA L x k):=by
 unfold stA
 rw [List.range_succ,List.flatMap_append,List.foldl_append,List.flatMap_singleton]
theorem aat {n:Nat} {st:Option (Rat × Rat)} {y:Rat} (h:∀ p,st=some p→Sz n p.1∧Sz n p.2) (hy:Sz n y):∀ p,AB st y=some p→Sz n p.1∧Sz n p.2:=by
 intro p hp
 cases st with
 | none =>
  cases hp
  exact ⟨hy,hy⟩
 | some q =>
  obtain ⟨h1,h2⟩:=h q rfl
  cases hp
  constructor
  ·dsimp only
   split
   ·exact hy
   ·exact h1
  ·dsimp only
   split
   ·exact hy
   ·exact h2
theorem VQ {x:Rat} {a b:Rat × Rat} (h:dx a.1 x*dx b.1 x<0):b.1-a.1≠0:=by
 intro e
 have e1:b.1=a.1:=by grind
 rw [e1] at h
 rcases oZ a.1 x with h1 | h1 | h1 <;> rw [h1] at h <;> exact absurd h (by decide)
def CrS (x:Rat) (a b:Rat × Rat):Prop:=bM (x-a.1)∧bM (b.1-a.1)∧bM ((x-a.1)*(b.1-a.1)⁻¹)∧bM (b.2-a.2)∧bM ((x-a.1)*(b.1-a.1)⁻¹*(b.2-a.2))∧bM (zf x a b)
def EdS (L:List QP) (x:Rat):Prop:=∀ k,k<L.length→dx (pt L k).1 x*dx (pt L ((k+1) % L.length)).1 x<0→CrS x (pt L k) (pt L ((k+1) % L.length))
theorem Ph {L:List QP} {x:Rat} (hz:∀ p∈L,rf 1000 p) (hx:EdS L x) {k:Nat} (hk:k<L.length):∀ y∈zg L x k,Sz 30000 y:=by
 intro y hy
 have ha:=hz _ (bV hk)
 unfold zg xS at hy
 split at hy
 ·rw [List.mem_singleton] at hy
  rw [hy]
  exact ha.2.sm
 ·split at hy
  ·rename_i hc
   rw [List.mem_singleton] at hy
   rw [hy]
   exact (hx k hk hc).2.2.2.2.2
  ·cases hy
theorem KY {n:Nat}:∀ (E:List Rat) (st:Option (Rat × Rat)),(∀ p,st=some p→Sz n p.1∧Sz n p.2)→(∀ y∈E,Sz n y)→∀ p,E.foldl AB st=some p→Sz n p.1∧Sz n p.2
 | [],_,h,_=>h
 | y :: E,st,h,hE=>KY E (AB st y) (aat h (hE y List.mem_cons_self)) (fun z hz=>hE z (List.mem_cons_of_mem _ hz))
theorem ac7 {L:List QP} {x:Rat} (hz:∀ p∈L,rf 1000 p) (hx:EdS L x) {k:Nat} (hk:k≤L.length):∀ p,stA L x k=some p→Sz 30000 p.1∧Sz 30000 p.2:=by
 refine KY _ _ (fun p h=>by cases h) (fun y hy=>?_)
 obtain ⟨j,hj,hy⟩:=List.mem_flatMap.1 hy
 rw [List.mem_range] at hj
 exact Ph hz hx (by omega) y hy
theorem aau (st:Option (Rat × Rat)):∃ s,Y0 st=.string s:=by cases st <;> exact ⟨_,rfl⟩
theorem aav (st:Option (Rat × Rat)):∃ s,spH st=.string s:=by cases st <;> exact ⟨_,rfl⟩
theorem Ra {n k:Nat}:Int.tmod ((k:Int)+1) (n:Int)=(((k+1) % n:Nat):Int):=by
 rw [Int.tmod_eq_emod_of_nonneg (by omega)]
 simp
theorem NA.anew {bl bh bf:Nat} {st:Option (Rat × Rat)} {w:World} (h:NA bl bh bf st w) (h1:bl≠bh) (h2:bl≠bf) (h3:bh≠bf):NA bl bh bf st (((w.setCell ⟨bl,0,none⟩ (Y0 st)).setCell ⟨bh,0,none⟩ (spH st)).setCell ⟨bf,0,none⟩ (.bool st.isSome)):=by
 have k:=h.set (st':=st) h1 h2 h3 rfl
 refine ⟨?_,?_,aJ (i:=0) (.bool st.isSome) k.flag⟩
 ·rw [Below.heap_setCell _ _ _ _ (show bl≠bf from h2)]
  exact k.low
 ·rw [Below.heap_setCell _ _ _ _ (show bh≠bf from h3)]
  exact k.high
theorem aaw (v:Value) (L:List QP) (x:Rat) (hn:L.length≤1000) (hz:∀ p∈L,rf 1000 p) (hs:bM x) (hx:EdS L x) (w:World) (hw:Good w) (hv:qp w v L) :
  Calls Tryz.prog 74 #[v,.string (tx x)] w (RV (.tuple #[Y0 (oM L x),spH (oM L x),.bool (oM L x).isSome]) w):=by
 have agt:=hid (VP L x)
 have Mi:=hid (fun k (hk:k≤L.length) p h=>(ac7 hz hx hk p h:Sz 30000 p.1∧Sz 30000 p.2))
 have HEZ:=hid (fun k (hk:k<L.length)=>Ph hz hx hk)
 have HZ:=hid hz
 have HV:=hid hv
 have HX:=hid hs
 have CB:=hid hx
 obtain ⟨p,c,rfl,hcl,hcm⟩:=hv.slice
 unfold maxLen at hcm
 unfold RV
 clear hv hz hx hs
 go_enter Tryz.func74,Tryz.ntmps74
 go_upto_region 1 with fail
 obtain ⟨wS,qV⟩ : ∃ wS,wS=((w.alloc (Obj.cells #[.string ⟨#[]⟩] 33)).alloc (Obj.cells #[.string ⟨#[]⟩] 33)).alloc (Obj.cells #[.bool false] 4):=⟨_,rfl⟩
 obtain ⟨hbS,I5,z1,z2,z3⟩:=dU qV
 have Uy:=hid (show NA w.heap.size (w.heap.size+1) (w.heap.size+1+1) (stA L x 0) wS from ⟨z1,z2,z3⟩)
 have qE:=hid hbS
 rw [←qV]
 clear qV hbS I5 z1 z2 z3
 have h6:=hw.big
 have n1:w.heap.size≠w.heap.size+1:=by omega
 have n2:w.heap.size≠w.heap.size+1+1:=by omega
 have n3:w.heap.size+1≠w.heap.size+1+1:=by omega
 go_wp2_with fail
 go_loopw [8,9,10,11,12,13,14,18] (fun _ _ _ _ _ _ _ iv wr=>∃ k:Nat,k≤L.length∧iv=.int .i64 (k:Int)∧NA w.heap.size (w.heap.size+1) (w.heap.size+1+1) (stA L x k) wr∧Below w.heap.size w wr) (fun _ _ _ _ _ _ _ iv _=>L.length-(intOf iv).toNat)
 case atStart=>exact ⟨0,Nat.zero_le _,rfl,Uy.out,qE.out⟩
 case round =>
  obtain ⟨k,hkl,rfl,hsp,hbr⟩:=hrel
  have Rc:=hid hsp
  have sZ:=hid hbr
  clear hsp hbr
  by_cases hk:k<L.length
  ·obtain ⟨B,off,rfl,hbl,hcell⟩:=qp.cells HV.out (by omega)
   obtain ⟨j,hj⟩ : ∃ j,j=(k+1) % L.length:=⟨_,rfl⟩
   have hjl:j<L.length:=by rw [hj];exact Nat.mod_lt _ (by omega)
   have t1:Int.tmod ((k:Int)+1) (L.length:Int)=(j:Int):=by rw [hj];exact Ra
   have c0:=(sZ.out.cell (p:=⟨B,off+k*2,none⟩) hbl).trans (hcell k hk).1
   have c1:=(sZ.out.cell (p:=⟨B,off+k*2+1,none⟩) hbl).trans (hcell k hk).2
   have d0:=(sZ.out.cell (p:=⟨B,off+j*2,none⟩) hbl).trans (hcell j hjl).1
   have d1:=(sZ.out.cell (p:=⟨B,off+j*2+1,none⟩) hbl).trans (hcell j hjl).2
   have kn:decide ((k:Int)<(L.length:Int))=true:=decide_eq_true (by omega)
   have Jc:decide (k<L.length)=true:=decide_eq_true hk
   have i1:(0:Int)≤(k:Int):=by omega
   have i2:(k:Int)<(L.length:Int):=by omega
   have i3:(0:Int)≤(j:Int):=by omega
   have i4:(j:Int)<(L.length:Int):=by omega
   have i5:¬ (L.length:Int)=0:=by omega
   have w5:IntKind.i64.wrap ((k:Int)+1)=(k:Int)+1:=IntWalk.i64_in _ (by omega)
   have w6:IntKind.i64.wrap (j:Int)=(j:Int):=IntWalk.i64_in _ (by omega)
   have ac5:=Nat.lt_of_lt_of_le hbl sZ.out.size
   have hE:zg L x k=xS x (pt L k) (pt L j):=by rw [hj];rfl
   have HA:=HZ.out _ (bV hk)
   have HB:=HZ.out _ (bV hjl)
   have hcs:=CB.out k hk
   rw [←hj] at hcs
   clear hcell hbl hj
   obtain ⟨a,ha⟩ : ∃ a,a=pt L k:=⟨_,rfl⟩
   obtain ⟨b,hb⟩ : ∃ b,b=pt L j:=⟨_,rfl⟩
   rw [←ha] at c0 c1 hE HA hcs
   rw [←hb] at d0 d1 hE HB hcs
   have Ep:=hid (fun w' (hg:Good w')=>rq a.1 x (HA.1.sm) HX.out w' hg)
   have YZ:=hid (fun w' (hg:Good w')=>rq b.1 x (HB.1.sm) HX.out w' hg)
   have HS1:=hid (fun w' (hg:Good w')=>jX x a.1 HX.out (HA.1.sm) w' hg)
   have HS2:=hid (fun w' (hg:Good w')=>jX b.1 a.1 (HB.1.sm) (HA.1.sm) w' hg)
   have HS3:=hid (fun w' (hg:Good w')=>jX b.2 a.2 (HB.2.sm) (HA.2.sm) w' hg)
   have Y1:=hid (fun (hg0:dx a.1 x*dx b.1 x<0) w' (hg:Good w')=>abo (x-a.1) (b.1-a.1) (VQ hg0) (hcs hg0).1 (hcs hg0).2.1 w' hg)
   have HML:=hid (fun (hg0:dx a.1 x*dx b.1 x<0) w' (hg:Good w')=>uA ((x-a.1)*(b.1-a.1)⁻¹) (b.2-a.2) (hcs hg0).2.2.1 (hcs hg0).2.2.2.1 w' hg)
   have HAD:=hid (fun (hg0:dx a.1 x*dx b.1 x<0) w' (hg:Good w')=>uz a.2 ((x-a.1)*(b.1-a.1)⁻¹*(b.2-a.2)) (HA.2.sm) (hcs hg0).2.2.2.2.1 w' hg)
   have HAS:=hid (fun w' (hg:Good w')=>VO (stA L x k) a.2 (fun p h=>⟨(Mi.out k hkl p h).1,(Mi.out k hkl p h).2⟩) (HA.2.sm) w.heap.size (w.heap.size+1) (w.heap.size+1+1) n1 n2 n3 ⟨h6,Nat.le_succ_of_le h6,Nat.le_succ_of_le (Nat.le_succ_of_le h6)⟩ w' hg)
   have HAC:=hid (fun (hg0:dx a.1 x*dx b.1 x<0) w' (hg:Good w')=>VO (stA L x k) (zf x a b) (fun p h=>⟨(Mi.out k hkl p h).1,(Mi.out k hkl p h).2⟩) (hcs hg0).2.2.2.2.2 w.heap.size (w.heap.size+1) (w.heap.size+1+1) n1 n2 n3 ⟨h6,Nat.le_succ_of_le h6,Nat.le_succ_of_le (Nat.le_succ_of_le h6)⟩ w' hg)
   clear hcs
   have HCR:=hid (show zf x a b=a.2+(x-a.1)*(b.1-a.1)⁻¹*(b.2-a.2) from rfl)
   have tQ:=hid (agt.out k)
   rw [hE] at tQ
   unfold xS at tQ
   clear hE HA HB ha hb
   unfold RV at Ep YZ HS1 HS2 HS3 Y1 HML HAD
   rw [←HCR.out] at HAD
   generalize hcc:zf x a b=cr at *
   generalize hac:dx a.1 x=ca at *
   generalize hbc:dx b.1 x=cb at *
   have YR:=hid (show ca=0↔a.1=x by rw [←hac];exact sJ)
   have HCC:=hid (show ca = -1∨ca=0∨ca=1 by rw [←hac];exact oZ _ _)
   have HCD:=hid (show cb = -1∨cb=0∨cb=1 by rw [←hbc];exact oZ _ _)
   have w7:IntKind.i64.wrap (ca*cb)=ca*cb:=IntWalk.i64_in _ (by rcases HCC.out with h | h | h <;> rcases HCD.out with h' | h' | h' <;> rw [h,h'] <;> decide)
   clear hac hbc hcc HCR
   generalize tx a.1=ax at *
   generalize tx a.2=ay at *
   generalize tx b.1=bx at *
   generalize tx b.2=by' at *
   generalize htx:tx x=xx at *
   go_upto_region 5 with fail
   obtain ⟨wA,aS⟩ : ∃ wA,wA=wr.alloc (Obj.cells #[.string ax,.string ay] 113):=⟨_,rfl⟩
   have aP:Below wr.heap.size wr wA:=by rw [aS];exact ae _ _
   have hcA:wA.heap[wr.heap.size]?=some (.cells #[.string ax,.string ay] 113 (0,0)):=by rw [aS];exact World.alloc_heap_new _ _
   have d0:=(aP.cell (p:=⟨B,off+j*2,none⟩) ac5).trans d0
   have d1:=(aP.cell (p:=⟨B,off+j*2+1,none⟩) ac5).trans d1
   rw [←aS]
   clear aS c0 c1
   go_upto_region 6 with fail
   obtain ⟨wB,iy⟩ : ∃ wB,wB=wA.alloc (Obj.cells #[.string bx,.string by'] 113):=⟨_,rfl⟩
   have il:Below wA.heap.size wA wB:=by rw [iy];exact ae _ _
   have hcB:wB.heap[wA.heap.size]?=some (.cells #[.string bx,.string by'] 113 (0,0)):=by rw [iy];exact World.alloc_heap_new _ _
   have hcA:=(il.block _ (aa hcA)).trans hcA
   obtain ⟨a0,a1,_,_⟩:=aj hcA
   obtain ⟨b0,b1,_,_⟩:=aj hcB
   have lA:=aa hcA
   have lB:=aa hcB
   have ac8:=aP.trans (il.mono aP.size)
   have Re:=sZ.out.trans (ac8.mono sZ.out.size)
   have aeK:=Rc.out.below ac8
   have Rc:=hid aeK
   have HCX:=hid (And.intro hcA hcB)
   rw [←iy]
   clear iy d0 d1 aP il ac8 aeK hcA hcB
   refine aN (fun W'=>Below wB.heap.size wB W') [0,1,2,4,5,6] [3,7] 8 (by kernel_rfl) (by kernel_rfl) ⟨rfl,rfl,rfl,Nat.le_refl _,fun _ _=>rfl⟩ ?_
   iterate 6
    refine aL rfl ?_ rfl ?_ ?_
    rotate_left
    ·intro W' hS'
     have s0:=(hS'.cell (p:=⟨wr.heap.size,0,none⟩) lA).trans a0
     have s1:=(hS'.cell (p:=⟨wA.heap.size,0,none⟩) lB).trans b0
     go_simp
     try with_reducible rfl
    try simp only [zA,zB,zC,Act.put,zD,zE,zF]
   have hR0:Below wB.heap.size wB wB.drew:=⟨rfl,rfl,rfl,Nat.le_refl _,fun _ _=>rfl⟩
   refine aD rfl rfl (fun K hK=>?_)
   go_simp
   refine (Ep.out _ (hw.below (Re.trans (hR0.mono Re.size)))).mono ?_
   rintro e u1 ⟨rfl,lV⟩
   have eY:=hR0.trans (lV.mono hR0.size)
   refine hK _ _ ⟨eY,?_⟩
   clear hK K
   try simp only [zA,zB,zC,Act.put,zD,zE,zF]
   refine aD rfl rfl (fun K hK=>?_)
   go_simp
   refine (YZ.out _ (hw.below (Re.trans (eY.mono Re.size)))).mono ?_
   rintro e u2 ⟨rfl,Ni⟩
   have hR2:=eY.trans (Ni.mono eY.size)
   refine hK _ _ ⟨hR2,?_⟩
   clear hK K
   try simp only [zA,zB,zC,Act.put,zD,zE,zF]
   unfold bE
   simp only [List.drop_succ_cons,List.drop_zero]
   try simp only [zA,zB,zC,Act.put,zD,zE,zF]
   refine aB rfl (fun K hK=>?_)
   go_simp
   refine hK _ _ ⟨trivial,?_⟩
   clear hK K
   try simp only [zA,zB,zC,Act.put,zD,zE,zF]
   refine aB rfl (fun K hK=>?_)
   go_simp
   refine hK _ _ ⟨trivial,aQ ?_⟩
   clear hK K
   try simp only [zA,zB,zC,Act.put,zD,zE,zF]
   refine ag.mk ?_
   have a0:=(hR2.cell (p:=⟨wr.heap.size,0,none⟩) lA).trans a0
   have a1:=(hR2.cell (p:=⟨wr.heap.size,1,none⟩) lA).trans a1
   have b0:=(hR2.cell (p:=⟨wA.heap.size,0,none⟩) lB).trans b0
   have b1:=(hR2.cell (p:=⟨wA.heap.size,1,none⟩) lB).trans b1
   have lA:=Nat.lt_of_lt_of_le lA hR2.size
   have lB:=Nat.lt_of_lt_of_le lB hR2.size
   have Sc:=Re.trans (hR2.mono Re.size)
   have low:∀ (W W':World),Off [w.heap.size,w.heap.size+1,w.heap.size+1+1] W W'→w.heap.size≤W.heap.size→Below w.heap.size W W':=fun _ _ h hs=>h.low _ (fun b hb=>by simp at hb;omega) hs
   have LOW:=hid low
   clear low
   by_cases hz:ca=0
   ·have hst:stA L x (k+1)=AB (stA L x k) a.2:=by
     rw [tQ.out,if_pos (YR.out.1 hz)]
     rfl
    have HST:=hid hst
    subst hz
    clear hst
    go_wp2_with fail
    refine (HAS.out u2 (hw.below Sc) (Rc.out.below hR2)).mono ?_
    rintro e u3 ⟨rfl,VR,agu⟩
    rw [←HST.out] at VR
    have hb3:=Sc.trans (LOW.out _ _ agu Sc.size)
    have e0:decide ((0:Int)*cb<0)=false:=by simp
    go_wp2
    refine ⟨⟨k+1,hk,aA k,VR,hb3⟩,?_⟩
    show L.length-((k:Int)+1).toNat<L.length-((k:Int)).toNat
    omega
   ·have e1:decide (ca=0)=false:=decide_eq_false hz
    have hne:=fun h=>hz (YR.out.2 h)
    by_cases hg:ca*cb<0
    ·have e2:decide (ca*cb<0)=true:=decide_eq_true hg
     have HST:=hid (show stA L x (k+1)=AB (stA L x k) cr by
      rw [tQ.out,if_neg hne,if_pos hg]
      rfl)
     have Y1:=hid (Y1.out hg)
     have HML:=hid (HML.out hg)
     have HAD:=hid (HAD.out hg)
     clear hne
     go_wp2_with fail
     refine fK (fun W'=>Below u2.heap.size u2 W') (.take 0 (.take 1 (.take 2 (.take 4 (.take 5 (.take 6 (.take 7 (.one 3 (.one 8 (.one 9 (.take 10 (.take 11 (.take 12 (.one 13 .fin)))))))))))))) 14 (by kernel_rfl) (by kernel_rfl) ⟨rfl,rfl,rfl,Nat.le_refl _,fun _ _=>rfl⟩ ?_
     have hS0:Below u2.heap.size u2 u2.drew:=⟨rfl,rfl,rfl,Nat.le_refl _,fun _ _=>rfl⟩
     generalize u2.drew=v0 at *
     iterate 7
      refine aF rfl ?_ rfl ?_ ?_
      rotate_left
      ·intro W' hS'
       have s0:=(hS'.cell (p:=⟨wr.heap.size,0,none⟩) lA).trans a0
       have s1:=(hS'.cell (p:=⟨wA.heap.size,0,none⟩) lB).trans b0
       go_simp
       try with_reducible rfl
      try simp only [zA,zB,zC,Act.put,zD,zE,zF]
     refine af rfl rfl (fun K hK=>?_)
     go_simp
     refine (HS1.out _ (hw.below (Sc.trans (hS0.mono Sc.size)))).mono ?_
     rintro e v1 ⟨rfl,rC⟩
     have hS1:=hS0.trans (rC.mono hS0.size)
     refine hK _ _ ⟨hS1,?_⟩
     clear hK K
     try simp only [zA,zB,zC,Act.put,zD,zE,zF]
     refine af rfl rfl (fun K hK=>?_)
     go_simp
     refine (HS2.out _ (hw.below (Sc.trans (hS1.mono Sc.size)))).mono ?_
     rintro e v2 ⟨rfl,tV⟩
     have hS2:=hS1.trans (tV.mono hS1.size)
     refine hK _ _ ⟨hS2,?_⟩
     clear hK K
     try simp only [zA,zB,zC,Act.put,zD,zE,zF]
     refine af rfl rfl (fun K hK=>?_)
     go_simp
     refine (Y1.out _ (hw.below (Sc.trans (hS2.mono Sc.size)))).mono ?_
     rintro e v3 ⟨rfl,ab7⟩
     have Lv:=hS2.trans (ab7.mono hS2.size)
     refine hK _ _ ⟨Lv,?_⟩
     clear hK K
     try simp only [zA,zB,zC,Act.put,zD,zE,zF]
     iterate 3
      refine aF rfl ?_ rfl ?_ ?_
      rotate_left
      ·intro W' hS'
       have s0:=(hS'.cell (p:=⟨wr.heap.size,0,none⟩) lA).trans a0
       have s1:=(hS'.cell (p:=⟨wA.heap.size,0,none⟩) lB).trans b0
       go_simp
       try with_reducible rfl
      try simp only [zA,zB,zC,Act.put,zD,zE,zF]
     refine af rfl rfl (fun K hK=>?_)
     go_simp
     refine hK _ _ ⟨Lv,?_⟩
     clear hK K
     try simp only [zA,zB,zC,Act.put,zD,zE,zF]
     unfold bR
     simp only [List.drop_succ_cons,List.drop_zero]
     go_wp2
     refine ag.mk ?_
     have a0:=(Lv.cell (p:=⟨wr.heap.size,0,none⟩) lA).trans a0
     have a1:=(Lv.cell (p:=⟨wr.heap.size,1,none⟩) lA).trans a1
     have b0:=(Lv.cell (p:=⟨wA.heap.size,0,none⟩) lB).trans b0
     have b1:=(Lv.cell (p:=⟨wA.heap.size,1,none⟩) lB).trans b1
     have lA:=Nat.lt_of_lt_of_le lA Lv.size
     have lB:=Nat.lt_of_lt_of_le lB Lv.size
     have VS:=Sc.trans (Lv.mono Sc.size)
     go_wp2_with fail
     refine aN (fun W'=>Below v3.heap.size v3 W') [0,1,2,3,4,5,6,7] [8,9,10] 11 (by kernel_rfl) (by kernel_rfl) ⟨rfl,rfl,rfl,Nat.le_refl _,fun _ _=>rfl⟩ ?_
     iterate 8
      refine aL rfl ?_ rfl ?_ ?_
      rotate_left
      ·intro W' hS'
       have s0:=(hS'.cell (p:=⟨wr.heap.size,1,none⟩) lA).trans a1
       have s1:=(hS'.cell (p:=⟨wA.heap.size,1,none⟩) lB).trans b1
       go_simp
       try with_reducible rfl
      try simp only [zA,zB,zC,Act.put,zD,zE,zF]
     have hT0:Below v3.heap.size v3 v3.drew:=⟨rfl,rfl,rfl,Nat.le_refl _,fun _ _=>rfl⟩
     refine aD rfl rfl (fun K hK=>?_)
     go_simp
     refine (HS3.out _ (hw.below (VS.trans (hT0.mono VS.size)))).mono ?_
     rintro e x1 ⟨rfl,agv⟩
     have hT1:=hT0.trans (agv.mono hT0.size)
     refine hK _ _ ⟨hT1,?_⟩
     clear hK K
     try simp only [zA,zB,zC,Act.put,zD,zE,zF]
     refine aD rfl rfl (fun K hK=>?_)
     go_simp
     refine (HML.out _ (hw.below (VS.trans (hT1.mono VS.size)))).mono ?_
     rintro e x2 ⟨rfl,SV⟩
     have R3:=hT1.trans (SV.mono hT1.size)
     refine hK _ _ ⟨R3,?_⟩
     clear hK K
     try simp only [zA,zB,zC,Act.put,zD,zE,zF]
     refine aD rfl rfl (fun K hK=>?_)
     go_simp
     refine (HAD.out _ (hw.below (VS.trans (R3.mono VS.size)))).mono ?_
     rintro e x3 ⟨rfl,yx⟩
     have QB:=R3.trans (yx.mono R3.size)
     refine hK _ _ ⟨QB,?_⟩
     clear hK K
     try simp only [zA,zB,zC,Act.put,zD,zE,zF]
     unfold bE
     simp only [List.drop_succ_cons,List.drop_zero]
     try simp only [zA,zB,zC,Act.put,zD,zE,zF]
     refine aB rfl (fun K hK=>?_)
     go_simp
     have hsx:=(Rc.out.below hR2).below (Lv.trans (QB.mono Lv.size))
     refine (HAC.out hg x3 (hw.below (VS.trans (QB.mono VS.size))) hsx).mono ?_
     rintro e x4 ⟨rfl,aeL,agw⟩
     refine hK _ _ ⟨trivial,aQ ?_⟩
     clear hK K
     try simp only [zA,zB,zC,Act.put,zD,zE,zF]
     refine ag.mk ?_
     rw [←HST.out] at aeL
     have hb4:=(VS.trans (QB.mono VS.size)).trans (LOW.out _ _ agw (Nat.le_trans VS.size QB.size))
     go_wp2
     refine ⟨⟨k+1,hk,aA k,aeL,hb4⟩,?_⟩
     show L.length-((k:Int)+1).toNat<L.length-((k:Int)).toNat
     omega
    ·have e2:decide (ca*cb<0)=false:=decide_eq_false hg
     have HST:=hid (show stA L x (k+1)=stA L x k by
      rw [tQ.out,if_neg hne,if_neg hg]
      rfl)
     have VR:=Rc.out.below hR2
     rw [←HST.out] at VR
     clear hne
     go_wp2
     refine ⟨⟨k+1,hk,aA k,VR,Sc⟩,?_⟩
     show L.length-((k:Int)+1).toNat<L.length-((k:Int)).toNat
     omega
  ·obtain rfl:k=L.length:=by omega
   have hsp:=Rc.out
   obtain ⟨st,hst⟩ : ∃ st,st=stA L x L.length:=⟨_,rfl⟩
   have HST:=hid (show oM L x=st from hst.symm)
   rw [←hst] at hsp
   obtain ⟨sl,hvl⟩:=aau st
   obtain ⟨sh,hvh⟩:=aav st
   obtain ⟨vf,hvf⟩ : ∃ vf,vf=st.isSome:=⟨_,rfl⟩
   have HVV:=hid (And.intro hvl (And.intro hvh hvf))
   have l1:=lt_of_some hsp.low
   have l2:=lt_of_some hsp.high
   have l3:=lt_of_some hsp.flag
   have hq1:=hsp.low
   have hq2:=hsp.high
   have hq3:=hsp.flag
   rw [hvl] at hq1
   rw [hvh] at hq2
   rw [←hvf] at hq3
   obtain ⟨q1,g1⟩:=one_cell hq1
   obtain ⟨q2,g2⟩:=one_cell hq2
   obtain ⟨q3,g3⟩:=one_cell hq3
   have HQ:=hid hsp
   have n1':=n1.symm
   have n2':=n2.symm
   have n3':=n3.symm
   clear hsp hq1 hq2 hq3 hvl hvh hvf hst hk
   go_wp2_with fail
   go_region
   obtain ⟨wz,hwz⟩ : ∃ wz,wz=(((wr.setCell ⟨w.heap.size,0,none⟩ (.string sl)).setCell ⟨w.heap.size+1,0,none⟩ (.string sh)).setCell ⟨w.heap.size+1+1,0,none⟩ (.bool vf)).drew:=⟨_,rfl⟩
   have hf:NA w.heap.size (w.heap.size+1) (w.heap.size+1+1) st wz:=by
    have h:=HQ.out.anew n1 n2 n3
    rw [HVV.out.1,HVV.out.2.1,←HVV.out.2.2] at h
    rw [hwz]
    exact h.below ((Below.refl _ _).drew)
   have hbz:Below w.heap.size w wz:=by
    rw [hwz]
    exact (((sZ.out.setCell (p:=⟨w.heap.size,0,none⟩) (Nat.le_refl _) _).setCell (p:=⟨w.heap.size+1,0,none⟩) (Nat.le_succ _) _).setCell (p:=⟨w.heap.size+1+1,0,none⟩) (Nat.le_succ_of_le (Nat.le_succ _)) _).drew
   rw [←hwz]
   clear hwz q1 q2 q3 g1 g2 g3 l1 l2 l3
   have hq1:=hf.low
   have hq2:=hf.high
   have hq3:=hf.flag
   rw [HVV.out.1] at hq1
   rw [HVV.out.2.1] at hq2
   rw [←HVV.out.2.2] at hq3
   obtain ⟨q1,_⟩:=one_cell hq1
   obtain ⟨q2,_⟩:=one_cell hq2
   obtain ⟨q3,_⟩:=one_cell hq3
   have J6:=hid hbz
   clear hq1 hq2 hq3 hf hbz
   go_wp2
   refine bodyPost_ret (v:=.tuple #[.string sl,.string sh,.bool vf]) (by simp [results,Tryz.results74,go_sem,q1,q2,q3]) rfl ⟨?_,J6.out⟩
   rw [HST.out,HVV.out.1,HVV.out.2.1,←HVV.out.2.2]
end Go.Proofs.YtglncfkoohgdaaaGreatDoor
namespace Go.Proofs.YtglncfkoohgdaaaGreatDoor
def ui (P:bQ) (x:Rat) (m:Nat):Nat:=(List.range m).foldl (fun k i=>if cZ P i<x then i else k) 0
theorem Gd (P:bQ) (x:Rat) (m:Nat):ui P x (m+1)=if cZ P m<x then m else ui P x m:=by
 unfold ui
 rw [List.range_succ,List.foldl_append]
 rfl
theorem Gf {P:bQ} {x:Rat} (h0:cZ P 0<x):∀ m,0<m→ui P x m<m∧cZ P (ui P x m)<x∧∀ i,ui P x m<i→i<m→¬ cZ P i<x
 | 0,h=>absurd h (by omega)
 | m+1,_=>by
  rw [Gd]
  split
  ·exact ⟨by omega,by assumption,fun i h1 h2=>by omega⟩
  ·rename_i hn
   rcases Nat.eq_zero_or_pos m with rfl | hm
   ·exact absurd h0 hn
   ·obtain ⟨h1,h2,h3⟩:=Gf h0 m hm
    refine ⟨by omega,h2,fun i k1 k2=>?_⟩
    rcases Nat.lt_or_ge i m with k3 | k3
    ·exact h3 i k1 k3
    ·obtain rfl:i=m:=by omega
     exact hn
def xU (P:bQ) (x:Rat) (k:Nat):Rat:=(x-cZ P k)*(cZ P (k+1)-cZ P k)⁻¹
def zh (P:bQ) (x:Rat) (k:Nat):Rat:=bG P k+xU P x k*(bG P (k+1)-bG P k)
def Y2 (P:bQ) (x:Rat) (k:Nat) (y:nW × Bool):List Iv:=match oM y.1.pg x with
 | none=>[]
 | some (l,h)=>if l=h∨(y.2=true∧xU P x k=1/2) then [] else [⟨y.1.u,zh P x k-h,zh P x k-l⟩]
def VT (P:bQ) (x:Rat) (k:Nat) (s:Stp):List Iv:=(aC P k s).flatMap (Y2 P x k)
def aeM (P:bQ) (x:Rat) (k:Nat):List Iv:=(aZ P k).flatMap (VT P x k)
structure AtS (P:bQ) (x:Rat):Prop where
 sx:bM x
 top:∀ k,k+1<P.lg.length→cZ P k<x→x<cZ P (k+1)→CrS x (cZ P k,bG P k) (cZ P (k+1),bG P (k+1))
 ed:∀ k s y,k+1<P.lg.length→cZ P k<x→x<cZ P (k+1)→s∈aZ P k→y∈aC P k s→EdS y.1.pg x
 sub:∀ k s y p,k+1<P.lg.length→cZ P k<x→x<cZ P (k+1)→s∈aZ P k→y∈aC P k s→oM y.1.pg x=some p→bM (zh P x k-p.1)∧bM (zh P x k-p.2)∧bM (zh P x k)∧bM p.1∧bM p.2
end Go.Proofs.YtglncfkoohgdaaaGreatDoor
