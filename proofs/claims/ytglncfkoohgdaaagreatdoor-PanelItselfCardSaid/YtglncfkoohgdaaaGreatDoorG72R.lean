import Derived.Test.YtglncfkoohgdaaaGreatDoorG44R
import Derived.Test.YtglncfkoohgdaaaGreatDoorS8R
import Derived.Test.YtglncfkoohgdaaaGreatDoorG71R
import Derived.Test.YtglncfkoohgdaaaGreatDoorStillR
set_option maxRecDepth 100000
namespace Go.Proofs.YtglncfkoohgdaaaGreatDoor
open Go.RowKit Go.Shelf
open Go.Lib (decDigits itoa nDigits)
open Go.Lib (hid)
attribute [local go_sem] Oper.semAt_some
theorem aip (n:Nat) (_hn:n<256) (w:World) (hw:Good w):Calls Tryz.prog 36 #[.int .u8 (n:Int)] w (RV (.string (tx (hf ((1+n % 6:Nat):Int)))) w):=by
 have a1:Int.tmod (n:Int) 6=((n % 6:Nat):Int):=oP n 6
 have hm6:n % 6<6:=Nat.mod_lt _ (by decide)
 have HOF:=hid (ab1 ((1+n % 6:Nat):Int) 2 (by decide) (by omega) (by decide) w hw)
 unfold RV at HOF ⊢
 generalize n % 6=m at *
 have hmw:IntKind.i64.wrap (m:Int)=(m:Int):=IntWalk.i64_in _ (by omega)
 obtain ⟨k,hk⟩ : ∃ k:Int,k=((1+m:Nat):Int):=⟨_,rfl⟩
 have hm1:IntKind.i64.wrap (1+(m:Int))=k:=by rw [IntWalk.i64_in _ (by omega),hk];omega
 rw [←hk] at HOF ⊢
 clear hk
 go_enter Tryz.func36,Tryz.ntmps36
 go_wp2_with fail
 refine HOF.out.mono ?_
 rintro e w1 ⟨rfl,hb1⟩
 go_wp2
 go_ret
 exact ⟨rfl,hb1⟩
theorem aiS (n:Int) (d:Nat) (hn:-32768≤n∧n≤32767) (hd:d<256) (w:World) (hw:Good w):Calls Tryz.prog 38 #[.agg #[.int .i16 n,.int .u8 (d:Int)]] w (RV (.string (tx (Rat.divInt n ((1+d:Nat):Int)))) w):=by
 obtain ⟨wB,iy⟩ : ∃ wB,wB=w.alloc (Obj.cells #[.int .i16 n,.int .u8 (d:Int)] 86):=⟨_,rfl⟩
 have hb:Below w.heap.size w wB:=by rw [iy];exact ae _ _
 have hc:wB.heap[w.heap.size]?=some (.cells #[.int .i16 n,.int .u8 (d:Int)] 86 (0,0)):=by rw [iy];exact World.alloc_heap_new _ _
 obtain ⟨q0,q1,_,_⟩:=aj hc
 have HB:=hid hb
 have HOF:=hid (ab1 n ((1+d:Nat):Int) (by omega) (by omega) (by omega) wB (hw.below hb))
 unfold RV at HOF ⊢
 have h1:IntKind.i64.wrap n=n:=IntWalk.i64_in _ (by omega)
 have h2:IntKind.i64.wrap (d:Int)=(d:Int):=IntWalk.i64_in _ (by omega)
 obtain ⟨k,hk⟩ : ∃ k:Int,k=((1+d:Nat):Int):=⟨_,rfl⟩
 have h3:IntKind.i64.wrap (1+(d:Int))=k:=by rw [IntWalk.i64_in _ (by omega),hk];omega
 rw [←hk] at HOF ⊢
 clear hk hb hc
 go_enter Tryz.func38,Tryz.ntmps38
 go_upto_region 1 with fail
 rw [←iy]
 clear iy
 go_wp2_with fail
 refine HOF.out.mono ?_
 rintro e w1 ⟨rfl,hb1⟩
 have hbb:=HB.out.trans (hb1.mono HB.out.size)
 go_wp2
 go_ret
 exact ⟨rfl,hbb⟩
theorem aiq (n:Int) (d:Nat) (hn:-32768≤n∧n≤32767) (hd:d<256):(Rat.divInt n ((1+d:Nat):Int)).num.natAbs≤32768∧(Rat.divInt n ((1+d:Nat):Int)).den≤256:=by
 rw [show Rat.divInt n ((1+d:Nat):Int)=mkRat n (1+d) from rfl]
 obtain ⟨h1,h2⟩:=BD n (1+d) (by omega)
 exact ⟨by omega,by omega⟩
theorem aiW {B:List Bt} (h8:B.length≤8) (hne:∀ i,1≤i→i<B.length→(ah (nS B) (i-1)).u≠(ah (nS B) i).u) {C:Cs} (h1:0<C.ch) (h2:0<C.mi) (h3:0<C.ga):aiP C (nS B):=by
 obtain ⟨hl,_⟩:=Pv h8
 refine ⟨h1,h2,h3,fun i hi=>?_,fun i hi=>?_⟩
 ·have:=(hl.pos i hi).2
  unfold aH
  grind
 ·unfold qO
  by_cases h0:0<i
  ·rw [iJ] at hi
   rw [decide_eq_false (hne i h0 hi),Bool.and_false]
  ·rw [decide_eq_false h0,Bool.false_and]
def itP (B:List Bt) (c0 c1 c2 c3:Nat):bQ:=⟨[nS B,nS B,nS B],[0,1,3],[5,5,5],⟨hf ((1+c0 % 6:Nat):Int),hf ((1+c1 % 6:Nat):Int),hf ((1+c2 % 6:Nat):Int),hf ((1+c3 % 6:Nat):Int)⟩⟩
theorem ajf {B:List Bt} (c0 c1 c2 c3:Nat) (h8:B.length≤8) (hne:∀ i,1≤i→i<B.length→(ah (nS B) (i-1)).u≠(ah (nS B) i).u):ah7 (itP B c0 c1 c2 c3) (nS B):=by
 have hp:∀ c:Nat,0<hf ((1+c % 6:Nat):Int):=fun c=>by
  have:=abC (show (0:Int)<((1+c % 6:Nat):Int) by omega)
  rwa [show hf 0=0 by decide +kernel] at this
 have hh:∀ c:Nat,H2 16 (hf ((1+c % 6:Nat):Int)):=fun c=>Ai (by omega)
 obtain ⟨hl,hv⟩:=Pv h8
 exact ⟨⟨rfl,rfl,rfl,aiW h8 hne (hp c0) (hp c1) (hp c2)⟩,⟨hl,by rw [iJ];exact h8⟩,fun i hi=>hv i (by rwa [iJ] at hi),⟨hh c0,hh c1,hh c2,hh c3⟩,Rat.le_of_lt (hp c3)⟩
theorem ah8 {W:World} {B:Nat} {a b c:Rat} {fz:Nat × Nat} {t:TypeId} (h:W.heap[B]?=some (.cells #[.string (tx a),.string (tx b),.string (tx c)] t fz)):tX W (.slice (some ⟨B,0,none⟩) 3 3) ([a,b,c].map tx):=by
 refine ⟨_,3,rfl,Nat.le_refl _,by decide,fun _=>⟨B,0,rfl,aa h,fun i hi=>?_⟩⟩
 match i,hi with
 | 0,_=>simp [World.cell?,h]
 | 1,_=>simp [World.cell?,h]
 | 2,_=>simp [World.cell?,h]
theorem aju:tx 1=⟨#[49]⟩:=tx1
theorem aiX {W:World} {B:List Bt} {c0 c1 c2 c3:Nat} {vl:Value} {b3 b4 b5:Nat} {t3 t4 t5:TypeId} {f3 f4 f5:Nat × Nat} (hv:gm W vl (nS B))
  (h3:W.heap[b3]?=some (.cells #[vl,vl,vl] t3 f3)) (h4:W.heap[b4]?=some (.cells #[.string ⟨#[48]⟩,.string ⟨#[49]⟩,.string ⟨#[51]⟩] t4 f4)) (h5:W.heap[b5]?=some (.cells #[.string ⟨#[53]⟩,.string ⟨#[53]⟩,.string ⟨#[53]⟩] t5 f5)) :
  l9 W (.slice (some ⟨b3,0,none⟩) 3 3) (.slice (some ⟨b4,0,none⟩) 3 3) (.slice (some ⟨b5,0,none⟩) 3 3) (itP B c0 c1 c2 c3):=by
 rw [←tx0,←aju,←adV] at h4
 rw [←afQ] at h5
 refine ⟨⟨_,3,rfl,Nat.le_refl _,by decide,fun _=>⟨b3,0,rfl,aa h3,fun k hk=>?_⟩⟩,ah8 h4,ah8 h5⟩
 match k,hk with
 | 0,_=>exact ⟨vl,by simp [World.cell?,h3],hv⟩
 | 1,_=>exact ⟨vl,by simp [World.cell?,h3],hv⟩
 | 2,_=>exact ⟨vl,by simp [World.cell?,h3],hv⟩
end Go.Proofs.YtglncfkoohgdaaaGreatDoor
namespace Go.Proofs.YtglncfkoohgdaaaGreatDoor
open Go.RowKit
section
variable {P:Program} {md:Region.Mode} {ops:Array Oper} {Q:Exit→Act→World→Prop} {S:World→Prop}
def FlOp2 (P:Program) (ops:Array Oper) (S:World→Prop) (Q:Exit→Act→World→Prop) (pre:Nat→List Nat) (J:(Nat→Bool)→Act→World→Prop) (i:Nat):Prop:=
 ∀ d a w,d i=false→(∀ j∈pre i,d j=true)→J d a w→S w→∃ o,ops[i]?=some o∧Region.wanted o (yielded ops a.tmps)=true∧∀ K:Act→World→Prop,(∀ a w,S w→J (upD d i) a w→K a w)→o.wp P a w K Q
theorem wpHL_float2 {n m:Nat} {l:List Nat} {B:Array Bool} {J:(Nat→Bool)→Act→World→Prop} {L:Array Bool→Act→World→Prop}
  (hnd:l.Nodup) {pre:Nat→List Nat} (hck:∀ d,(∀ i∈l,d i=true→∀ j∈pre i,d j=true)→(∃ i∈l,d i=false)→Region.ready md ops (mkL d l B)≠[]∧∀ i∈Region.ready md ops (mkL d l B),i∈l∧i<n∧∀ j∈pre i,d j=true)
  (hop:∀ i∈l,FlOp2 P ops S Q pre J i)
  (hfin:∀ d a w,(∀ i∈l,d i=true)→HeadInv md ops n (mkL d l B)→J d a w→S w→uP P md ops Q S n L m (mkL d l B) a w) :
  ∀ (k:Nat) (d:Nat→Bool) (a:Act) (w:World),(l.filter fun i=>!d i).length=k→(∀ i∈l,d i=true→∀ j∈pre i,d j=true)→HeadInv md ops n (mkL d l B)→J d a w→S w→uP P md ops Q S n L (k+m) (mkL d l B) a w
 | 0,d,a,w,hk,_,inv,hJ,hS=>by
  rw [Nat.zero_add]
  refine hfin d a w (fun i hi=>?_) inv hJ hS
  have h0:=List.filter_eq_nil_iff.1 (List.length_eq_zero_iff.1 hk) i hi
  simpa using h0
 | k+1,d,a,w,hk,hcl,inv,hJ,hS=>by
  have hex:∃ i∈l,d i=false:=by
   have h0:0<(l.filter fun i=>!d i).length:=by omega
   obtain ⟨i,hi⟩:=List.exists_mem_of_length_pos h0
   obtain ⟨h1,h2⟩:=List.mem_filter.1 hi
   exact ⟨i,h1,by simpa using h2⟩
  obtain ⟨hne,hall⟩:=hck d hcl hex
  rw [show k+1+m=(k+m)+1 by omega]
  refine ⟨hne,fun i hi=>?_⟩
  obtain ⟨hil,hin,hpr⟩:=hall i hi
  refine ⟨hin,?_⟩
  have hdi:d i=false:=by
   cases hd:d i
   ·rfl
   ·have h1:=(mem_ready.1 hi).1
    rw [aiy l B hil hd] at h1
    cases h1
  obtain ⟨o,ho,hw,hwp⟩:=hop i hil d a w hdi hpr hJ hS
  unfold wpOp
  simp only [ho]
  rw [if_pos hw]
  refine .inl (hwp _ fun a' w' hS' hJ'=>⟨hS',?_⟩)
  rw [←aih d i l B hnd hil]
  refine wpHL_float2 hnd hck hop hfin k (upD d i) a' w' ?_ (fun j hj hd m hm=>?_) (by rw [aih d i l B hnd hil];exact inv.set hi hin) hJ' hS'
  ·have:=aiK l hnd hil hdi
   omega
  ·unfold upD at hd ⊢
   split
   ·rfl
   ·by_cases hji:j=i
    ·subst hji
     exact hpr m hm
    ·rw [if_neg hji] at hd
     exact hcl j hj hd m hm
def floatB2 (md:Region.Mode) (ops:Array Oper) (n:Nat) (fl:List Nat) (pre:Nat→List Nat) (p2:eD) (listed:Array Bool):Bool:=
 aiL md ops n listed && decide fl.Nodup && (fl.all fun i=>(pre i).all fl.contains) && aiC fl (fun _=>false) (fun d=>fl.all d || !(fl.all fun i=>!d i || (pre i).all d) || (!(Region.ready md ops (mkL d fl listed)).isEmpty && (Region.ready md ops (mkL d fl listed)).all fun i=>fl.contains i && decide (i<n) && (pre i).all d)) && jE md ops n (Region.seqB md ops (ops.size-n) n) p2 (mkL (fun _=>true) fl listed)
def wpFl2 (P:Program) (ops:Array Oper) (S:World→Prop) (Q:Exit→Act→World→Prop) (fl:List Nat) (pre:Nat→List Nat) (Lq:Act→World→Prop) (a:Act) (w:World):Prop:=
 ∃ J:(Nat→Bool)→Act→World→Prop,J (fun _=>false) a w∧S w∧(∀ i∈fl,FlOp2 P ops S Q pre J i)∧∀ d a w,(∀ i∈fl,d i=true)→J d a w→S w→Lq a w
end
def floatTB2 (md:Region.Mode) (ops:Array Oper) (p1:eD) (fl:List Nat) (pre:Nat→List Nat) (p2:eD) (n2:Nat):Bool:=
 Region.noSelect ops && decide (n2<ops.size) && decide (p1.len+(fl.length+p2.len)=n2) && Region.sinkB md ops n2 && Region.chainB md ops n2 && jE md ops n2 (floatB2 md ops n2 fl pre p2) p1 (Array.replicate ops.size false)
theorem wp_held_float2 {P:Program} {id:Nat} {Q:Exit→Act→World→Prop} {a:Act} {w:World} {l:List Oper} (S:World→Prop) (p1:eD) (fl:List Nat) (pre:Nat→List Nat) (p2:eD) (n2:Nat) (hm:P.follows .mixedOrders=true) (hB:floatTB2 .any l.toArray p1 fl pre p2 n2=true) (hS:S w.drew)
  (h:bR P l.toArray S (ag Q) (wpFl2 P l.toArray S (ag Q) fl pre (bR P l.toArray S (ag Q) (fun a'' w''=>wpList P l.toArray (ag Q) (l.drop n2) a'' w'') p2)) p1 a w.drew):(Code.region id l.toArray true).wp P Q a w:=by
 refine nE (wp_region_any hm ?_)
 simp only [floatTB2,Bool.and_eq_true,decide_eq_true_eq] at hB
 obtain ⟨⟨⟨⟨⟨hsel,hn'⟩,hlen⟩,hs⟩,hc⟩,htk⟩:=hB
 have hl:n2<l.length:=by simpa using hn'
 have hdl:(l.drop n2).length=l.toArray.size-n2:=by simp
 have inv0:HeadInv .any l.toArray n2 (Array.replicate l.toArray.size false):=
  ⟨by simp,fun j oj _ hl=>(by rw [getD_replicate_false] at hl;cases hl),fun t _ ht=>getD_in (by simpa using ht) (getD_replicate_false _ _)⟩
 have hseq:∀ (listed':Array Bool) (a':Act) (w':World),(Region.seqB .any l.toArray (l.toArray.size-n2) n2 listed'=true∧wpList P l.toArray (ag Q) (l.drop n2) a' w')→∀ j∈Region.ready .any l.toArray listed',n2≤j:=fun listed a w hL=>seqB_ready hL.1
 have H:=kR (P:=P) (ops:=l.toArray) (md:=.any) (Q:=ag Q) (S:=S) (n:=n2) (m:=fl.length+p2.len) (B:=floatB2 .any l.toArray n2 fl pre p2)
  (L:=fun listed' a' w'=>Region.seqB .any l.toArray (l.toArray.size-n2) n2 listed'=true∧wpList P l.toArray (ag Q) (l.drop n2) a' w')
  (Lq:=wpFl2 P l.toArray S (ag Q) fl pre (bR P l.toArray S (ag Q) (fun a'' w''=>wpList P l.toArray (ag Q) (l.drop n2) a'' w'') p2))
  hsel hs hc hn' (fun c a w h=>h) hseq (fun listed a w hB hq=>by
   simp only [floatB2,Bool.and_eq_true,decide_eq_true_eq] at hB
   obtain ⟨⟨⟨⟨hhd,hnd⟩,hpf⟩,hall⟩,hp2⟩:=hB
   obtain ⟨J,hJ0,hS0,hop,hf⟩:=hq
   have e0:=aik fl listed
   have hin:∀ i∈fl,∀ j∈pre i,j∈fl:=fun i hi j hj=>by
    have:=List.all_eq_true.1 (List.all_eq_true.1 hpf i hi) j hj
    simpa using this
   have hck:∀ d,(∀ i∈fl,d i=true→∀ j∈pre i,d j=true)→(∃ i∈fl,d i=false)→Region.ready .any l.toArray (mkL d fl listed)≠[]∧∀ i∈Region.ready .any l.toArray (mkL d fl listed),i∈fl∧i<n2∧∀ j∈pre i,d j=true:=fun d hcl ⟨i,hi,hdi⟩=>by
    obtain ⟨d',h1,h2,_⟩:=aia fl _ hall d
    rw [Bool.or_eq_true,Bool.or_eq_true] at h1
    rcases h1 with (h1 | h1) | h1
    ·have:=List.all_eq_true.1 h1 i hi
     rw [h2 i hi,hdi] at this
     cases this
    ·exfalso
     rw [Bool.not_eq_true'] at h1
     refine absurd (List.all_eq_true.2 fun k hk=>?_) (Bool.eq_false_iff.1 h1)
     rw [Bool.or_eq_true]
     cases hdk:d k
     ·left
      rw [h2 k hk,hdk]
      rfl
     ·right
      exact List.all_eq_true.2 fun j hj=>by rw [h2 j (hin k hk j hj)];exact hcl k hk hdk j hj
    ·rw [q9 fl listed h2,Bool.and_eq_true] at h1
     refine ⟨fun e=>by rw [e] at h1;exact absurd h1.1 (by decide),fun j hj=>?_⟩
     have:=List.all_eq_true.1 h1.2 j hj
     rw [Bool.and_eq_true,Bool.and_eq_true] at this
     have hjl:j∈fl:=by simpa using this.1.1
     exact ⟨hjl,of_decide_eq_true this.1.2,fun k hk=>by rw [←h2 k (hin j hjl k hk)];exact List.all_eq_true.1 this.2 k hk⟩
   have HF:=wpHL_float2 (P:=P) (md:=.any) (ops:=l.toArray) (Q:=ag Q) (S:=S) (n:=n2) (m:=p2.len) (l:=fl) (B:=listed) (J:=J)
    (L:=fun listed' a' w'=>Region.seqB .any l.toArray (l.toArray.size-n2) n2 listed'=true∧wpList P l.toArray (ag Q) (l.drop n2) a' w')
    hnd hck hop (fun d a w hd inv hJ hS=>by
     have H2:=kR (P:=P) (ops:=l.toArray) (md:=.any) (Q:=ag Q) (S:=S) (n:=n2) (m:=0) (B:=Region.seqB .any l.toArray (l.toArray.size-n2) n2)
      (L:=fun listed' a' w'=>Region.seqB .any l.toArray (l.toArray.size-n2) n2 listed'=true∧wpList P l.toArray (ag Q) (l.drop n2) a' w')
      (Lq:=fun a'' w''=>wpList P l.toArray (ag Q) (l.drop n2) a'' w'')
      hsel hs hc hn' (fun c a w h=>h) hseq (fun listed a w hB hq=>⟨hB,hq⟩) p2 (mkL d fl listed) a w inv hS (by rw [q9 (d:=d) (d':=fun _=>true) fl listed hd];exact hp2) (hf d a w hd hJ hS)
     exact H2)
    fl.length (fun _=>false) a w (by simp) (fun i _ h=>by cases h) (by rw [e0];exact ais hhd) hJ0 hS0
   rw [e0] at HF
   exact HF) p1 _ a w.drew inv0 hS htk h
 have H2:=jT (g:=l.toArray.size-n2) (fun listed' a' w' hL=>by
  have:=wpAny_of_seq (md:=.any) (Q':=ag Q) (l.drop n2) n2 listed' a' w' (fun j=>by simp [List.getElem?_drop]) (by rw [hdl];exact hL.1) hL.2
  rwa [hdl] at this) _ _ _ _ H
 have hsz:p1.len+(fl.length+p2.len)+(l.toArray.size-n2)=l.toArray.size:=by
  have:l.toArray.size=l.length:=by simp
  omega
 rw [hsz] at H2
 exact H2
end Go.Proofs.YtglncfkoohgdaaaGreatDoor
