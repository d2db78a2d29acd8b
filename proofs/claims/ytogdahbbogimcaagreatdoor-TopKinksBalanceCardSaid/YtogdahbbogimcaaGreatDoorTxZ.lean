import Derived.Test.YtogdahbbogimcaaGreatDoorStillZ
import Derived.Test.YtogdahbbogimcaaGreatDoorPartsZ
set_option maxRecDepth 100000
set_option maxHeartbeats 4000000
namespace Go.Proofs.YtogdahbbogimcaaGreatDoor
open Go.RowKit Go.Shelf
open Go.Lib (decDigits itoa nDigits)
open Go.Lib (hid)
open Classical in
noncomputable def ratV (s:ByteArray):Rat:=if h:ratOk s.data.toList then h.choose else 0
theorem ratV_isR {s:ByteArray} (h:ratB s.data.toList=true):IsR s (ratV s):=by
 have h':=ratB_iff.1 h
 unfold ratV
 rw [dif_pos h']
 exact h'.choose_spec.1
theorem ratB_size {s:ByteArray} (h:ratB s.data.toList=true):s.size≤402:=by
 obtain ⟨q,h1,h2,h3⟩:=ratB_iff.1 h
 rw [Lib.size_eq,h1]
 have a1:=rlen_le q
 have a2:=(itoa_len_le q.num).2
 omega
theorem ratV_eq {s:ByteArray} {q:Rat} (hs:IsR s q) (h:ratB s.data.toList=true):ratV s=q:=by
 have h1:=ratV_isR h
 unfold IsR at h1 hs
 exact rtext_inj (h1.symm.trans hs)
theorem alloc_below (w:World) (o:Obj):Below w.heap.size w (w.alloc o):=(Below.refl _ _).alloc (Nat.le_refl _) _
theorem alloc_cells (w:World) (cs:Array Value) (t:TypeId) (i:Nat) (h:i<cs.size):(w.alloc (Obj.cells cs t)).cell? ⟨w.heap.size,i,none⟩=some cs[i]:=by
 rw [World.cell?_alloc_new];simp [h]
theorem cmpR_lt_iff (p q:Rat):decide (cmpR p q<0)=decide (p<q):=by
 rw [decide_eq_decide,←cmpR_lt]
 have:=cmpI_range (p.num*q.den) (q.num*p.den)
 unfold cmpR
 omega
theorem okText {s:ByteArray} (q:Rat) (h:s.data.toList=rtext q) (h1:q.num.natAbs<10 ^ 200) (h2:q.den<10 ^ 200):ratB s.data.toList=true∧ratV s=q:=by
 have hb:ratB s.data.toList=true:=ratB_iff.2 ⟨q,h,nDigits_le_of_lt h1 (by omega),nDigits_le_of_lt h2 (by omega)⟩
 exact ⟨hb,ratV_eq h hb⟩
theorem rtext_of {q:Rat} {n:Int} {d:Nat} (h1:q.num=n) (h2:q.den=d):rtext q=rjoin n d:=by unfold rtext;rw [h1,h2]
theorem rjoin_small {n d:Nat} (h1:n<10) (h2:d<10):rjoin (n:Int) d=if d=1 then [UInt8.ofNat (48+n)] else [UInt8.ofNat (48+n),47,UInt8.ofNat (48+d)]:=by
 unfold rjoin
 rw [itoa_nat,decDigits_small h1,decDigits_small h2]
 rfl
theorem rjoin_two {n:Nat} (h1:10≤n) (h2:n<100):rjoin (n:Int) 1=[UInt8.ofNat (48+n/10),UInt8.ofNat (48+n % 10)]:=by
 unfold rjoin
 rw [if_pos rfl,itoa_nat,decDigits_big h1,decDigits_small (by omega)]
 rfl
theorem dig_text (n:Nat) (h:n<10):rtext (n:Rat)=[UInt8.ofNat (48+n)]:=by
 rw [show ((n:Nat):Rat)=((n:Int):Rat) from rfl,rtext_int,itoa_nat,decDigits_small h]
theorem text0:rtext 0=[48]:=by have:=dig_text 0 (by decide);simpa using this
theorem text1:rtext 1=[49]:=by have:=dig_text 1 (by decide);simpa using this
theorem text2:rtext 2=[50]:=dig_text 2 (by decide)
theorem text3:rtext 3=[51]:=dig_text 3 (by decide)
theorem text4:rtext 4=[52]:=dig_text 4 (by decide)
theorem text5:rtext 5=[53]:=dig_text 5 (by decide)
theorem text12:rtext 12=[49,50]:=by
 rw [rtext_of (n:=((12:Nat):Int)) (d:=1) (by decide +kernel) (by decide +kernel),rjoin_two (by decide) (by decide)];decide
theorem text1_2:rtext (1/2)=[49,47,50]:=by
 rw [rtext_of (n:=((1:Nat):Int)) (d:=2) (by decide +kernel) (by decide +kernel),rjoin_small (by decide) (by decide)];decide
theorem okR (q:Rat) (h1:q.num.natAbs<10 ^ 200) (h2:q.den<10 ^ 200):ratB (rtext q)=true:=by
 have:=(okText (s:=⟨(rtext q).toArray⟩) q (by simp) h1 h2).1
 simpa using this
theorem two_cells {W:World} {B:Nat} {t:TypeId} {a b:Value} (h:W.heap[B]?=some (.cells #[a,b] t (0,0))):W.cell? ⟨B,0,none⟩=some a∧W.cell? ⟨B,1,none⟩=some b∧W.frozen? ⟨B,0,none⟩=false∧W.frozen? ⟨B,1,none⟩=false:=by
 refine ⟨by simp [World.cell?,h],by simp [World.cell?,h],by simp [World.frozen?,h],by simp [World.frozen?,h]⟩
theorem two_set0 {W:World} {B:Nat} {t:TypeId} {a b:Value} (v:Value) (h:W.heap[B]?=some (.cells #[a,b] t (0,0))):(W.setCell ⟨B,0,none⟩ v).heap[B]?=some (.cells #[v,b] t (0,0)):=by
 obtain ⟨hlt,hk⟩:=Array.getElem?_eq_some_iff.1 h
 show (W.heap.modify B _)[B]?=_
 rw [Array.getElem?_eq_getElem (by rw [Array.size_modify];exact hlt),Array.getElem_modify_self,hk]
 rfl
theorem two_set1 {W:World} {B:Nat} {t:TypeId} {a b:Value} (v:Value) (h:W.heap[B]?=some (.cells #[a,b] t (0,0))):(W.setCell ⟨B,1,none⟩ v).heap[B]?=some (.cells #[a,v] t (0,0)):=by
 obtain ⟨hlt,hk⟩:=Array.getElem?_eq_some_iff.1 h
 show (W.heap.modify B _)[B]?=_
 rw [Array.getElem?_eq_getElem (by rw [Array.size_modify];exact hlt),Array.getElem_modify_self,hk]
 rfl
theorem lt_of_some {W:World} {k:Nat} {o:Obj} (h:W.heap[k]?=some o):k<W.heap.size:=(Array.getElem?_eq_some_iff.1 h).1
theorem int_succ (k:Nat):Value.int .i64 ((k:Int)+1)=.int .i64 ((k+1:Nat):Int):=by simp
theorem isR_mk (q:Rat):IsR ⟨(rtext q).toArray⟩ q:=by unfold IsR;simp
theorem rlen_neg (q:Rat):(rtext (-q)).length≤(rtext q).length+1:=by
 by_cases h0:q=0
 ·rw [h0,Rat.neg_zero];omega
 ·by_cases h1:q<0
  ·rw [rtext_neg_tail h1];simp;omega
  ·rw [rtext_neg h0 h1];simp
theorem isR_sub_size {s t r:ByteArray} {p q:Rat} (h:IsR s p) (k:IsR t q) (hr:IsR r (p-q)):r.size≤2*(s.size+t.size)+6:=by
 rw [h.size,k.size,hr.size,Rat.sub_eq_add_neg]
 have:=rlen_add p (-q)
 have:=rlen_neg q
 omega
theorem isR_div_size {s t r:ByteArray} {p q:Rat} (h:IsR s p) (k:IsR t q) (hr:IsR r (p*q⁻¹)):r.size≤s.size+t.size+8:=by
 have h1:=isR_inv_size k (show IsR ⟨(rtext q⁻¹).toArray⟩ q⁻¹ by unfold IsR;simp)
 have h2:=isR_mul_size h (show IsR ⟨(rtext q⁻¹).toArray⟩ q⁻¹ by unfold IsR;simp) hr
 omega
theorem mkRat_bound (n:Int) (d:Nat) (hd:0<d):(mkRat n d).num.natAbs≤n.natAbs∧(mkRat n d).den≤d:=by
 rw [Rat.num_mkRat,Rat.den_mkRat,if_neg (by omega),if_neg (by omega)]
 refine ⟨?_,Nat.div_le_self _ _⟩
 rw [Int.natAbs_ediv_of_dvd (Int.ofNat_dvd_left.2 (by rw [Nat.gcd_comm];exact Nat.gcd_dvd_left _ _))]
 exact Nat.div_le_self _ _
def Fr (N D:Nat) (q:Rat):Prop:=q.num.natAbs≤N∧q.den≤D
abbrev tx (q:Rat):ByteArray:=⟨(rtext q).toArray⟩
theorem okR2 {q:Rat} {N D:Nat} (h:Fr N D q) (h1:N<10 ^ 200) (h2:D<10 ^ 200):ratB (tx q).data.toList=true∧ratV (tx q)=q:=
 okText q (by simp) (by have:=h.1;omega) (by have:=h.2;omega)
abbrev QP:=Rat × Rat
def Sz (n:Nat) (q:Rat):Prop:=(tx q).size≤n
theorem tx_len (q:Rat):(tx q).size=(rtext q).length:=(isR_mk q).size
theorem Sz.mono {m n:Nat} {q:Rat} (h:Sz m q) (hn:m≤n):Sz n q:=Nat.le_trans h hn
theorem Sz.add {m n:Nat} {p q:Rat} (h:Sz m p) (k:Sz n q):Sz (2*(m+n)+4) (p+q):=by
 have:=rlen_add p q
 unfold Sz at *
 rw [tx_len] at *
 omega
theorem Sz.mul {m n:Nat} {p q:Rat} (h:Sz m p) (k:Sz n q):Sz (m+n+4) (p*q):=by
 have:=rlen_mul p q
 unfold Sz at *
 rw [tx_len] at *
 omega
theorem Sz.neg {m:Nat} {p:Rat} (h:Sz m p):Sz (m+1) (-p):=by
 have:=rlen_neg p
 unfold Sz at *
 rw [tx_len] at *
 omega
theorem Sz.sub {m n:Nat} {p q:Rat} (h:Sz m p) (k:Sz n q):Sz (2*(m+n)+6) (p-q):=by
 have:=isR_sub_size (s:=tx p) (t:=tx q) (r:=tx (p-q)) (isR_mk p) (isR_mk q) (isR_mk (p-q))
 unfold Sz at *
 omega
theorem Sz.div {m n:Nat} {p q:Rat} (h:Sz m p) (k:Sz n q):Sz (m+n+8) (p*q⁻¹):=by
 have:=isR_div_size (s:=tx p) (t:=tx q) (r:=tx (p*q⁻¹)) (isR_mk p) (isR_mk q) (isR_mk (p*q⁻¹))
 unfold Sz at *
 omega
def RV (v:Value) (w:World) (e:Ending) (w':World):Prop:=e=.returned v∧Below w.heap.size w w'
theorem k_add (p q:Rat) (hp:Sz 1000000000 p) (hq:Sz 1000000000 q) (w:World) (hw:Good w):Calls Tryz.prog 52 #[.string (tx p),.string (tx q)] w (RV (.string (tx (p+q))) w):=
 (rational_Add (tx p) (tx q) p q (isR_mk p) (isR_mk q) hp hq w hw).mono fun e w' ⟨r,he,hr,hb⟩=>⟨by rw [he,hr.unique (isR_mk (p+q))],hb⟩
theorem k_mul (p q:Rat) (hp:Sz 1000000000 p) (hq:Sz 1000000000 q) (w:World) (hw:Good w):Calls Tryz.prog 10 #[.string (tx p),.string (tx q)] w (RV (.string (tx (p*q))) w):=
 (rational_Mul (tx p) (tx q) p q (isR_mk p) (isR_mk q) hp hq w hw).mono fun e w' ⟨r,he,hr,hb⟩=>⟨by rw [he,hr.unique (isR_mk (p*q))],hb⟩
theorem k_sub (p q:Rat) (hp:Sz 999999999 p) (hq:Sz 999999999 q) (w:World) (hw:Good w):Calls Tryz.prog 27 #[.string (tx p),.string (tx q)] w (RV (.string (tx (p-q))) w):=
 (rational_Sub (tx p) (tx q) p q (isR_mk p) (isR_mk q) hp hq w hw).mono fun e w' ⟨r,he,hr,hb⟩=>⟨by rw [he,hr.unique (isR_mk (p-q))],hb⟩
theorem k_neg (p:Rat) (hp:Sz 1000000000 p) (w:World):Calls Tryz.prog 54 #[.string (tx p)] w (RV (.string (tx (-p))) w):=
 (rational_Neg (tx p) p (isR_mk p) (Nat.le_trans hp (by decide)) w).mono fun e w' ⟨r,he,hr,_,hb⟩=>⟨by rw [he,hr.unique (isR_mk (-p))],hb ▸ Below.refl _ _⟩
theorem k_div (p q:Rat) (h0:q≠0) (hp:Sz 900000000 p) (hq:Sz 900000000 q) (w:World) (hw:Good w):Calls Tryz.prog 109 #[.string (tx p),.string (tx q)] w (RV (.tuple #[.string (tx (p*q⁻¹)),.int .i64 0]) w):=
 (rational_Div (tx p) (tx q) p q (isR_mk p) (isR_mk q) h0 hp hq w hw).mono fun e w' ⟨r,he,hr,hb⟩=>⟨by rw [he,hr.unique (isR_mk (p*q⁻¹))],hb⟩
def ptV (p:QP):Value:=.agg #[.string (tx p.1),.string (tx p.2)]
def Sz2 (n:Nat) (p:QP):Prop:=Sz n p.1∧Sz n p.2
theorem Sz2.mono {m n:Nat} {p:QP} (h:Sz2 m p) (hn:m≤n):Sz2 n p:=⟨h.1.mono hn,h.2.mono hn⟩
theorem boxes2 {w wA:World} {a b c d:Value} {t:TypeId} (hwA:wA=(w.alloc (Obj.cells #[a,b] t)).alloc (Obj.cells #[c,d] t)) :
  Below w.heap.size w wA∧wA.heap[w.heap.size]?=some (.cells #[a,b] t (0,0))∧wA.heap[w.heap.size+1]?=some (.cells #[c,d] t (0,0)):=by
 have e1:=World.alloc_heap_new w (Obj.cells #[a,b] t)
 have e2:=World.alloc_heap_new (w.alloc (Obj.cells #[a,b] t)) (Obj.cells #[c,d] t)
 have hb:=alloc_below (w.alloc (Obj.cells #[a,b] t)) (Obj.cells #[c,d] t)
 rw [hwA]
 refine ⟨(alloc_below _ _).trans (hb.mono (by simp)),?_,by simpa using e2⟩
 rw [hb.block _ (by simp)]
 exact e1
theorem boxes3 {w wA:World} {a b c d e f:Value} {t:TypeId} (hwA:wA=((w.alloc (Obj.cells #[a,b] t)).alloc (Obj.cells #[c,d] t)).alloc (Obj.cells #[e,f] t)) :
  Below w.heap.size w wA∧wA.heap[w.heap.size]?=some (.cells #[a,b] t (0,0))∧wA.heap[w.heap.size+1]?=some (.cells #[c,d] t (0,0))∧wA.heap[w.heap.size+1+1]?=some (.cells #[e,f] t (0,0)):=by
 obtain ⟨b1,e1,e2⟩:=boxes2 (w:=w) (a:=a) (b:=b) (c:=c) (d:=d) (t:=t) rfl
 have e3:=World.alloc_heap_new ((w.alloc (Obj.cells #[a,b] t)).alloc (Obj.cells #[c,d] t)) (Obj.cells #[e,f] t)
 have hb:=alloc_below ((w.alloc (Obj.cells #[a,b] t)).alloc (Obj.cells #[c,d] t)) (Obj.cells #[e,f] t)
 rw [hwA]
 refine ⟨b1.trans (hb.mono b1.size),?_,?_,by simpa using e3⟩
 ·rw [hb.block _ (by simp;omega)];exact e1
 ·rw [hb.block _ (by simp)];exact e2
theorem lt_of_blk {w:World} {b:Nat} {o:Obj} (h:w.heap[b]?=some o):b<w.heap.size:=(Array.getElem?_eq_some_iff.1 h).1
theorem tx1:tx 1=⟨#[49]⟩:=by show (⟨(rtext 1).toArray⟩ : ByteArray)=_;rw [text1]
theorem tx0:tx 0=⟨#[48]⟩:=by show (⟨(rtext 0).toArray⟩ : ByteArray)=_;rw [text0]
theorem txm1:tx (-1)=⟨#[45,49]⟩:=by show (⟨(rtext (-1)).toArray⟩ : ByteArray)=_;rw [rtext_neg (by decide +kernel) (by decide +kernel),text1]
def OkB (q:Rat):Prop:=ratB (tx q).data.toList=true
theorem OkB.sz {q:Rat} (h:OkB q):Sz 402 q:=ratB_size h
theorem k_check (q:Rat) (h:OkB q) (w:World) (hw:Good w):Calls Tryz.prog 30 #[.string (tx q)] w (RV (.int .i64 0) w):=by
 have hs:=h.sz
 unfold Sz at hs
 have:=rational_Check (tx q) (by omega) w hw
 unfold RChkPost at this
 rw [show ratB (tx q).data.toList=true from h] at this
 exact this
def Txs (w:World) (v:Value) (C:List Rat):Prop:=∃ b c,v=.slice (some ⟨b,0,none⟩) C.length c∧C.length≤c∧c≤maxLen∧b<w.heap.size∧∀ i (h:i<C.length),w.cell? ⟨b,i,none⟩=some (.string (tx C[i]))
theorem Txs.below {w w':World} {v:Value} {C:List Rat} (h:Txs w v C) (hb:Below w.heap.size w w'):Txs w' v C:=by
 obtain ⟨b,c,h1,h2,h3,h4,h5⟩:=h
 exact ⟨b,c,h1,h2,h3,Nat.lt_of_lt_of_le h4 hb.size,fun i hi=>(hb.cell (p:=⟨b,i,none⟩) h4).trans (h5 i hi)⟩
theorem txs_two (a b:Rat) (w:World):Txs (w.alloc (Obj.cells #[.string (tx a),.string (tx b)] 28)) (.slice (some ⟨w.heap.size,0,none⟩) 2 2) [a,b]:=by
 refine ⟨_,_,rfl,Nat.le_refl _,by decide,by simp,fun i hi=>?_⟩
 match i,hi with
 | 0,_=>exact alloc_cells w #[_,_] _ 0 (by simp)
 | 1,_=>exact alloc_cells w #[_,_] _ 1 (by simp)
theorem vec_numbers (v:Value) (C:List Rat) (hC:∀ c∈C,OkB c) (w:World) (hw:Good w) (hv:Txs w v C) (hl:C.length≤1000) :
  Calls Tryz.prog 86 #[v] w (RV (.int .i64 0) w):=by
 obtain ⟨b,c,rfl,hcn,hcm,hbl,hcell⟩:=hv
 have HCK:=hid (fun i (h:i<C.length) w' (hg:Good w')=>k_check C[i] (hC _ (List.getElem_mem h)) w' hg)
 unfold RV at HCK
 have hbw:=Below.refl w.heap.size w
 clear hC
 go_enter Tryz.func86,Tryz.ntmps86
 go_wp2_with fail
 go_loopw [2,4,5,8] (fun _ _ _ iv wr=>∃ k:Nat,k≤C.length∧iv=.int .i64 (k:Int)∧Below w.heap.size w wr) (fun _ _ _ iv _=>C.length-(intOf iv).toNat)
 case atStart=>exact ⟨0,Nat.zero_le _,rfl,hbw⟩
 case round =>
  obtain ⟨k,hkl,rfl,hbr⟩:=hrel
  by_cases hk:k<C.length
  ·have c0:=hcell k hk
   rw [←hbr.cell (p:=⟨b,k,none⟩) hbl] at c0
   have hkn:decide ((k:Int)<(C.length:Int))=true:=decide_eq_true (by omega)
   have i1:(0:Int)≤(k:Int):=by omega
   have i2:(k:Int)<(C.length:Int):=by omega
   have H1:=hid (HCK.out k hk)
   generalize tx C[k]=t at *
   go_wp2_with fail
   refine (H1.out _ (hw.below hbr)).mono ?_
   rintro e w1 ⟨rfl,hb1⟩
   go_wp2
   refine ⟨⟨k+1,hk,int_succ k,hbr.trans (hb1.mono hbr.size)⟩,?_⟩
   show C.length-((k:Int)+1).toNat<C.length-((k:Int)).toNat
   omega
  ·have hkn:decide ((k:Int)<(C.length:Int))=false:=decide_eq_false (by omega)
   go_wp2
   go_ret
   exact ⟨rfl,hbr⟩
def absQ (q:Rat):Rat:=if q<0 then -q else q
def sumR (C:List Rat):Rat:=C.foldl (· + ·) 0
theorem sumR_snoc (C:List Rat) (q:Rat):sumR (C ++ [q])=sumR C+q:=by unfold sumR;rw [List.foldl_append];rfl
theorem rat_Sum (v:Value) (C:List Rat) (hC:∀ c∈C,Sz 500000000 c) (hS:∀ k,k≤C.length→Sz 500000000 (sumR (C.take k))) (w:World) (hw:Good w) (hv:Txs w v C) :
  Calls Tryz.prog 24 #[v] w (RV (.string (tx (sumR C))) w):=by
 obtain ⟨b,c,rfl,hcn,hcm,hbl,hcell⟩:=hv
 have hcm':C.length≤9223372036854775807:=by unfold maxLen at hcm;omega
 have HAD:=hid (fun i (h:i<C.length) w' (hg:Good w')=>k_add (sumR (C.take i)) C[i] ((hS i (by omega)).mono (by decide)) ((hC _ (List.getElem_mem h)).mono (by decide)) w' hg)
 have HNX:=hid (fun i (h:i<C.length)=>show sumR (C.take i)+C[i]=sumR (C.take (i+1)) by rw [List.take_succ_eq_append_getElem h,sumR_snoc])
 unfold RV at HAD
 have HT0:=hid (show (⟨#[48]⟩ : ByteArray)=tx (sumR (C.take 0)) by rw [List.take_zero];exact tx0.symm)
 have HFN:=hid (show sumR (C.take C.length)=sumR C by rw [List.take_length])
 have hbw:=Below.refl w.heap.size w
 clear hC hS
 go_enter Tryz.func24,Tryz.ntmps24
 go_wp2_with fail
 go_loopw [3,5,8] (fun sv _ iv wr=>∃ (k:Nat) (s:ByteArray),k≤C.length∧s=tx (sumR (C.take k))∧sv=.string s∧iv=.int .i64 (k:Int)∧Below w.heap.size w wr) (fun _ _ iv _=>C.length-(intOf iv).toNat)
 case atStart=>exact ⟨0,_,Nat.zero_le _,HT0.out,rfl,rfl,hbw⟩
 case round =>
  obtain ⟨k,s,hkl,hs,rfl,rfl,hbr⟩:=hrel
  have HS:=hid hs
  clear hs
  by_cases hk:k<C.length
  ·have c0:=hcell k hk
   rw [←hbr.cell (p:=⟨b,k,none⟩) hbl] at c0
   have hkn:decide ((k:Int)<(C.length:Int))=true:=decide_eq_true (by omega)
   have i1:(0:Int)≤(k:Int):=by omega
   have i2:(k:Int)<(C.length:Int):=by omega
   have H1:=hid (HAD.out k hk)
   have HN:=hid (HNX.out k hk)
   rw [←HS.out,HN.out] at H1
   generalize tx C[k]=t at *
   obtain ⟨s2,hs2⟩ : ∃ s2,s2=tx (sumR (C.take (k+1))):=⟨_,rfl⟩
   rw [←hs2] at H1
   have HS2:=hid hs2
   clear hs2
   go_wp2_with fail
   refine (H1.out _ (hw.below hbr)).mono ?_
   rintro e w1 ⟨rfl,hb1⟩
   go_wp2
   refine ⟨⟨k+1,s2,hk,HS2.out,rfl,int_succ k,hbr.trans (hb1.mono hbr.size)⟩,?_⟩
   show C.length-((k:Int)+1).toNat<C.length-((k:Int)).toNat
   omega
  ·have hkn:decide ((k:Int)<(C.length:Int))=false:=decide_eq_false (by omega)
   have hkz:k=C.length:=by omega
   have HR:=hid (show s=tx (sumR C) by rw [HS.out,hkz,HFN.out])
   clear hkz
   go_wp2
   go_ret
   exact ⟨by rw [←HR.out];rfl,hbr⟩
theorem k_cmp (p q:Rat) (hp:Sz 1000000000 p) (hq:Sz 1000000000 q) (w:World) (hw:Good w):Calls Tryz.prog 22 #[.string (tx p),.string (tx q)] w (RV (.int .i64 (cmpR p q)) w):=
 rational_Compare (tx p) (tx q) p q (isR_mk p) (isR_mk q) hp hq w hw
theorem cell_one_new (w:World) (a:Value) (t:TypeId):∀ (j:Nat) (u:Value),[a][j]?=some u→(w.alloc (.cells #[a] t)).cell? ((⟨w.heap.size,0,none⟩ : Addr).add j)=some u:=by
 intro j u hj
 rw [adr_add,World.cell?_alloc_new]
 simpa using hj
theorem slTx:SliceOf 31 28 (.string ⟨#[]⟩) 1 16:=⟨Tryz.underlying31,by kernel_rfl,rfl,by decide⟩
theorem set_block {W:World} {B i:Nat} {cs:Array Value} {t:TypeId} {fz:Nat × Nat} (v:Value) (h:W.heap[B]?=some (.cells cs t fz)):(W.setCell ⟨B,i,none⟩ v).heap[B]?=some (.cells (cs.setIfInBounds i v) t fz):=by
 obtain ⟨hlt,hk⟩:=Array.getElem?_eq_some_iff.1 h
 show (W.heap.modify B _)[B]?=_
 rw [Array.getElem?_eq_getElem (by rw [Array.size_modify];exact hlt),Array.getElem_modify_self,hk]
 rfl
theorem four_cells {W:World} {B:Nat} {t:TypeId} {a b c d:Value} (h:W.heap[B]?=some (.cells #[a,b,c,d] t (0,0))) :
  W.cell? ⟨B,0,none⟩=some a∧W.cell? ⟨B,1,none⟩=some b∧W.cell? ⟨B,2,none⟩=some c∧W.cell? ⟨B,3,none⟩=some d:=by
 refine ⟨?_,?_,?_,?_⟩ <;> simp [World.cell?,h]
theorem four_free {W:World} {B:Nat} {t:TypeId} {a b c d:Value} (h:W.heap[B]?=some (.cells #[a,b,c,d] t (0,0))) :
  W.frozen? ⟨B,0,none⟩=false∧W.frozen? ⟨B,1,none⟩=false∧W.frozen? ⟨B,2,none⟩=false∧W.frozen? ⟨B,3,none⟩=false:=by
 refine ⟨?_,?_,?_,?_⟩ <;> simp [World.frozen?,h]
abbrev Pair:=ByteArray × ByteArray
def Pairs (w:World) (v:Value) (L:List Pair):Prop:=
 ∃ p c,v=.slice p L.length c∧L.length≤c∧c≤maxLen∧(0<L.length→∃ b off,p=some ⟨b,off,none⟩∧b<w.heap.size∧∀ i (h:i<L.length),w.cell? ⟨b,off+i*2,none⟩=some (.string L[i].1)∧w.cell? ⟨b,off+i*2+1,none⟩=some (.string L[i].2))
theorem Pairs.below {w w':World} {v:Value} {L:List Pair} (h:Pairs w v L) (hb:Below w.heap.size w w'):Pairs w' v L:=by
 obtain ⟨p,c,hv,hc,hm,hx⟩:=h
 refine ⟨p,c,hv,hc,hm,fun h0=>?_⟩
 obtain ⟨b,off,hp,hbl,hcell⟩:=hx h0
 refine ⟨b,off,hp,Nat.lt_of_lt_of_le hbl hb.size,fun i hi=>?_⟩
 rw [hb.cell (p:=⟨b,off+i*2,none⟩) hbl,hb.cell (p:=⟨b,off+i*2+1,none⟩) hbl]
 exact hcell i hi
def textP (p:QP):Pair:=(tx p.1,tx p.2)
def cellsS (L:List Pair):List Value:=L.flatMap fun p=>[.string p.1,.string p.2]
theorem cellsS_len (L:List Pair):(cellsS L).length=L.length*2:=by
 induction L with
 | nil=>rfl
 | cons p r ih=>unfold cellsS at *; rw [List.flatMap_cons,List.length_append,ih,List.length_cons];simp;omega
theorem cellsS_snoc (L:List Pair) (p:Pair):cellsS (L ++ [p])=cellsS L ++ [.string p.1,.string p.2]:=by unfold cellsS;simp
theorem cellsS_get:∀ (L:List Pair) (i:Nat) (hi:i<L.length) (j:Nat) (hj:j<2),(cellsS L)[i*2+j]?=some ([Value.string L[i].1,.string L[i].2][j])
 | [],i,hi,_,_=>by simp at hi
 | q :: r,0,_,j,hj=>by
  unfold cellsS
  rw [List.flatMap_cons,List.getElem?_append_left (by simp;omega)]
  simp only [Nat.zero_mul,Nat.zero_add,List.getElem_cons_zero]
  rw [List.getElem?_eq_getElem (by simpa using hj)]
 | q :: r,i+1,hi,j,hj=>by
  unfold cellsS
  rw [List.flatMap_cons,List.getElem?_append_right (by simp;omega)]
  have:=cellsS_get r i (by simpa using hi) j hj
  unfold cellsS at this
  rw [show (i+1)*2+j - [Value.string q.1,.string q.2].length=i*2+j by simp;omega]
  simpa using this
theorem pairs_of_cells {w:World} {base:Nat} {e:TypeId} {v:Value} {L:List Pair} (h:w.ownsRow base e 2 v L.length (cellsS L)):Pairs w v L:=by
 obtain ⟨_,p,c,rfl,hc,hm,hx⟩:=Reads.of_owns h
 refine ⟨p,c,rfl,hc,hm,fun h0=>?_⟩
 obtain ⟨b,off,hp,hbl,hcell⟩:=hx h0
 refine ⟨b,off,hp,hbl,fun i hi=>?_⟩
 have hl:=cellsS_len L
 have go:∀ j (hj:j<2),w.cell? ⟨b,off+(i*2+j),none⟩=some ([Value.string L[i].1,.string L[i].2][j]):=by
  intro j hj
  have h1:=hcell (i*2+j) (by omega)
  rw [h1,←cellsS_get L i hi j hj,List.getElem?_eq_getElem]
 exact ⟨go 0 (by decide),go 1 (by decide)⟩
theorem tx_of {q:Rat} {l:List UInt8} (h:rtext q=l):tx q=⟨l.toArray⟩:=by show (⟨(rtext q).toArray⟩ : ByteArray)=_;rw [h]
theorem tx_half:tx (1/2)=⟨#[49,47,50]⟩:=tx_of text1_2
theorem tx_3:tx 3=⟨#[51]⟩:=tx_of text3
theorem tx_4:tx 4=⟨#[52]⟩:=tx_of text4
theorem tx_5:tx 5=⟨#[53]⟩:=tx_of text5
theorem okB_of {q:Rat} {N D:Nat} (h:q.num.natAbs≤N∧q.den≤D) (h1:N<10 ^ 200) (h2:D<10 ^ 200):OkB q:=(okR2 (show Fr N D q from h) h1 h2).1
end Go.Proofs.YtogdahbbogimcaaGreatDoor
namespace Go.Proofs.YtogdahbbogimcaaGreatDoor
open Go.RowKit
open Go.Lib (decDigits itoa nDigits)
open Go.Lib (hid)
theorem rational_Middle (a b:ByteArray) (p q:Rat) (ha:IsR a p) (hb:IsR b q) (hsa:a.size≤200000000) (hsb:b.size≤200000000) (w:World) (hw:Good w) :
  Calls Tryz.prog 23 #[.string a,.string b] w fun e w'=>∃ r:ByteArray,e=.returned (.string r)∧IsR r ((p+q)*(1/2))∧Below w.heap.size w w':=by
 have HA:=hid ha
 have HB:=hid hb
 clear ha hb
 go_enter Tryz.func23,Tryz.ntmps23
 go_wp2_with fail
 refine (rational_Add a b p q HA.out HB.out (by omega) (by omega) _ hw).mono ?_
 rintro e w1 ⟨c,rfl,hc,hb1⟩
 have hcs:=isR_add_size HA.out HB.out hc
 have HC:=hid hc
 clear hc
 go_wp2_with fail
 refine (rational_Mul c _ (p+q) (1/2) HC.out isR_half (by omega) (by decide) _ (hw.below hb1)).mono ?_
 rintro e w2 ⟨r,rfl,hr,hb2⟩
 have HR:=hid hr
 clear hr
 go_wp2
 go_ret
 exact ⟨_,rfl,HR.out,hb1.trans (hb2.mono hb1.size)⟩
end Go.Proofs.YtogdahbbogimcaaGreatDoor
namespace Go.Proofs.YtogdahbbogimcaaGreatDoor
open Go.RowKit Go.Shelf
open Go.Lib (decDigits itoa nDigits)
theorem Fr.mono {N D N' D':Nat} {q:Rat} (h:Fr N D q) (h1:N≤N') (h2:D≤D'):Fr N' D' q:=⟨Nat.le_trans h.1 h1,Nat.le_trans h.2 h2⟩
theorem Fr.mkRat {n:Int} {d N D:Nat} (hd:0<d) (hn:n.natAbs≤N) (hD:d≤D):Fr N D (mkRat n d):=
 ⟨Nat.le_trans (mkRat_bound n d hd).1 hn,Nat.le_trans (mkRat_bound n d hd).2 hD⟩
theorem abs_mul_le {a b:Int} {A B:Nat} (ha:a.natAbs≤A) (hb:b.natAbs≤B):(a*b).natAbs≤A*B:=by
 rw [Int.natAbs_mul];exact Nat.mul_le_mul ha hb
theorem Fr.add {N1 D1 N2 D2:Nat} {p q:Rat} (h:Fr N1 D1 p) (k:Fr N2 D2 q):Fr (N1*D2+N2*D1) (D1*D2) (p+q):=by
 rw [Rat.add_def']
 refine Fr.mkRat (Nat.mul_pos p.den_pos q.den_pos) ?_ (Nat.mul_le_mul h.2 k.2)
 have h1:=abs_mul_le (a:=p.num) (b:=(q.den:Int)) h.1 (B:=D2) (by simpa using k.2)
 have h2:=abs_mul_le (a:=q.num) (b:=(p.den:Int)) k.1 (B:=D1) (by simpa using h.2)
 omega
theorem Fr.sub {N1 D1 N2 D2:Nat} {p q:Rat} (h:Fr N1 D1 p) (k:Fr N2 D2 q):Fr (N1*D2+N2*D1) (D1*D2) (p-q):=by
 rw [Rat.sub_def']
 refine Fr.mkRat (Nat.mul_pos p.den_pos q.den_pos) ?_ (Nat.mul_le_mul h.2 k.2)
 have h1:=abs_mul_le (a:=p.num) (b:=(q.den:Int)) h.1 (B:=D2) (by simpa using k.2)
 have h2:=abs_mul_le (a:=q.num) (b:=(p.den:Int)) k.1 (B:=D1) (by simpa using h.2)
 omega
theorem Fr.mul {N1 D1 N2 D2:Nat} {p q:Rat} (h:Fr N1 D1 p) (k:Fr N2 D2 q):Fr (N1*N2) (D1*D2) (p*q):=by
 rw [Rat.mul_def']
 exact Fr.mkRat (Nat.mul_pos p.den_pos q.den_pos) (abs_mul_le h.1 k.1) (Nat.mul_le_mul h.2 k.2)
theorem div_mkRat (p q:Rat) (hq:0<q.num):p*q⁻¹=mkRat (p.num*q.den) (p.den*q.num.natAbs):=by
 have h0:q≠0:=by rintro rfl;simp at hq
 have e:q⁻¹=mkRat q.den q.num.natAbs:=by
  have hn:q.num=((q.num.natAbs:Nat):Int):=by omega
  rw [Rat.inv_def]
  generalize q.num.natAbs=k at hn
  rw [hn]
  exact Rat.divInt_ofNat _ _
 rw [e]
 have:=Rat.mkRat_mul_mkRat p.num (q.den:Int) p.den q.num.natAbs
 rw [Rat.mkRat_self] at this
 exact this
theorem Fr.div {N1 D1 N2 D2:Nat} {p q:Rat} (h:Fr N1 D1 p) (k:Fr N2 D2 q) (hq:0<q.num):Fr (N1*D2) (D1*N2) (p*q⁻¹):=by
 rw [div_mkRat p q hq]
 exact Fr.mkRat (Nat.mul_pos p.den_pos (by omega)) (abs_mul_le h.1 (by simpa using k.2)) (Nat.mul_le_mul h.2 k.1)
theorem sgnR_nonneg (q:Rat):decide (0≤sgnR q)=decide (0≤q):=by
 rw [decide_eq_decide]
 unfold sgnR
 by_cases h:q.num<0
 ·rw [sgn_neg h]
  have:q<0:=num_neg_iff.2 h
  constructor
  ·intro h2;omega
  ·intro h2;exact absurd this (Rat.not_lt.2 h2)
 ·have hq:¬ q<0:=fun h2=>h (num_neg_iff.1 h2)
  have h3:0≤q:=Rat.not_lt.1 hq
  constructor
  ·intro _;exact h3
  ·intro _
   rcases Int.lt_or_le 0 q.num with h4 | h4
   ·rw [sgn_pos h4];decide
   ·rw [sgn_zero (by omega)];exact Int.le_refl _
theorem owns_base {w:World} {b1 b2:Nat} {e:TypeId} {size n:Nat} {v:Value} {xs:List Value} (h:w.ownsRow b2 e size v n xs) (hb:b1≤b2):w.ownsRow b1 e size v n xs:=by
 refine ⟨h.1,?_⟩
 rcases h.2 with h2 | ⟨g,cap,cur,hv,hg,r⟩
 ·exact .inl h2
 ·exact .inr ⟨g,cap,cur,hv,Nat.le_trans hb hg,r⟩
abbrev Duo:=Int × Int
def okDuo (d:Duo):Prop:=-128≤d.1∧d.1≤127 ∧ -128≤d.2∧d.2≤127
def Duos (w:World) (v:Value) (D:List Duo):Prop:=
 ∃ p c,v=.slice p D.length c∧D.length≤c∧c≤maxLen∧(0<D.length→∃ b off,p=some ⟨b,off,none⟩∧b<w.heap.size∧∀ i (h:i<D.length),okDuo D[i]∧w.cell? ⟨b,off+i*2,none⟩=some (.int .i8 D[i].1)∧w.cell? ⟨b,off+i*2+1,none⟩=some (.int .i8 D[i].2))
theorem Duos.below {w w':World} {v:Value} {D:List Duo} (h:Duos w v D) (hb:Below w.heap.size w w'):Duos w' v D:=by
 obtain ⟨p,c,hv,hc,hm,hx⟩:=h
 refine ⟨p,c,hv,hc,hm,fun h0=>?_⟩
 obtain ⟨b,off,hp,hbl,hcell⟩:=hx h0
 refine ⟨b,off,hp,Nat.lt_of_lt_of_le hbl hb.size,fun i hi=>?_⟩
 rw [hb.cell (p:=⟨b,off+i*2,none⟩) hbl,hb.cell (p:=⟨b,off+i*2+1,none⟩) hbl]
 exact hcell i hi
theorem Duos.ok {w:World} {v:Value} {D:List Duo} (h:Duos w v D):∀ d∈D,okDuo d:=by
 intro d hd
 obtain ⟨i,hi,rfl⟩:=List.mem_iff_getElem.1 hd
 obtain ⟨p,c,_,_,_,hx⟩:=h
 obtain ⟨b,off,_,_,hcell⟩:=hx (by omega)
 exact (hcell i hi).1
theorem getD_eq {D:List Duo} {j:Nat} (h:j<D.length):D.getD j (0,0)=D[j]:=by simp [List.getD,List.getElem?_eq_getElem h]
theorem cell_four_new (w:World) (a b c d:Value) (t:TypeId):∀ (j:Nat) (u:Value),[a,b,c,d][j]?=some u→(w.alloc (.cells #[a,b,c,d] t)).cell? ((⟨w.heap.size,0,none⟩ : Addr).add j)=some u:=by
 intro j u hj
 rw [adr_add,World.cell?_alloc_new]
 simpa using hj
theorem rat_le_or (a b:Rat):a≤b∨b<a:=by
 by_cases h:a≤b
 ·exact .inl h
 ·exact .inr (Rat.not_le.1 h)
end Go.Proofs.YtogdahbbogimcaaGreatDoor
