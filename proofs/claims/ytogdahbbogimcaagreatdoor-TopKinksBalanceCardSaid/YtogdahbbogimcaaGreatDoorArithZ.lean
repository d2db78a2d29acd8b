import Derived.Test.YtogdahbbogimcaaGreatDoorOpenZ
import Derived.Test.YtogdahbbogimcaaGreatDoorU64Z
import Derived.Deep.RegionHeld3
set_option maxRecDepth 100000
set_option maxHeartbeats 1000000
namespace Go.Proofs.YtogdahbbogimcaaGreatDoor
open Go.RowKit
open Go.Lib (decDigits itoa nDigits)
open Go.Lib (hid)
theorem pcs_len_size {s:ByteArray} {n:Int} (h:IsI s n):(pcs n.natAbs).length≤s.size:=by
 have h1:n.natAbs<10 ^ s.size:=natAbs_lt_of_itoa_length (by rw [h.size];exact Nat.le_refl _)
 exact pcs_len_lt (Nat.lt_of_lt_of_le h1 (Nat.pow_le_pow_left (by decide) _))
theorem pcs_len_mul (m n:Nat):(pcs (m*n)).length≤(pcs m).length+(pcs n).length:=by
 have h1:=lt_of_pcs_len m
 have h2:=lt_of_pcs_len n
 refine pcs_len_lt ?_
 rw [Nat.pow_add]
 exact Nat.mul_lt_mul'' h1 h2
theorem pcs_len_add (m n:Nat):(pcs (m+n)).length≤(pcs m).length+(pcs n).length+1:=by
 have h1:=lt_of_pcs_len m
 have h2:=lt_of_pcs_len n
 refine pcs_len_lt ?_
 have e1:1000000000 ^ (pcs m).length≤1000000000 ^ ((pcs m).length+(pcs n).length):=Nat.pow_le_pow_right (by decide) (by omega)
 have e2:1000000000 ^ (pcs n).length≤1000000000 ^ ((pcs m).length+(pcs n).length):=Nat.pow_le_pow_right (by decide) (by omega)
 rw [Nat.pow_succ]
 omega
def NumBlk (w:World) (k:Nat) (neg:Bool) (p:Value):Prop:=w.cell? ⟨k,0,none⟩=some (.bool neg)∧w.cell? ⟨k,1,none⟩=some p
theorem mul_int {x y:Int} (hx:x.natAbs<10 ^ 9) (hy:y.natAbs<10 ^ 9):-9223372036854775808≤x*y∧x*y≤9223372036854775807:=by
 have h:(x*y).natAbs≤999999999*999999999:=by rw [Int.natAbs_mul];exact Nat.mul_le_mul (by omega) (by omega)
 omega
theorem signed_mul (m n:Int):signedOf (decide (m<0) != decide (n<0)) (m.natAbs*n.natAbs)=m*n:=by
 have e:((m.natAbs*n.natAbs:Nat):Int)=(m.natAbs:Int)*(n.natAbs:Int):=Int.natCast_mul _ _
 unfold signedOf
 rw [e]
 rcases Int.lt_or_le m 0 with h | h <;> rcases Int.lt_or_le n 0 with k | k
 ·have e1:(m.natAbs:Int) = -m:=by omega
  have e2:(n.natAbs:Int) = -n:=by omega
  rw [e1,e2];simp [h,k,Int.neg_mul_neg]
 ·have e1:(m.natAbs:Int) = -m:=by omega
  have e2:(n.natAbs:Int)=n:=by omega
  have k':¬ n<0:=by omega
  rw [e1,e2];simp [h,k',Int.neg_mul]
 ·have e1:(m.natAbs:Int)=m:=by omega
  have e2:(n.natAbs:Int) = -n:=by omega
  have h':¬ m<0:=by omega
  rw [e1,e2];simp [h',k,Int.mul_neg]
 ·have e1:(m.natAbs:Int)=m:=by omega
  have e2:(n.natAbs:Int)=n:=by omega
  have h':¬ m<0:=by omega
  have k':¬ n<0:=by omega
  rw [e1,e2];simp [h',k']
theorem two_blocks {w wA:World} {a b c d:Value} (h:wA=(w.alloc (Obj.cells #[a,b] 114)).alloc (Obj.cells #[c,d] 114)) :
  wA.cell? ⟨w.heap.size,0,none⟩=some a∧wA.cell? ⟨w.heap.size,1,none⟩=some b∧wA.cell? ⟨w.heap.size+1,0,none⟩=some c∧wA.cell? ⟨w.heap.size+1,1,none⟩=some d∧w.heap.size+2≤wA.heap.size∧Below w.heap.size w wA:=by
 have e1:(w.alloc (Obj.cells #[a,b] 114)).heap.size=w.heap.size+1:=by simp
 have hb1:Below w.heap.size w (w.alloc (Obj.cells #[a,b] 114)):=(Below.refl _ _).alloc (Nat.le_refl _) _
 have hb2:Below (w.heap.size+1) (w.alloc (Obj.cells #[a,b] 114)) wA:=by rw [h];exact (Below.refl _ _).alloc (by omega) _
 refine ⟨?_,?_,?_,?_,?_,hb1.trans (hb2.mono (by omega))⟩
 ·rw [hb2.cell (by simp)];simp [World.cell?_alloc_new]
 ·rw [hb2.cell (by simp)];simp [World.cell?_alloc_new]
 ·rw [h,←e1];simp only [World.cell?_alloc_new];rfl
 ·rw [h,←e1];simp only [World.cell?_alloc_new];rfl
 ·rw [h];simp
def Two (w:World) (a b c d:Value) (W:World):Prop:=W.cell? ⟨w.heap.size,0,none⟩=some a∧W.cell? ⟨w.heap.size,1,none⟩=some b∧W.cell? ⟨w.heap.size+1,0,none⟩=some c∧W.cell? ⟨w.heap.size+1,1,none⟩=some d∧w.heap.size+2≤W.heap.size∧Below w.heap.size w W
theorem two_keep {w W W':World} {a b c d:Value} (hb:Below W.heap.size W W') (h:Two w a b c d W):Two w a b c d W':=by
 obtain ⟨c0,c1,c2,c3,hs,hw⟩:=h
 refine ⟨?_,?_,?_,?_,Nat.le_trans hs hb.size,hw.trans (hb.mono (by omega))⟩
 ·rw [hb.cell (by simp;omega)];exact c0
 ·rw [hb.cell (by simp;omega)];exact c1
 ·rw [hb.cell (by simp;omega)];exact c2
 ·rw [hb.cell (by simp;omega)];exact c3
def Fz (w:World) (W:World):Prop:=W.frozen? ⟨w.heap.size,0,none⟩=false∧W.frozen? ⟨w.heap.size,1,none⟩=false∧W.frozen? ⟨w.heap.size+1,0,none⟩=false∧W.frozen? ⟨w.heap.size+1,1,none⟩=false
theorem two_frozen {w wA:World} {a b c d:Value} (h:wA=(w.alloc (Obj.cells #[a,b] 114)).alloc (Obj.cells #[c,d] 114)):Fz w wA:=by
 have e1:(w.alloc (Obj.cells #[a,b] 114)).heap.size=w.heap.size+1:=by simp
 have hb2:Below (w.heap.size+1) (w.alloc (Obj.cells #[a,b] 114)) wA:=by rw [h];exact (Below.refl _ _).alloc (by omega) _
 refine ⟨?_,?_,?_,?_⟩
 ·rw [hb2.frozen (by simp)];simp
 ·rw [hb2.frozen (by simp)];simp
 ·rw [h,←e1];simp
 ·rw [h,←e1];simp
theorem Fz.keep {w W W':World} {a b c d:Value} (h:Fz w W) (k:Two w a b c d W) (hb:Below W.heap.size W W'):Fz w W':=by
 have hs:=k.2.2.2.2.1
 obtain ⟨f0,f1,f2,f3⟩:=h
 refine ⟨?_,?_,?_,?_⟩
 ·rw [hb.frozen (by simp;omega)];exact f0
 ·rw [hb.frozen (by simp;omega)];exact f1
 ·rw [hb.frozen (by simp;omega)];exact f2
 ·rw [hb.frozen (by simp;omega)];exact f3
theorem Two.low {w W:World} {a b c d:Value} (h:Two w a b c d W):Below w.heap.size w W:=h.2.2.2.2.2
theorem cell_setCell_ne (w:World) {x a:Addr} (v:Value) (h:x.block≠a.block∨(x.off≠a.off∧x.spot=none∧a.spot=none)):(w.setCell a v).cell? x=w.cell? x:=
 World.cell?_setCell_other _ _ _ _ (by rintro rfl;simp at h)
theorem two_swap {w W:World} {a b c d:Value} (h:Two w a b c d W):Two w c d a b ((((W.setCell ⟨w.heap.size,0,none⟩ c).setCell ⟨w.heap.size,1,none⟩ d).setCell ⟨w.heap.size+1,0,none⟩ a).setCell ⟨w.heap.size+1,1,none⟩ b):=by
 obtain ⟨c0,c1,c2,c3,hs,hw⟩:=h
 have n01:w.heap.size≠w.heap.size+1:=by omega
 refine ⟨?_,?_,?_,?_,by simpa using hs,?_⟩
 ·rw [cell_setCell_ne _ _ (.inl n01),cell_setCell_ne _ _ (.inl n01),cell_setCell_ne _ _ (.inr ⟨by simp,rfl,rfl⟩),World.cell?_setCell_same' _ _ _ (by rw [c0];rfl)]
 ·rw [cell_setCell_ne _ _ (.inl n01),cell_setCell_ne _ _ (.inl n01),World.cell?_setCell_same' _ _ _ (by rw [cell_setCell_ne _ _ (.inr ⟨by simp,rfl,rfl⟩),c1];rfl)]
 ·rw [cell_setCell_ne _ _ (.inr ⟨by simp,rfl,rfl⟩),World.cell?_setCell_same' _ _ _ (by rw [cell_setCell_ne _ _ (.inl n01.symm),cell_setCell_ne _ _ (.inl n01.symm),c2];rfl)]
 ·rw [World.cell?_setCell_same' _ _ _ (by rw [cell_setCell_ne _ _ (.inr ⟨by simp,rfl,rfl⟩),cell_setCell_ne _ _ (.inl n01.symm),cell_setCell_ne _ _ (.inl n01.symm),c3];rfl)]
 ·exact (((hw.setCell (p:=⟨_,0,none⟩) (Nat.le_refl _) _).setCell (p:=⟨_,1,none⟩) (Nat.le_refl _) _).setCell (p:=⟨_,0,none⟩) (Nat.le_succ _) _).setCell (p:=⟨_,1,none⟩) (Nat.le_succ _) _
theorem two_drew {w W:World} {a b c d:Value} (h:Two w a b c d W):Two w a b c d W.drew:=by
 obtain ⟨c0,c1,c2,c3,hs,hw⟩:=h
 exact ⟨c0,c1,c2,c3,hs,hw.drew⟩
theorem integer_Mul (a b:ByteArray) (m n:Int) (ha:IsI a m) (hb:IsI b n) (hsa:a.size≤9000000000) (hsb:b.size≤9000000000) (w:World) (hw:Good w) :
  Calls Tryz.prog 35 #[.string a,.string b] w fun e w'=>∃ r:ByteArray,e=.returned (.string r)∧IsI r (m*n)∧Below w.heap.size w w':=by
 have hlm:=Nat.le_trans (pcs_len_size ha) hsa
 have hln:=Nat.le_trans (pcs_len_size hb) hsb
 have hlmn:=Nat.le_trans (pcs_len_mul m.natAbs n.natAbs) (Nat.add_le_add hlm hln)
 replace hlm:=Nat.le_trans hlm (show 9000000000≤1099511627776 by decide)
 replace hln:=Nat.le_trans hln (show 9000000000≤1099511627776 by decide)
 replace hlmn:=Nat.le_trans hlmn (show 9000000000+9000000000≤1099511627776 by decide)
 have HA:=hid ha
 have HB:=hid hb
 clear ha hb
 by_cases hq:a.size≤9∧b.size≤9
 ·obtain ⟨q1,q2⟩:=hq
  have hx:=natAbs_lt_of_itoa_length (k:=9) (n:=m) (by rw [←HA.out.size];exact q1)
  have hy:=natAbs_lt_of_itoa_length (k:=9) (n:=n) (by rw [←HB.out.size];exact q2)
  obtain ⟨r1,r2⟩:=mul_int hx hy
  go_enter Tryz.func35,Tryz.ntmps35
  go_wp2_with fail
  refine (integer_quick_short a m 9 HA.out (by omega) (by omega) _).mono ?_
  rintro e w1 ⟨rfl,hb1⟩
  go_wp2_with fail
  refine (integer_quick_short b n 9 HB.out (by omega) (by omega) _).mono ?_
  rintro e w2 ⟨rfl,hb2⟩
  have hb12:=hb1.trans (hb2.mono hb1.size)
  go_wp2_with fail
  refine (integer_Of (m*n) r1 r2 _ (hw.below hb12)).mono ?_
  rintro e w3 ⟨r,rfl,hr,hb3⟩
  go_wp2
  go_ret
  exact ⟨_,rfl,hr,hb12.trans (hb3.mono hb12.size)⟩
 ·have HL:=hid hq
  clear hq
  by_cases h1:a.size≤9
  ·have h2:(9:Int)<(b.size:Int):=by have:=HL.out;omega
   clear HL
   go_enter Tryz.func35,Tryz.ntmps35
   go_wp2_with fail
   refine (integer_quick_short a m 9 HA.out (by omega) (by omega) _).mono ?_
   rintro e w1 ⟨rfl,hb1⟩
   go_wp2_with fail
   refine (integer_quick_long b 9 h2 _).mono ?_
   rintro e w1' ⟨rfl,rfl⟩
   go_wp2_with fail
   refine (integer_open a m HA.out hsa _).mono ?_
   rintro e w2 ⟨p,rfl,hp2,hb2⟩
   go_wp2_with fail
   refine (integer_open b n HB.out hsb _).mono ?_
   rintro e w3 ⟨q,rfl,hq3,hb3⟩
   have hp3:=hp2.below hb3
   obtain ⟨p,cp,rfl,_,_⟩:=hp3.slice
   obtain ⟨q,cq,rfl,_,_⟩:=hq3.slice
   have hb13:=(hb1.trans (hb2.mono hb1.size)).trans (hb3.mono (Nat.le_trans hb1.size hb2.size))
   go_wp2_with fail
   obtain ⟨wA,hwA⟩ : ∃ wA,wA=((w3.alloc (Obj.cells #[Value.bool (decide (m<0)),Value.slice p (pcs m.natAbs).length cp] 114)).alloc (Obj.cells #[Value.bool (decide (n<0)),Value.slice q (pcs n.natAbs).length cq] 114)):=⟨_,rfl⟩
   rw [←hwA]
   have HT:Two w3 (Value.bool (decide (m<0))) (Value.slice p (pcs m.natAbs).length cp) (Value.bool (decide (n<0))) (Value.slice q (pcs n.natAbs).length cq) wA:=two_blocks hwA
   clear hwA
   go_region_held3 (fun W=>W.cell? ⟨w3.heap.size,0,none⟩=some (Value.bool (decide (m<0)))∧W.cell? ⟨w3.heap.size,1,none⟩=some (Value.slice p (pcs m.natAbs).length cp)∧W.cell? ⟨w3.heap.size+1,0,none⟩=some (Value.bool (decide (n<0)))∧W.cell? ⟨w3.heap.size+1,1,none⟩=some (Value.slice q (pcs n.natAbs).length cq)∧w3.heap.size+2≤W.heap.size∧Below w3.heap.size w3 W)
    (first | exact two_drew HT | (refine two_keep (by assumption) ?_;first | assumption | (go_split_ands;refine ⟨?_,?_,?_,?_,?_,?_⟩ <;> assumption) | trace_state))
    (first
     | (go_at_call 66;refine (integer_times _ _ _ _ _ hlm hln (hp3.below ?_) (hq3.below ?_)).mono ?_;exact Two.low (by assumption);exact Two.low (by assumption);rintro e w' ⟨v',rfl,hv',hbt,-⟩;obtain ⟨pv,cv,rfl,_,_⟩:=hv'.slice)
     | (go_at_call 67;refine (integer_close _ _ _ hlmn _ ?_ ?_).mono ?_;exact hw.below (hb13.trans ((Two.low (by assumption)).mono hb13.size));exact hv';rintro e w' ⟨r,rfl,hr,hbc⟩))
   go_wp2
   go_ret
   exact ⟨_,rfl,by rw [←signed_mul m n];exact hr,hb13.trans ((Two.low (by assumption)).mono hb13.size)⟩
  ·have h2:(9:Int)<(a.size:Int):=by omega
   clear HL
   go_enter Tryz.func35,Tryz.ntmps35
   go_wp2_with fail
   refine (integer_quick_long a 9 h2 _).mono ?_
   rintro e w1 ⟨rfl,rfl⟩
   have hb1:=Below.refl w.heap.size w
   go_wp2_with fail
   refine (integer_open a m HA.out hsa _).mono ?_
   rintro e w2 ⟨p,rfl,hp2,hb2⟩
   go_wp2_with fail
   refine (integer_open b n HB.out hsb _).mono ?_
   rintro e w3 ⟨q,rfl,hq3,hb3⟩
   have hp3:=hp2.below hb3
   obtain ⟨p,cp,rfl,_,_⟩:=hp3.slice
   obtain ⟨q,cq,rfl,_,_⟩:=hq3.slice
   have hb13:=(hb1.trans (hb2.mono hb1.size)).trans (hb3.mono (Nat.le_trans hb1.size hb2.size))
   go_wp2_with fail
   obtain ⟨wA,hwA⟩ : ∃ wA,wA=((w3.alloc (Obj.cells #[Value.bool (decide (m<0)),Value.slice p (pcs m.natAbs).length cp] 114)).alloc (Obj.cells #[Value.bool (decide (n<0)),Value.slice q (pcs n.natAbs).length cq] 114)):=⟨_,rfl⟩
   rw [←hwA]
   have HT:Two w3 (Value.bool (decide (m<0))) (Value.slice p (pcs m.natAbs).length cp) (Value.bool (decide (n<0))) (Value.slice q (pcs n.natAbs).length cq) wA:=two_blocks hwA
   clear hwA
   go_region_held3 (fun W=>W.cell? ⟨w3.heap.size,0,none⟩=some (Value.bool (decide (m<0)))∧W.cell? ⟨w3.heap.size,1,none⟩=some (Value.slice p (pcs m.natAbs).length cp)∧W.cell? ⟨w3.heap.size+1,0,none⟩=some (Value.bool (decide (n<0)))∧W.cell? ⟨w3.heap.size+1,1,none⟩=some (Value.slice q (pcs n.natAbs).length cq)∧w3.heap.size+2≤W.heap.size∧Below w3.heap.size w3 W)
    (first | exact two_drew HT | (refine two_keep (by assumption) ?_;first | assumption | (go_split_ands;refine ⟨?_,?_,?_,?_,?_,?_⟩ <;> assumption) | trace_state))
    (first
     | (go_at_call 66;refine (integer_times _ _ _ _ _ hlm hln (hp3.below ?_) (hq3.below ?_)).mono ?_;exact Two.low (by assumption);exact Two.low (by assumption);rintro e w' ⟨v',rfl,hv',hbt,-⟩;obtain ⟨pv,cv,rfl,_,_⟩:=hv'.slice)
     | (go_at_call 67;refine (integer_close _ _ _ hlmn _ ?_ ?_).mono ?_;exact hw.below (hb13.trans ((Two.low (by assumption)).mono hb13.size));exact hv';rintro e w' ⟨r,rfl,hr,hbc⟩))
   go_wp2
   go_ret
   exact ⟨_,rfl,by rw [←signed_mul m n];exact hr,hb13.trans ((Two.low (by assumption)).mono hb13.size)⟩
theorem signed_add_same (m n:Int) (h:decide (m<0)=decide (n<0)):signedOf (decide (m<0)) (m.natAbs+n.natAbs)=m+n:=by
 unfold signedOf
 rcases Int.lt_or_le m 0 with h1 | h1 <;> rcases Int.lt_or_le n 0 with h2 | h2
 ·simp [h1];omega
 ·have:¬ n<0:=by omega
  simp [h1,this] at h
 ·have:¬ m<0:=by omega
  simp [h2,this] at h
 ·have:¬ m<0:=by omega
  simp [this];omega
theorem signed_add_ge (m n:Int) (h:decide (m<0)≠decide (n<0)) (hl:n.natAbs≤m.natAbs):signedOf (decide (m<0)) (m.natAbs-n.natAbs)=m+n:=by
 unfold signedOf
 rcases Int.lt_or_le m 0 with h1 | h1 <;> rcases Int.lt_or_le n 0 with h2 | h2
 ·simp [h1,h2] at h
 ·simp [h1];omega
 ·have:¬ m<0:=by omega
  simp [this];omega
 ·have k1:¬ m<0:=by omega
  have k2:¬ n<0:=by omega
  simp [k1,k2] at h
theorem cmpI_nat_lt (a b:Nat):decide (cmpI (a:Int) b<0)=decide (a<b):=by
 unfold cmpI;split
 ·simp;omega
 ·split
  ·simp;omega
  ·simp;omega
theorem add_int {x y:Int} (hx:x.natAbs<10 ^ 18) (hy:y.natAbs<10 ^ 18):-9223372036854775808≤x+y∧x+y≤9223372036854775807:=by omega
theorem integer_Add (a b:ByteArray) (m n:Int) (ha:IsI a m) (hb:IsI b n) (hsa:a.size≤9000000000) (hsb:b.size≤9000000000) (w:World) (hw:Good w) :
  Calls Tryz.prog 85 #[.string a,.string b] w fun e w'=>∃ r:ByteArray,e=.returned (.string r)∧IsI r (m+n)∧Below w.heap.size w w':=by
 have hlm:=Nat.le_trans (pcs_len_size ha) hsa
 have hln:=Nat.le_trans (pcs_len_size hb) hsb
 have hlmn:=Nat.le_trans (pcs_len_add m.natAbs n.natAbs) (Nat.add_le_add (Nat.add_le_add hlm hln) (Nat.le_refl 1))
 replace hlm:=Nat.le_trans hlm (show 9000000000≤1099511627776 by decide)
 replace hln:=Nat.le_trans hln (show 9000000000≤1099511627776 by decide)
 replace hlmn:=Nat.le_trans hlmn (show 9000000000+9000000000+1≤1099511627776 by decide)
 have HA:=hid ha
 have HB:=hid hb
 clear ha hb
 by_cases hq:a.size≤18∧b.size≤18
 ·obtain ⟨q1,q2⟩:=hq
  have hx:=natAbs_lt_of_itoa_length (k:=18) (n:=m) (by rw [←HA.out.size];exact q1)
  have hy:=natAbs_lt_of_itoa_length (k:=18) (n:=n) (by rw [←HB.out.size];exact q2)
  obtain ⟨r1,r2⟩:=add_int hx hy
  go_enter Tryz.func85,Tryz.ntmps85
  go_wp2_with fail
  refine (integer_quick_short a m 18 HA.out (by omega) (by omega) _).mono ?_
  rintro e w1 ⟨rfl,hb1⟩
  go_wp2_with fail
  refine (integer_quick_short b n 18 HB.out (by omega) (by omega) _).mono ?_
  rintro e w2 ⟨rfl,hb2⟩
  have hb12:=hb1.trans (hb2.mono hb1.size)
  go_wp2_with fail
  refine (integer_Of (m+n) r1 r2 _ (hw.below hb12)).mono ?_
  rintro e w3 ⟨r,rfl,hr,hb3⟩
  go_wp2
  go_ret
  exact ⟨_,rfl,hr,hb12.trans (hb3.mono hb12.size)⟩
 ·have HL:=hid hq
  clear hq
  by_cases h1:a.size≤18
  ·have h2:(18:Int)<(b.size:Int):=by have:=HL.out;omega
   clear HL
   go_enter Tryz.func85,Tryz.ntmps85
   go_wp2_with fail
   refine (integer_quick_short a m 18 HA.out (by omega) (by omega) _).mono ?_
   rintro e w1 ⟨rfl,hb1⟩
   go_wp2_with fail
   refine (integer_quick_long b 18 h2 _).mono ?_
   rintro e w1' ⟨rfl,rfl⟩
   go_wp2_with fail
   refine (integer_open a m HA.out hsa _).mono ?_
   rintro e w2 ⟨p,rfl,hp2,hb2⟩
   go_wp2_with fail
   refine (integer_open b n HB.out hsb _).mono ?_
   rintro e w3 ⟨q,rfl,hq3,hb3⟩
   have hp3:=hp2.below hb3
   obtain ⟨p,cp,rfl,_,_⟩:=hp3.slice
   obtain ⟨q,cq,rfl,_,_⟩:=hq3.slice
   have hb13:=(hb1.trans (hb2.mono hb1.size)).trans (hb3.mono (Nat.le_trans hb1.size hb2.size))
   by_cases hsg:decide (m<0)=decide (n<0)
   ·have hsg':(decide (m<0) == decide (n<0))=true:=by rw [hsg];exact beq_self_eq_true _
    have HSG:=hid hsg
    clear hsg
    go_wp2_with fail
    obtain ⟨wA,hwA⟩ : ∃ wA,wA=((w3.alloc (Obj.cells #[Value.bool (decide (m<0)),Value.slice p (pcs m.natAbs).length cp] 114)).alloc (Obj.cells #[Value.bool (decide (n<0)),Value.slice q (pcs n.natAbs).length cq] 114)):=⟨_,rfl⟩
    rw [←hwA]
    have HT:Two w3 (Value.bool (decide (m<0))) (Value.slice p (pcs m.natAbs).length cp) (Value.bool (decide (n<0))) (Value.slice q (pcs n.natAbs).length cq) wA:=two_blocks hwA
    clear hwA
    go_region_held3 (fun W=>W.cell? ⟨w3.heap.size,0,none⟩=some (Value.bool (decide (m<0)))∧W.cell? ⟨w3.heap.size,1,none⟩=some (Value.slice p (pcs m.natAbs).length cp)∧W.cell? ⟨w3.heap.size+1,0,none⟩=some (Value.bool (decide (n<0)))∧W.cell? ⟨w3.heap.size+1,1,none⟩=some (Value.slice q (pcs n.natAbs).length cq)∧w3.heap.size+2≤W.heap.size∧Below w3.heap.size w3 W)
     (first | exact two_drew HT | (refine two_keep (by assumption) ?_;first | assumption | (go_split_ands;refine ⟨?_,?_,?_,?_,?_,?_⟩ <;> assumption)))
     (first
      | (go_at_call 91;refine (integer_plus _ _ _ _ _ hlm hln (hp3.below ?_) (hq3.below ?_)).mono ?_;exact Two.low (by assumption);exact Two.low (by assumption);rintro e w' ⟨v',rfl,hv',hbt⟩;obtain ⟨pv,cv,rfl,_,_⟩:=hv'.slice)
      | (go_at_call 67;refine (integer_close _ _ _ hlmn _ ?_ ?_).mono ?_;exact hw.below (hb13.trans ((Two.low (by assumption)).mono hb13.size));exact hv';rintro e w' ⟨r,rfl,hr,hbc⟩))
    go_wp2
    go_ret
    exact ⟨_,rfl,by rw [←signed_add_same m n HSG.out];exact hr,hb13.trans ((Two.low (by assumption)).mono hb13.size)⟩
   ·have hsg':(decide (m<0) == decide (n<0))=false:=by simpa using hsg
    have HSG:=hid hsg
    clear hsg
    go_wp2_with fail
    obtain ⟨wA,hwA⟩ : ∃ wA,wA=((w3.alloc (Obj.cells #[Value.bool (decide (m<0)),Value.slice p (pcs m.natAbs).length cp] 114)).alloc (Obj.cells #[Value.bool (decide (n<0)),Value.slice q (pcs n.natAbs).length cq] 114)):=⟨_,rfl⟩
    rw [←hwA]
    have HT0:Two w3 (Value.bool (decide (m<0))) (Value.slice p (pcs m.natAbs).length cp) (Value.bool (decide (n<0))) (Value.slice q (pcs n.natAbs).length cq) wA:=two_blocks hwA
    have hfz:=two_frozen hwA
    clear hwA
    refine (integer_order _ _ m.natAbs n.natAbs _ (hp3.below HT0.low) (hq3.below HT0.low)).mono ?_
    rintro e wB ⟨rfl,hbB⟩
    have HT:=two_keep hbB HT0
    replace hfz:=hfz.keep HT0 hbB
    by_cases hlt:m.natAbs<n.natAbs
    ·have hcm:decide (cmpI (m.natAbs:Int) (n.natAbs:Int)<0)=true:=by rw [cmpI_nat_lt];simpa using hlt
     have HLT:=hid hlt
     obtain ⟨c0,c1,c2,c3,_,_⟩:=HT
     obtain ⟨f0,f1,f2,f3⟩:=hfz
     clear hlt HT0
     generalize cmpI (m.natAbs:Int) (n.natAbs:Int)=cc at hcm ⊢
     go_wp2_with fail
     obtain ⟨wS,hwS⟩ : ∃ wS,wS=((((wB.setCell ⟨w3.heap.size,0,none⟩ (Value.bool (decide (n<0)))).setCell ⟨w3.heap.size,1,none⟩ (Value.slice q (pcs n.natAbs).length cq)).setCell ⟨w3.heap.size+1,0,none⟩ (Value.bool (decide (m<0)))).setCell ⟨w3.heap.size+1,1,none⟩ (Value.slice p (pcs m.natAbs).length cp)):=⟨_,rfl⟩
     rw [←hwS]
     have HT:Two w3 (Value.bool (decide (n<0))) (Value.slice q (pcs n.natAbs).length cq) (Value.bool (decide (m<0))) (Value.slice p (pcs m.natAbs).length cp) wS:=by
      rw [hwS];exact two_swap ⟨c0,c1,c2,c3,by assumption,by assumption⟩
     have hlmm:=Nat.le_trans (pcs_len_mono (Nat.sub_le n.natAbs m.natAbs)) hln
     clear hwS c0 c1 c2 c3 f0 f1 f2 f3
     go_region_held3 (fun W=>W.cell? ⟨w3.heap.size,0,none⟩=some (Value.bool (decide (n<0)))∧W.cell? ⟨w3.heap.size,1,none⟩=some (Value.slice q (pcs n.natAbs).length cq)∧W.cell? ⟨w3.heap.size+1,0,none⟩=some (Value.bool (decide (m<0)))∧W.cell? ⟨w3.heap.size+1,1,none⟩=some (Value.slice p (pcs m.natAbs).length cp)∧w3.heap.size+2≤W.heap.size∧Below w3.heap.size w3 W)
      (first | exact two_drew HT | (refine two_keep (by assumption) ?_;first | assumption | (go_split_ands;refine ⟨?_,?_,?_,?_,?_,?_⟩ <;> assumption)))
      (first
       | (go_at_call 92;refine (integer_minus _ _ _ _ _ hln (Nat.le_of_lt HLT.out) (hq3.below ?_) (hp3.below ?_)).mono ?_;exact Two.low (by assumption);exact Two.low (by assumption);rintro e w' ⟨v',rfl,hv',hbt,-⟩;obtain ⟨pv,cv,rfl,_,_⟩:=hv'.slice)
       | (go_at_call 67;refine (integer_close _ _ _ hlmm _ ?_ ?_).mono ?_;exact hw.below (hb13.trans ((Two.low (by assumption)).mono hb13.size));exact hv';rintro e w' ⟨r,rfl,hr,hbc⟩))
     go_wp2
     go_ret
     exact ⟨_,rfl,by rw [Int.add_comm,←signed_add_ge n m (fun h=>HSG.out h.symm) (Nat.le_of_lt HLT.out)];exact hr,hb13.trans ((Two.low (by assumption)).mono hb13.size)⟩
    ·have hcm:decide (cmpI (m.natAbs:Int) (n.natAbs:Int)<0)=false:=by rw [cmpI_nat_lt];simpa using hlt
     have HLT:=hid (Nat.le_of_not_lt hlt)
     have hlmm:=Nat.le_trans (pcs_len_mono (Nat.sub_le m.natAbs n.natAbs)) hlm
     clear hlt HT0 hfz
     generalize cmpI (m.natAbs:Int) (n.natAbs:Int)=cc at hcm ⊢
     go_wp2_with fail
     go_region_held3 (fun W=>W.cell? ⟨w3.heap.size,0,none⟩=some (Value.bool (decide (m<0)))∧W.cell? ⟨w3.heap.size,1,none⟩=some (Value.slice p (pcs m.natAbs).length cp)∧W.cell? ⟨w3.heap.size+1,0,none⟩=some (Value.bool (decide (n<0)))∧W.cell? ⟨w3.heap.size+1,1,none⟩=some (Value.slice q (pcs n.natAbs).length cq)∧w3.heap.size+2≤W.heap.size∧Below w3.heap.size w3 W)
      (first | exact two_drew HT | (refine two_keep (by assumption) ?_;first | assumption | (go_split_ands;refine ⟨?_,?_,?_,?_,?_,?_⟩ <;> assumption)))
      (first
       | (go_at_call 92;refine (integer_minus _ _ _ _ _ hlm HLT.out (hp3.below ?_) (hq3.below ?_)).mono ?_;exact Two.low (by assumption);exact Two.low (by assumption);rintro e w' ⟨v',rfl,hv',hbt,-⟩;obtain ⟨pv,cv,rfl,_,_⟩:=hv'.slice)
       | (go_at_call 67;refine (integer_close _ _ _ hlmm _ ?_ ?_).mono ?_;exact hw.below (hb13.trans ((Two.low (by assumption)).mono hb13.size));exact hv';rintro e w' ⟨r,rfl,hr,hbc⟩))
     go_wp2
     go_ret
     exact ⟨_,rfl,by rw [←signed_add_ge m n HSG.out HLT.out];exact hr,hb13.trans ((Two.low (by assumption)).mono hb13.size)⟩
  ·have h2:(18:Int)<(a.size:Int):=by omega
   clear HL
   go_enter Tryz.func85,Tryz.ntmps85
   go_wp2_with fail
   refine (integer_quick_long a 18 h2 _).mono ?_
   rintro e w1 ⟨rfl,rfl⟩
   have hb1:=Below.refl w.heap.size w
   go_wp2_with fail
   refine (integer_open a m HA.out hsa _).mono ?_
   rintro e w2 ⟨p,rfl,hp2,hb2⟩
   go_wp2_with fail
   refine (integer_open b n HB.out hsb _).mono ?_
   rintro e w3 ⟨q,rfl,hq3,hb3⟩
   have hp3:=hp2.below hb3
   obtain ⟨p,cp,rfl,_,_⟩:=hp3.slice
   obtain ⟨q,cq,rfl,_,_⟩:=hq3.slice
   have hb13:=(hb1.trans (hb2.mono hb1.size)).trans (hb3.mono (Nat.le_trans hb1.size hb2.size))
   by_cases hsg:decide (m<0)=decide (n<0)
   ·have hsg':(decide (m<0) == decide (n<0))=true:=by rw [hsg];exact beq_self_eq_true _
    have HSG:=hid hsg
    clear hsg
    go_wp2_with fail
    obtain ⟨wA,hwA⟩ : ∃ wA,wA=((w3.alloc (Obj.cells #[Value.bool (decide (m<0)),Value.slice p (pcs m.natAbs).length cp] 114)).alloc (Obj.cells #[Value.bool (decide (n<0)),Value.slice q (pcs n.natAbs).length cq] 114)):=⟨_,rfl⟩
    rw [←hwA]
    have HT:Two w3 (Value.bool (decide (m<0))) (Value.slice p (pcs m.natAbs).length cp) (Value.bool (decide (n<0))) (Value.slice q (pcs n.natAbs).length cq) wA:=two_blocks hwA
    clear hwA
    go_region_held3 (fun W=>W.cell? ⟨w3.heap.size,0,none⟩=some (Value.bool (decide (m<0)))∧W.cell? ⟨w3.heap.size,1,none⟩=some (Value.slice p (pcs m.natAbs).length cp)∧W.cell? ⟨w3.heap.size+1,0,none⟩=some (Value.bool (decide (n<0)))∧W.cell? ⟨w3.heap.size+1,1,none⟩=some (Value.slice q (pcs n.natAbs).length cq)∧w3.heap.size+2≤W.heap.size∧Below w3.heap.size w3 W)
     (first | exact two_drew HT | (refine two_keep (by assumption) ?_;first | assumption | (go_split_ands;refine ⟨?_,?_,?_,?_,?_,?_⟩ <;> assumption)))
     (first
      | (go_at_call 91;refine (integer_plus _ _ _ _ _ hlm hln (hp3.below ?_) (hq3.below ?_)).mono ?_;exact Two.low (by assumption);exact Two.low (by assumption);rintro e w' ⟨v',rfl,hv',hbt⟩;obtain ⟨pv,cv,rfl,_,_⟩:=hv'.slice)
      | (go_at_call 67;refine (integer_close _ _ _ hlmn _ ?_ ?_).mono ?_;exact hw.below (hb13.trans ((Two.low (by assumption)).mono hb13.size));exact hv';rintro e w' ⟨r,rfl,hr,hbc⟩))
    go_wp2
    go_ret
    exact ⟨_,rfl,by rw [←signed_add_same m n HSG.out];exact hr,hb13.trans ((Two.low (by assumption)).mono hb13.size)⟩
   ·have hsg':(decide (m<0) == decide (n<0))=false:=by simpa using hsg
    have HSG:=hid hsg
    clear hsg
    go_wp2_with fail
    obtain ⟨wA,hwA⟩ : ∃ wA,wA=((w3.alloc (Obj.cells #[Value.bool (decide (m<0)),Value.slice p (pcs m.natAbs).length cp] 114)).alloc (Obj.cells #[Value.bool (decide (n<0)),Value.slice q (pcs n.natAbs).length cq] 114)):=⟨_,rfl⟩
    rw [←hwA]
    have HT0:Two w3 (Value.bool (decide (m<0))) (Value.slice p (pcs m.natAbs).length cp) (Value.bool (decide (n<0))) (Value.slice q (pcs n.natAbs).length cq) wA:=two_blocks hwA
    have hfz:=two_frozen hwA
    clear hwA
    refine (integer_order _ _ m.natAbs n.natAbs _ (hp3.below HT0.low) (hq3.below HT0.low)).mono ?_
    rintro e wB ⟨rfl,hbB⟩
    have HT:=two_keep hbB HT0
    replace hfz:=hfz.keep HT0 hbB
    by_cases hlt:m.natAbs<n.natAbs
    ·have hcm:decide (cmpI (m.natAbs:Int) (n.natAbs:Int)<0)=true:=by rw [cmpI_nat_lt];simpa using hlt
     have HLT:=hid hlt
     obtain ⟨c0,c1,c2,c3,_,_⟩:=HT
     obtain ⟨f0,f1,f2,f3⟩:=hfz
     clear hlt HT0
     generalize cmpI (m.natAbs:Int) (n.natAbs:Int)=cc at hcm ⊢
     go_wp2_with fail
     obtain ⟨wS,hwS⟩ : ∃ wS,wS=((((wB.setCell ⟨w3.heap.size,0,none⟩ (Value.bool (decide (n<0)))).setCell ⟨w3.heap.size,1,none⟩ (Value.slice q (pcs n.natAbs).length cq)).setCell ⟨w3.heap.size+1,0,none⟩ (Value.bool (decide (m<0)))).setCell ⟨w3.heap.size+1,1,none⟩ (Value.slice p (pcs m.natAbs).length cp)):=⟨_,rfl⟩
     rw [←hwS]
     have HT:Two w3 (Value.bool (decide (n<0))) (Value.slice q (pcs n.natAbs).length cq) (Value.bool (decide (m<0))) (Value.slice p (pcs m.natAbs).length cp) wS:=by
      rw [hwS];exact two_swap ⟨c0,c1,c2,c3,by assumption,by assumption⟩
     have hlmm:=Nat.le_trans (pcs_len_mono (Nat.sub_le n.natAbs m.natAbs)) hln
     clear hwS c0 c1 c2 c3 f0 f1 f2 f3
     go_region_held3 (fun W=>W.cell? ⟨w3.heap.size,0,none⟩=some (Value.bool (decide (n<0)))∧W.cell? ⟨w3.heap.size,1,none⟩=some (Value.slice q (pcs n.natAbs).length cq)∧W.cell? ⟨w3.heap.size+1,0,none⟩=some (Value.bool (decide (m<0)))∧W.cell? ⟨w3.heap.size+1,1,none⟩=some (Value.slice p (pcs m.natAbs).length cp)∧w3.heap.size+2≤W.heap.size∧Below w3.heap.size w3 W)
      (first | exact two_drew HT | (refine two_keep (by assumption) ?_;first | assumption | (go_split_ands;refine ⟨?_,?_,?_,?_,?_,?_⟩ <;> assumption)))
      (first
       | (go_at_call 92;refine (integer_minus _ _ _ _ _ hln (Nat.le_of_lt HLT.out) (hq3.below ?_) (hp3.below ?_)).mono ?_;exact Two.low (by assumption);exact Two.low (by assumption);rintro e w' ⟨v',rfl,hv',hbt,-⟩;obtain ⟨pv,cv,rfl,_,_⟩:=hv'.slice)
       | (go_at_call 67;refine (integer_close _ _ _ hlmm _ ?_ ?_).mono ?_;exact hw.below (hb13.trans ((Two.low (by assumption)).mono hb13.size));exact hv';rintro e w' ⟨r,rfl,hr,hbc⟩))
     go_wp2
     go_ret
     exact ⟨_,rfl,by rw [Int.add_comm,←signed_add_ge n m (fun h=>HSG.out h.symm) (Nat.le_of_lt HLT.out)];exact hr,hb13.trans ((Two.low (by assumption)).mono hb13.size)⟩
    ·have hcm:decide (cmpI (m.natAbs:Int) (n.natAbs:Int)<0)=false:=by rw [cmpI_nat_lt];simpa using hlt
     have HLT:=hid (Nat.le_of_not_lt hlt)
     have hlmm:=Nat.le_trans (pcs_len_mono (Nat.sub_le m.natAbs n.natAbs)) hlm
     clear hlt HT0 hfz
     generalize cmpI (m.natAbs:Int) (n.natAbs:Int)=cc at hcm ⊢
     go_wp2_with fail
     go_region_held3 (fun W=>W.cell? ⟨w3.heap.size,0,none⟩=some (Value.bool (decide (m<0)))∧W.cell? ⟨w3.heap.size,1,none⟩=some (Value.slice p (pcs m.natAbs).length cp)∧W.cell? ⟨w3.heap.size+1,0,none⟩=some (Value.bool (decide (n<0)))∧W.cell? ⟨w3.heap.size+1,1,none⟩=some (Value.slice q (pcs n.natAbs).length cq)∧w3.heap.size+2≤W.heap.size∧Below w3.heap.size w3 W)
      (first | exact two_drew HT | (refine two_keep (by assumption) ?_;first | assumption | (go_split_ands;refine ⟨?_,?_,?_,?_,?_,?_⟩ <;> assumption)))
      (first
       | (go_at_call 92;refine (integer_minus _ _ _ _ _ hlm HLT.out (hp3.below ?_) (hq3.below ?_)).mono ?_;exact Two.low (by assumption);exact Two.low (by assumption);rintro e w' ⟨v',rfl,hv',hbt,-⟩;obtain ⟨pv,cv,rfl,_,_⟩:=hv'.slice)
       | (go_at_call 67;refine (integer_close _ _ _ hlmm _ ?_ ?_).mono ?_;exact hw.below (hb13.trans ((Two.low (by assumption)).mono hb13.size));exact hv';rintro e w' ⟨r,rfl,hr,hbc⟩))
     go_wp2
     go_ret
     exact ⟨_,rfl,by rw [←signed_add_ge m n HSG.out HLT.out];exact hr,hb13.trans ((Two.low (by assumption)).mono hb13.size)⟩
end Go.Proofs.YtogdahbbogimcaaGreatDoor
namespace Go.Proofs.YtogdahbbogimcaaGreatDoor
open Go.RowKit
open Go.Lib (hid)
theorem U64s.one (w:World) (x:Nat):U64s (w.alloc (Obj.cells #[Value.int .u64 (x:Int)] 144)) (.slice (some ⟨w.heap.size,0,none⟩) 1 1) [x]:=by
 refine ⟨rfl,_,_,rfl,Nat.le_refl _,by unfold maxLen;omega,fun _=>⟨w.heap.size,0,rfl,by simp,fun i hi=>?_⟩⟩
 obtain rfl:i=0:=by simpa using hi
 simp [World.cell?_alloc_new,pc64]
theorem integer_small (va:Value) (m d:Nat) (w:World) (hm:(pcs m).length≤1099511627775) (hd:d<1000000000) (ha:U64s w va (pcs m)) :
  Calls Tryz.prog 120 #[va,.int .u64 (d:Int)] w fun e w'=>∃ v',e=.returned v'∧U64s w' v' (pcs (m*d))∧Below w.heap.size w w'∧Fresh w.heap.size v':=by
 obtain ⟨p,c,rfl,_,_⟩:=ha.slice
 go_enter Tryz.func120,Tryz.ntmps120
 go_wp2_with fail
 refine (integer_trim _ [d] (by simp) (by simpa using hd) _ (U64s.one w d)).mono ?_
 rintro e w1 ⟨v1,rfl,hv1,rfl,-⟩
 have hvd:val [d]=d:=by simp [val]
 rw [hvd] at hv1
 have hbl:Below w.heap.size w (w.alloc (Obj.cells #[Value.int .u64 (d:Int)] 144)):=(Below.refl _ _).alloc (Nat.le_refl _) _
 have hd1:(pcs d).length≤1:=pcs_len_lt (by simpa using hd)
 have ha1:=ha.below hbl
 obtain ⟨p1,c1,rfl,_,_⟩:=hv1.slice
 clear hvd
 go_wp2_with fail
 refine (integer_times _ _ m d _ (by omega) (by omega) ha1 hv1).mono ?_
 rintro e w2 ⟨v2,rfl,hv2,hb2,hF2⟩
 have HF2:=hid hF2
 clear hF2
 obtain ⟨p2,c2,rfl,_,_⟩:=hv2.slice
 go_wp2
 go_ret
 exact ⟨_,rfl,hv2,hbl.trans (hb2.mono hbl.size),HF2.out.mono hbl.size⟩
def DivPost (m n:Nat) (w:World) (e:Ending) (w':World):Prop:=∃ q r,e=.returned (.tuple #[q,r])∧U64s w' q (pcs (m/n))∧U64s w' r (pcs (m % n))∧Below w.heap.size w w'∧Fresh w.heap.size q
theorem U64s.nil (w:World):U64s w (.slice none 0 0) []:=⟨rfl,_,_,rfl,Nat.le_refl _,by unfold maxLen;omega,fun h=>by simp at h⟩
def Two1 (w:World) (a b:Value) (W:World):Prop:=W.cell? ⟨w.heap.size,0,none⟩=some a∧W.cell? ⟨w.heap.size+1,0,none⟩=some b∧W.frozen? ⟨w.heap.size,0,none⟩=false∧W.frozen? ⟨w.heap.size+1,0,none⟩=false∧w.heap.size+2≤W.heap.size∧Below w.heap.size w W
theorem Two1.low {w W:World} {a b:Value} (h:Two1 w a b W):Below w.heap.size w W:=h.2.2.2.2.2
theorem cells2 {w wA:World} {a b:Value} {t t':TypeId} (h:wA=(w.alloc (Obj.cells #[a] t)).alloc (Obj.cells #[b] t')):Two1 w a b wA:=by
 have e1:(w.alloc (Obj.cells #[a] t)).heap.size=w.heap.size+1:=by simp
 have hb1:Below w.heap.size w (w.alloc (Obj.cells #[a] t)):=(Below.refl _ _).alloc (Nat.le_refl _) _
 have hb2:Below (w.heap.size+1) (w.alloc (Obj.cells #[a] t)) wA:=by rw [h];exact (Below.refl _ _).alloc (by omega) _
 refine ⟨?_,?_,?_,?_,?_,hb1.trans (hb2.mono (by omega))⟩
 ·rw [hb2.cell (by simp)];simp [World.cell?_alloc_new]
 ·rw [h,←e1];simp only [World.cell?_alloc_new];rfl
 ·rw [hb2.frozen (by simp)];simp
 ·rw [h,←e1];simp
 ·rw [h];simp
theorem Two1.keep {w W W':World} {a b:Value} (h:Two1 w a b W) (hb:Below W.heap.size W W'):Two1 w a b W':=by
 obtain ⟨c0,c1,f0,f1,hs,hw⟩:=h
 refine ⟨?_,?_,?_,?_,Nat.le_trans hs hb.size,hw.trans (hb.mono (by omega))⟩
 ·rw [hb.cell (by simp;omega)];exact c0
 ·rw [hb.cell (by simp;omega)];exact c1
 ·rw [hb.frozen (by simp;omega)];exact f0
 ·rw [hb.frozen (by simp;omega)];exact f1
theorem integer_divide_lt (va vb:Value) (m n:Nat) (w:World) (hmn:m<n) (ha:U64s w va (pcs m)) (hb:U64s w vb (pcs n)) :
  Calls Tryz.prog 90 #[va,vb] w (DivPost m n w):=by
 obtain ⟨p,c,rfl,_,_⟩:=ha.slice
 obtain ⟨q,d,rfl,_,_⟩:=hb.slice
 have hcm:decide (cmpI (m:Int) (n:Int)<0)=true:=by rw [cmpI_nat_lt];simpa using hmn
 go_enter Tryz.func90,Tryz.ntmps90
 go_wp2_with fail
 obtain ⟨wA,hwA⟩ : ∃ wA,wA=(w.alloc (Obj.cells #[Value.slice q (pcs n).length d] 112)).alloc (Obj.cells #[Value.slice none 0 0] 112):=⟨_,rfl⟩
 rw [←hwA]
 have hT:=cells2 hwA
 clear hwA
 refine (integer_order _ _ m n _ (ha.below hT.low) (hb.below hT.low)).mono ?_
 rintro e wB ⟨rfl,hbB⟩
 obtain ⟨c0,c1,f0,f1,hsB,hlB⟩:=hT.keep hbB
 generalize cmpI (m:Int) (n:Int)=cc at hcm ⊢
 clear hT
 go_wp2
 refine bodyPost_ret (v:=.tuple #[.slice none 0 0,.slice p (pcs m).length c]) (by simp [results,Tryz.results90,go_sem,c1]) rfl ⟨_,_,rfl,?_,?_,?_,Fresh.none _⟩
 ·rw [Nat.div_eq_of_lt hmn,pcs_zero];exact U64s.nil _
 ·rw [Nat.mod_eq_of_lt hmn];exact ha.below (hlB.setCell (Nat.le_succ _) _)
 ·exact hlB.setCell (Nat.le_succ _) _
end Go.Proofs.YtogdahbbogimcaaGreatDoor
