import Derived.Test.YtogdahbbogimcaaGreatDoorGcdZ
import Derived.Lib.IndexBytes
import Derived.Lib.IndexMore
set_option maxRecDepth 100000
set_option maxHeartbeats 2000000
namespace Go.Proofs.YtogdahbbogimcaaGreatDoor
open Go.RowKit
open Go.Lib (decDigits itoa nDigits)
open Go.Lib (hid)
theorem indexByte_app (A B:List UInt8) (h:∀ c∈A,c≠47):Lib.index (A++47 :: B) [47]=(A.length:Int):=by
 rw [Lib.index_one]
 induction A with
 | nil=>simp [Lib.indexByte]
 | cons c A ih =>
  have h1:=ih (fun x hx=>h x (List.mem_cons_of_mem _ hx))
  have h2:c≠47:=h c (List.mem_cons_self ..)
  simp only [List.cons_append,Lib.indexByte]
  simp [h1,h2]
theorem indexByte_none (A:List UInt8) (h:∀ c∈A,c≠47):Lib.index A [47] = -1:=by
 rw [Lib.index_one]
 induction A with
 | nil=>simp [Lib.indexByte]
 | cons c A ih =>
  have h1:=ih (fun x hx=>h x (List.mem_cons_of_mem _ hx))
  have h2:c≠47:=h c (List.mem_cons_self ..)
  simp only [Lib.indexByte]
  simp [h1,h2]
theorem cut47_yes {A B:List UInt8} (h:∀ c∈A,c≠47):Lib.cut (A++47 :: B) [47]=(A,B,true):=by
 unfold Lib.cut
 rw [indexByte_app A B h,if_pos (by omega)]
 simp [List.drop_append]
theorem cut47_no {A:List UInt8} (h:∀ c∈A,c≠47):Lib.cut A [47]=(A,[],false):=by
 unfold Lib.cut
 rw [indexByte_none A h,if_neg (by omega)]
theorem below_drewN (w:World) (n:Nat):Below w.heap.size w (w.drewN n):=⟨rfl,rfl,rfl,Nat.le_refl _,fun _ _=>rfl⟩
def PartsPost (q:Rat) (s:ByteArray) (w:World) (e:Ending) (w':World):Prop:=
 ∃ a b:ByteArray,e=.returned (.tuple #[.string a,.string b])∧IsI a q.num∧IsI b (q.den:Int)∧a.size≤s.size∧b.size≤s.size∧Below w.heap.size w w'
theorem mk_size (l:List UInt8):(⟨l.toArray⟩ : ByteArray).size=l.length:=by rw [Lib.size_eq]
theorem rational_Parts (s:ByteArray) (q:Rat) (h:IsR s q) (hs:s.size≤4000000000) (w:World) (hw:Good w) :
  Calls Tryz.prog 33 #[.string s] w (PartsPost q s w):=by
 obtain ⟨mm,hmm⟩:=hw.maxLen
 have hpos:=h.pos
 have hlen:=h.size
 have ht:s.data.toList=rtext q:=h
 by_cases hd:q.den=1
 ·have hc:Lib.cut s.data.toList [47]=(itoa q.num,[],false):=by
   rw [ht];unfold rtext rjoin;rw [if_pos hd];exact cut47_no (itoa_no47 _)
  have HC:=hid hc
  have HL:=hid hlen
  have HD:=hid hd
  clear hc hlen hd ht
  go_enter Tryz.func33,Tryz.ntmps33
  go_wp2_with fail
  refine (Tryz.strings_Cut s ⟨#[47]⟩ mm _ (by omega) hmm).mono ?_
  rintro e w' ⟨rfl,n,rfl⟩
  have hc2:Lib.cut s.data.toList (⟨#[47]⟩ : ByteArray).data.toList=(itoa q.num,[],false):=HC.out
  rw [hc2]
  clear hc2
  go_wp2
  go_ret2
  refine ⟨_,_,rfl,IsI.mk rfl,?_,?_,?_,below_drewN _ _⟩
  ·rw [HD.out];exact isI_one
  ·rw [mk_size,HL.out];unfold rtext rjoin;rw [if_pos HD.out];exact Nat.le_refl _
  ·exact hpos
 ·have hc:Lib.cut s.data.toList [47]=(itoa q.num,decDigits q.den,true):=by
   rw [ht];unfold rtext rjoin;rw [if_neg hd];exact cut47_yes (itoa_no47 _)
  have HC:=hid hc
  have HL:=hid hlen
  have HD:=hid hd
  clear hc hlen hd ht
  go_enter Tryz.func33,Tryz.ntmps33
  go_wp2_with fail
  refine (Tryz.strings_Cut s ⟨#[47]⟩ mm _ (by omega) hmm).mono ?_
  rintro e w' ⟨rfl,n,rfl⟩
  have hc2:Lib.cut s.data.toList (⟨#[47]⟩ : ByteArray).data.toList=(itoa q.num,decDigits q.den,true):=HC.out
  rw [hc2]
  clear hc2
  go_wp2
  go_ret2
  refine ⟨_,_,rfl,IsI.mk rfl,IsI.mk (itoa_nat _).symm,?_,?_,below_drewN _ _⟩
  ·rw [mk_size,HL.out];unfold rtext rjoin;rw [if_neg HD.out];simp
  ·rw [mk_size,HL.out];unfold rtext rjoin;rw [if_neg HD.out];simp;omega
theorem isI_size_le {s t:ByteArray} {m n:Int} (h:IsI s m) (k:IsI t n) (hl:n.natAbs≤m.natAbs):t.size≤s.size+1:=by
 rw [h.size,k.size,itoa_length,itoa_length]
 have:=nDigits_mono hl
 split <;> split <;> omega
theorem rational_join (a b:ByteArray) (n d:Int) (ha:IsI a n) (hb:IsI b d) (hd:0<d) (hsa:a.size≤9000000010) (hsb:b.size≤9000000010) (w:World) :
  Calls Tryz.prog 63 #[.string a,.string b] w fun e w'=>∃ r:ByteArray,e=.returned (.string r)∧r.data.toList=rjoin n d.toNat∧w=w':=by
 have h1:(b.toList == [49])=decide (d=1):=hb.one
 have HA:=hid ha
 have HB:=hid hb
 clear ha hb
 by_cases hd1:d=1
 ·rw [decide_eq_true hd1] at h1
  have HD:=hid hd1
  clear hd1
  go_enter Tryz.func63,Tryz.ntmps63
  go_wp2
  go_ret
  refine ⟨_,rfl,?_,rfl⟩
  rw [HD.out]
  exact HA.out
 ·rw [decide_eq_false hd1] at h1
  have HD:=hid hd1
  clear hd1
  go_enter Tryz.func63,Tryz.ntmps63
  go_wp2
  go_ret
  refine ⟨_,rfl,?_,rfl⟩
  have h2:=HD.out
  rw [←frac_text HA.out HB.out (by omega)]
  try simp
theorem rational_lowest (a b:ByteArray) (n d:Int) (ha:IsI a n) (hb:IsI b d) (hd:d≠0) (hsa:a.size≤8999999999) (hsb:b.size≤8999999999) (w:World) (hw:Good w) :
  Calls Tryz.prog 34 #[.string a,.string b] w fun e w'=>∃ r:ByteArray,e=.returned (.string r)∧IsR r (Rat.divInt n d)∧Below w.heap.size w w':=by
 have HA:=hid ha
 have HB:=hid hb
 clear ha hb
 have hbw:=Below.refl w.heap.size w
 by_cases hneg:d<0
 ·have hs1:decide (sgn d<0)=true:=by rw [sgn_neg hneg];rfl
  have HDI:=hid (divInt_negneg n d)
  go_enter Tryz.func34,Tryz.ntmps34
  go_wp2_with fail
  refine (integer_Sign b d HB.out _).mono ?_
  rintro e w1 ⟨rfl,rfl⟩
  generalize sgn d=sd at hs1 ⊢
  go_wp2_with fail
  refine (integer_Neg a n HA.out _ (by omega)).mono ?_
  rintro e w1 ⟨a2,rfl,ha2,rfl⟩
  go_wp2_with fail
  refine (integer_Neg b d HB.out _ (by omega)).mono ?_
  rintro e w1 ⟨b2,rfl,hb2,rfl⟩
  have ha2s:=isI_size_le HA.out ha2 (by omega)
  have hb2s:=isI_size_le HB.out hb2 (by omega)
  have HA2:=hid ha2
  have HB2:=hid hb2
  clear ha2 hb2
  obtain ⟨G,hG⟩ : ∃ G,G=Int.gcd (-n) (-d):=⟨_,rfl⟩
  have hg0:0<G:=by rw [hG];exact Int.gcd_pos_of_ne_zero_right _ (by omega)
  have d1:(G:Int) ∣ -n:=by rw [hG];exact Int.gcd_dvd_left ..
  have d2:(G:Int) ∣ -d:=by rw [hG];exact Int.gcd_dvd_right ..
  have hq1:((-n)/(G:Int)).natAbs≤(-n).natAbs:=by rw [←tdiv_gcd d1,Int.natAbs_tdiv];exact Nat.div_le_self _ _
  have hq2:0<(-d)/(G:Int):=Int.ediv_pos_of_pos_of_dvd (by omega) (by omega) d2
  have HTX:=hid (lowest_text (n:=-n) (d:=-d) (by omega))
  have HQ1:=hid hq1
  have HGE:=hid hG
  have hGz:(G:Int)≠0:=by omega
  rw [←hG] at HTX
  clear d1 d2 hq1 hG
  go_wp2_with fail
  refine (integer_Gcd a2 b2 (-n) (-d) HA2.out HB2.out (by omega) (by omega) _ (hw.below hbw)).mono ?_
  rintro e w3 ⟨g,rfl,hg,hb3⟩
  have hgs:g.size≤b2.size:=by
   rw [hg.size,(HB2.out).size,itoa_nat,itoa_nonneg (n:=-d) (by omega)]
   rw [decDigits_len,decDigits_len]
   exact nDigits_mono (by have:=HGE.out;have h5:=Int.gcd_le_right (-n) (b:=-d) (by omega);omega)
  rw [←HGE.out] at hg
  have hb13:=(hbw).trans (hb3.mono (hbw).size)
  by_cases hg1:(G:Int)=1
  ·have hone:(g.toList == [49])=true:=by rw [hg.one];simpa using hg1
   have hone':(g.toList != [49])=false:=by simp only [bne,hone];rfl
   have HG1:=hid hg1
   clear hg1 hg
   go_wp2_with fail
   refine (rational_join a2 b2 (-n) (-d) HA2.out HB2.out (by omega) (by omega) (by omega) _).mono ?_
   rintro e w4 ⟨r,rfl,hr,rfl⟩
   have HR:=hid hr
   clear hr
   go_wp2
   go_ret
   refine ⟨_,rfl,?_,hb13⟩
   have h7:=HTX.out
   rw [HG1.out,Int.ediv_one,Int.ediv_one] at h7
   exact HR.out.trans (h7.symm.trans (by rw [HDI.out]))
  ·have hone:(g.toList == [49])=false:=by rw [hg.one];simpa using hg1
   have hone':(g.toList != [49])=true:=by simp only [bne,hone];rfl
   have HGI:=hid hg
   clear hg1 hg
   go_wp2_with fail
   refine (integer_DivMod a2 g (-n) (G:Int) HA2.out HGI.out hGz (by omega) (by omega) _ (hw.below hb13)).mono ?_
   rintro e w4 ⟨q4,r4,rfl,hq4,hr4,hb4⟩
   have hb14:=hb13.trans (hb4.mono hb13.size)
   have HQ4:=hid hq4
   have hq4s:=isI_size_le HA2.out hq4 HQ1.out
   clear hq4 hr4
   go_wp2_with fail
   refine (integer_DivMod b2 g (-d) (G:Int) HB2.out HGI.out hGz (by omega) (by omega) _ (hw.below hb14)).mono ?_
   rintro e w5 ⟨q5,r5,rfl,hq5,hr5,hb5⟩
   have hb15:=hb14.trans (hb5.mono hb14.size)
   have hq5s:=isI_size_le HB2.out hq5 (by have:=Int.ediv_le_self (a:=-d) (G:Int) (by omega);omega)
   have HQ5:=hid hq5
   clear hq5 hr5
   go_wp2_with fail
   refine (rational_join q4 q5 ((-n)/(G:Int)) ((-d)/(G:Int)) HQ4.out HQ5.out (by omega) (by omega) (by omega) _).mono ?_
   rintro e w6 ⟨r,rfl,hr,rfl⟩
   have HR:=hid hr
   clear hr
   go_wp2
   go_ret
   refine ⟨_,rfl,?_,hb15⟩
   exact HR.out.trans (HTX.out.symm.trans (by rw [HDI.out]))
 ·have hs1:decide (sgn d<0)=false:=by rw [sgn_pos (by omega)];rfl
  go_enter Tryz.func34,Tryz.ntmps34
  go_wp2_with fail
  refine (integer_Sign b d HB.out _).mono ?_
  rintro e w1 ⟨rfl,rfl⟩
  generalize sgn d=sd at hs1 ⊢
  obtain ⟨G,hG⟩ : ∃ G,G=Int.gcd (n) (d):=⟨_,rfl⟩
  have hg0:0<G:=by rw [hG];exact Int.gcd_pos_of_ne_zero_right _ (by omega)
  have d1:(G:Int)∣n:=by rw [hG];exact Int.gcd_dvd_left ..
  have d2:(G:Int)∣d:=by rw [hG];exact Int.gcd_dvd_right ..
  have hq1:((n)/(G:Int)).natAbs≤(n).natAbs:=by rw [←tdiv_gcd d1,Int.natAbs_tdiv];exact Nat.div_le_self _ _
  have hq2:0<(d)/(G:Int):=Int.ediv_pos_of_pos_of_dvd (by omega) (by omega) d2
  have HTX:=hid (lowest_text (n:=n) (d:=d) (by omega))
  have HQ1:=hid hq1
  have HGE:=hid hG
  have hGz:(G:Int)≠0:=by omega
  rw [←hG] at HTX
  clear d1 d2 hq1 hG
  go_wp2_with fail
  refine (integer_Gcd a b (n) (d) HA.out HB.out (by omega) (by omega) _ (hw.below hbw)).mono ?_
  rintro e w3 ⟨g,rfl,hg,hb3⟩
  have hgs:g.size≤b.size:=by
   rw [hg.size,(HB.out).size,itoa_nat,itoa_nonneg (n:=d) (by omega)]
   rw [decDigits_len,decDigits_len]
   exact nDigits_mono (by have:=HGE.out;have h5:=Int.gcd_le_right (n) (b:=d) (by omega);omega)
  rw [←HGE.out] at hg
  have hb13:=(hbw).trans (hb3.mono (hbw).size)
  by_cases hg1:(G:Int)=1
  ·have hone:(g.toList == [49])=true:=by rw [hg.one];simpa using hg1
   have hone':(g.toList != [49])=false:=by simp only [bne,hone];rfl
   have HG1:=hid hg1
   clear hg1 hg
   go_wp2_with fail
   refine (rational_join a b (n) (d) HA.out HB.out (by omega) (by omega) (by omega) _).mono ?_
   rintro e w4 ⟨r,rfl,hr,rfl⟩
   have HR:=hid hr
   clear hr
   go_wp2
   go_ret
   refine ⟨_,rfl,?_,hb13⟩
   have h7:=HTX.out
   rw [HG1.out,Int.ediv_one,Int.ediv_one] at h7
   exact HR.out.trans (h7.symm.trans rfl)
  ·have hone:(g.toList == [49])=false:=by rw [hg.one];simpa using hg1
   have hone':(g.toList != [49])=true:=by simp only [bne,hone];rfl
   have HGI:=hid hg
   clear hg1 hg
   go_wp2_with fail
   refine (integer_DivMod a g (n) (G:Int) HA.out HGI.out hGz (by omega) (by omega) _ (hw.below hb13)).mono ?_
   rintro e w4 ⟨q4,r4,rfl,hq4,hr4,hb4⟩
   have hb14:=hb13.trans (hb4.mono hb13.size)
   have HQ4:=hid hq4
   have hq4s:=isI_size_le HA.out hq4 HQ1.out
   clear hq4 hr4
   go_wp2_with fail
   refine (integer_DivMod b g (d) (G:Int) HB.out HGI.out hGz (by omega) (by omega) _ (hw.below hb14)).mono ?_
   rintro e w5 ⟨q5,r5,rfl,hq5,hr5,hb5⟩
   have hb15:=hb14.trans (hb5.mono hb14.size)
   have hq5s:=isI_size_le HB.out hq5 (by have:=Int.ediv_le_self (a:=d) (G:Int) (by omega);omega)
   have HQ5:=hid hq5
   clear hq5 hr5
   go_wp2_with fail
   refine (rational_join q4 q5 ((n)/(G:Int)) ((d)/(G:Int)) HQ4.out HQ5.out (by omega) (by omega) (by omega) _).mono ?_
   rintro e w6 ⟨r,rfl,hr,rfl⟩
   have HR:=hid hr
   clear hr
   go_wp2
   go_ret
   refine ⟨_,rfl,?_,hb15⟩
   exact HR.out.trans (HTX.out.symm.trans rfl)
theorem nDigits_mul_le (m n:Nat):nDigits (m*n)≤nDigits m+nDigits n:=by
 have h1:=lt_of_nDigits_le (n:=m) (Nat.le_refl _)
 have h2:=lt_of_nDigits_le (n:=n) (Nat.le_refl _)
 have h3:0<nDigits m:=by rw [←decDigits_len];exact List.length_pos_iff.2 (decDigits_ne_nil _)
 refine nDigits_le_of_lt ?_ (by omega)
 rw [Nat.pow_add]
 exact Nat.mul_lt_mul'' h1 h2
theorem nDigits_add_le (m n:Nat):nDigits (m+n)≤nDigits m+nDigits n:=by
 have h1:=lt_of_nDigits_le (n:=m) (Nat.le_refl _)
 have h2:=lt_of_nDigits_le (n:=n) (Nat.le_refl _)
 have h3:0<nDigits m:=by rw [←decDigits_len];exact List.length_pos_iff.2 (decDigits_ne_nil _)
 have h4:0<nDigits n:=by rw [←decDigits_len];exact List.length_pos_iff.2 (decDigits_ne_nil _)
 refine nDigits_le_of_lt ?_ (by omega)
 rw [Nat.pow_add]
 obtain ⟨x,hx⟩ : ∃ x,x=10 ^ nDigits m:=⟨_,rfl⟩
 obtain ⟨y,hy⟩ : ∃ y,y=10 ^ nDigits n:=⟨_,rfl⟩
 have hx2:10 ^ 1≤x:=by rw [hx];exact Nat.pow_le_pow_right (by decide) h3
 have hy2:10 ^ 1≤y:=by rw [hy];exact Nat.pow_le_pow_right (by decide) h4
 rw [←hx] at h1 ⊢
 rw [←hy] at h2 ⊢
 have h5:x*10≤x*y:=Nat.mul_le_mul_left _ (by omega)
 have h6:10*y≤x*y:=Nat.mul_le_mul_right _ (by omega)
 omega
theorem isI_mul_size {s t r:ByteArray} {m n:Int} (h:IsI s m) (k:IsI t n) (hr:IsI r (m*n)):r.size≤s.size+t.size+1:=by
 rw [h.size,k.size,hr.size,itoa_length,itoa_length,itoa_length,Int.natAbs_mul]
 have:=nDigits_mul_le m.natAbs n.natAbs
 split <;> omega
theorem isI_add_size {s t r:ByteArray} {m n:Int} (h:IsI s m) (k:IsI t n) (hr:IsI r (m+n)):r.size≤s.size+t.size+1:=by
 rw [h.size,k.size,hr.size,itoa_length,itoa_length,itoa_length]
 have h1:=nDigits_add_le m.natAbs n.natAbs
 have h2:=nDigits_mono (show (m+n).natAbs≤m.natAbs+n.natAbs by omega)
 split <;> omega
theorem Short.mul {p q:Rat} (hp:Short p) (hq:Short q):(p.num*q.den).natAbs≤999999998000000001:=by
 rw [Int.natAbs_mul]
 have:=Nat.mul_le_mul (show p.num.natAbs≤999999999 by have:=hp.1;omega) (show (q.den:Int).natAbs≤999999999 by have:=hq.2;omega)
 omega
theorem Short.mul2 {p q:Rat} (hp:Short p) (hq:Short q):-999999998000000001≤p.num*q.den∧p.num*q.den≤999999998000000001:=by
 have:=hp.mul hq;omega
theorem rational_Compare (a b:ByteArray) (p q:Rat) (ha:IsR a p) (hb:IsR b q) (hsa:a.size≤1000000000) (hsb:b.size≤1000000000) (w:World) (hw:Good w) :
  Calls Tryz.prog 22 #[.string a,.string b] w fun e w'=>e=.returned (.int .i64 (cmpR p q))∧Below w.heap.size w w':=by
 have hbe:=ha.beq2 hb
 have HA:=hid ha
 have HB:=hid hb
 clear ha hb
 by_cases hpq:p=q
 ·rw [decide_eq_true hpq] at hbe
  have HF:=hid (cmpR_zero.2 hpq)
  clear hpq
  go_enter Tryz.func22,Tryz.ntmps22
  go_wp2
  go_ret
  exact ⟨ret_int HF.out.symm,Below.refl _ _⟩
 ·rw [decide_eq_false hpq] at hbe
  clear hpq
  by_cases hp:Short p
  ·by_cases hq:Short q
   ·go_enter Tryz.func22,Tryz.ntmps22
    go_wp2_with fail
    refine (rational_quick a p HA.out (by omega) _).mono ?_
    rintro e w1 ⟨hq1,-,rfl⟩
    obtain rfl:=hq1 hp
    go_wp2_with fail
    refine (rational_quick b q HB.out (by omega) _).mono ?_
    rintro e w1 ⟨hq2,-,rfl⟩
    obtain rfl:=hq2 hq
    obtain ⟨r1,r2⟩:=hp.mul2 hq
    obtain ⟨r3,r4⟩:=hq.mul2 hp
    rcases Int.lt_trichotomy (p.num*(q.den:Int)) (q.num*(p.den:Int)) with hlt | hlt | hlt
    ·have e1:decide (p.num*(q.den:Int)<q.num*(p.den:Int))=true:=by simpa using hlt
     have HF:=hid (show cmpR p q = -1 by unfold cmpR cmpI;rw [if_pos hlt])
     clear hlt
     go_wp2
     go_ret
     exact ⟨ret_int HF.out.symm,Below.refl _ _⟩
    ·have e1:decide (p.num*(q.den:Int)<q.num*(p.den:Int))=false:=by simp;omega
     have e2:decide (q.num*(p.den:Int)<p.num*(q.den:Int))=false:=by simp;omega
     have HF:=hid (show cmpR p q=0 by unfold cmpR cmpI;rw [if_neg (by omega),if_pos hlt])
     clear hlt
     go_wp2
     go_ret
     exact ⟨ret_int HF.out.symm,Below.refl _ _⟩
    ·have e1:decide (p.num*(q.den:Int)<q.num*(p.den:Int))=false:=by simp;omega
     have e2:decide (q.num*(p.den:Int)<p.num*(q.den:Int))=true:=by simpa using hlt
     have HF:=hid (show cmpR p q=1 by unfold cmpR cmpI;rw [if_neg (by omega),if_neg (by omega)])
     clear hlt
     go_wp2
     go_ret
     exact ⟨ret_int HF.out.symm,Below.refl _ _⟩
   ·go_enter Tryz.func22,Tryz.ntmps22
    go_wp2_with fail
    refine (rational_quick a p HA.out (by omega) _).mono ?_
    rintro e w1 ⟨hq1,-,rfl⟩
    obtain rfl:=hq1 hp
    go_wp2_with fail
    refine (rational_quick b q HB.out (by omega) _).mono ?_
    rintro e w1 ⟨-,hq2,rfl⟩
    obtain rfl:=hq2 hq
    go_wp2_with fail
    refine (rational_Parts a p HA.out (by omega) _ hw).mono ?_
    rintro e w1 ⟨a1,a2,rfl,ha1,ha2,hsa1,hsa2,hb1⟩
    have HA1:=hid ha1
    have HA2:=hid ha2
    clear ha1 ha2
    go_wp2_with fail
    refine (rational_Parts b q HB.out (by omega) _ (hw.below hb1)).mono ?_
    rintro e w2 ⟨b1,b2,rfl,hb1',hb2',hsb1,hsb2,hb2⟩
    have HB1:=hid hb1'
    have HB2:=hid hb2'
    clear hb1' hb2'
    have hb12:=hb1.trans (hb2.mono hb1.size)
    go_wp2_with fail
    refine (integer_Mul a1 b2 _ _ HA1.out HB2.out (by omega) (by omega) _ (hw.below hb12)).mono ?_
    rintro e w3 ⟨x,rfl,hx,hb3⟩
    have hxs:=isI_mul_size HA1.out HB2.out hx
    have HX:=hid hx
    clear hx
    have hb13:=hb12.trans (hb3.mono hb12.size)
    go_wp2_with fail
    refine (integer_Mul b1 a2 _ _ HB1.out HA2.out (by omega) (by omega) _ (hw.below hb13)).mono ?_
    rintro e w4 ⟨y,rfl,hy,hb4⟩
    have hys:=isI_mul_size HB1.out HA2.out hy
    have HY:=hid hy
    clear hy
    have hb14:=hb13.trans (hb4.mono hb13.size)
    go_wp2_with fail
    refine (integer_Compare x y _ _ HX.out HY.out (by omega) (by omega) _).mono ?_
    rintro e w5 ⟨rfl,rfl⟩
    go_wp2
    go_ret
    exact ⟨rfl,hb14⟩
  ·go_enter Tryz.func22,Tryz.ntmps22
   go_wp2_with fail
   refine (rational_quick a p HA.out (by omega) _).mono ?_
   rintro e w1 ⟨-,hq1,rfl⟩
   obtain rfl:=hq1 hp
   go_wp2_with fail
   refine (rational_Parts a p HA.out (by omega) _ hw).mono ?_
   rintro e w1 ⟨a1,a2,rfl,ha1,ha2,hsa1,hsa2,hb1⟩
   have HA1:=hid ha1
   have HA2:=hid ha2
   clear ha1 ha2
   go_wp2_with fail
   refine (rational_Parts b q HB.out (by omega) _ (hw.below hb1)).mono ?_
   rintro e w2 ⟨b1,b2,rfl,hb1',hb2',hsb1,hsb2,hb2⟩
   have HB1:=hid hb1'
   have HB2:=hid hb2'
   clear hb1' hb2'
   have hb12:=hb1.trans (hb2.mono hb1.size)
   go_wp2_with fail
   refine (integer_Mul a1 b2 _ _ HA1.out HB2.out (by omega) (by omega) _ (hw.below hb12)).mono ?_
   rintro e w3 ⟨x,rfl,hx,hb3⟩
   have hxs:=isI_mul_size HA1.out HB2.out hx
   have HX:=hid hx
   clear hx
   have hb13:=hb12.trans (hb3.mono hb12.size)
   go_wp2_with fail
   refine (integer_Mul b1 a2 _ _ HB1.out HA2.out (by omega) (by omega) _ (hw.below hb13)).mono ?_
   rintro e w4 ⟨y,rfl,hy,hb4⟩
   have hys:=isI_mul_size HB1.out HA2.out hy
   have HY:=hid hy
   clear hy
   have hb14:=hb13.trans (hb4.mono hb13.size)
   go_wp2_with fail
   refine (integer_Compare x y _ _ HX.out HY.out (by omega) (by omega) _).mono ?_
   rintro e w5 ⟨rfl,rfl⟩
   go_wp2
   go_ret
   exact ⟨rfl,hb14⟩
theorem add_divInt (p q:Rat):p+q=Rat.divInt (p.num*q.den+q.num*p.den) ((p.den:Int)*(q.den:Int)):=by
 rw [add_frac,←Int.natCast_mul,Rat.divInt_ofNat]
theorem mul_divInt (p q:Rat):p*q=Rat.divInt (p.num*q.num) ((p.den:Int)*(q.den:Int)):=by
 rw [mul_frac,←Int.natCast_mul,Rat.divInt_ofNat]
theorem Short.dens {p q:Rat} (hp:Short p) (hq:Short q):0<(p.den:Int)*(q.den:Int)∧(p.den:Int)*(q.den:Int)≤999999998000000001:=by
 have h1:=Nat.mul_le_mul (show p.den≤999999999 by have:=hp.2;omega) (show q.den≤999999999 by have:=hq.2;omega)
 have h2:=Nat.mul_pos p.den_pos q.den_pos
 rw [←Int.natCast_mul]
 omega
theorem Short.nums {p q:Rat} (hp:Short p) (hq:Short q):-999999998000000001≤p.num*q.num∧p.num*q.num≤999999998000000001:=by
 have h1:=Nat.mul_le_mul (show p.num.natAbs≤999999999 by have:=hp.1;omega) (show q.num.natAbs≤999999999 by have:=hq.1;omega)
 rw [←Int.natAbs_mul] at h1
 omega
theorem dens_ne (p q:Rat):(p.den:Int)*(q.den:Int)≠0:=by
 have h2:=Nat.mul_pos p.den_pos q.den_pos
 rw [←Int.natCast_mul]
 omega
theorem rational_Add (a b:ByteArray) (p q:Rat) (ha:IsR a p) (hb:IsR b q) (hsa:a.size≤1000000000) (hsb:b.size≤1000000000) (w:World) (hw:Good w) :
  Calls Tryz.prog 52 #[.string a,.string b] w fun e w'=>∃ r:ByteArray,e=.returned (.string r)∧IsR r (p+q)∧Below w.heap.size w w':=by
 have hza:=ha.zero
 have hzb:=hb.zero
 have HA:=hid ha
 have HB:=hid hb
 have HDD:=hid (dens_ne p q)
 clear ha hb
 by_cases hp0:p=0
 ·rw [decide_eq_true hp0] at hza
  have HP:=hid hp0
  clear hp0
  go_enter Tryz.func52,Tryz.ntmps52
  go_wp2
  go_ret
  exact ⟨_,rfl,by rw [HP.out,Rat.zero_add];exact HB.out,Below.refl _ _⟩
 ·rw [decide_eq_false hp0] at hza
  clear hp0
  by_cases hq0:q=0
  ·rw [decide_eq_true hq0] at hzb
   have HQ:=hid hq0
   clear hq0
   go_enter Tryz.func52,Tryz.ntmps52
   go_wp2
   go_ret
   exact ⟨_,rfl,by rw [HQ.out,Rat.add_zero];exact HA.out,Below.refl _ _⟩
  ·rw [decide_eq_false hq0] at hzb
   clear hq0
   by_cases hp:Short p
   ·by_cases hq:Short q
    ·go_enter Tryz.func52,Tryz.ntmps52
     go_wp2_with fail
     refine (rational_quick a p HA.out (by omega) _).mono ?_
     rintro e w1 ⟨hq1,-,rfl⟩
     obtain rfl:=hq1 hp
     go_wp2_with fail
     refine (rational_quick b q HB.out (by omega) _).mono ?_
     rintro e w1 ⟨hq2,-,rfl⟩
     obtain rfl:=hq2 hq
     obtain ⟨r1,r2⟩:=hp.mul2 hq
     obtain ⟨r3,r4⟩:=hq.mul2 hp
     obtain ⟨r5,r6⟩:=hp.dens hq
     go_wp2_with fail
     refine (rational_small _ _ r5 (by omega) (by omega) _ hw).mono ?_
     rintro e w3 ⟨r,rfl,hr,hb3⟩
     have HR:=hid hr
     clear hr
     go_wp2
     go_ret
     exact ⟨_,rfl,by rw [add_divInt];exact HR.out,hb3⟩
    ·go_enter Tryz.func52,Tryz.ntmps52
     go_wp2_with fail
     refine (rational_quick a p HA.out (by omega) _).mono ?_
     rintro e w1 ⟨hq1,-,rfl⟩
     obtain rfl:=hq1 hp
     go_wp2_with fail
     refine (rational_quick b q HB.out (by omega) _).mono ?_
     rintro e w1 ⟨-,hq2,rfl⟩
     obtain rfl:=hq2 hq
     go_wp2_with fail
     refine (rational_Parts a p HA.out (by omega) _ hw).mono ?_
     rintro e w1 ⟨a1,a2,rfl,ha1,ha2,hsa1,hsa2,hb1⟩
     have HA1:=hid ha1
     have HA2:=hid ha2
     clear ha1 ha2
     go_wp2_with fail
     refine (rational_Parts b q HB.out (by omega) _ (hw.below hb1)).mono ?_
     rintro e w2 ⟨b1,b2,rfl,hb1',hb2',hsb1,hsb2,hb2⟩
     have HB1:=hid hb1'
     have HB2:=hid hb2'
     clear hb1' hb2'
     have hb12:=hb1.trans (hb2.mono hb1.size)
     go_wp2_with fail
     refine (integer_Mul a1 b2 _ _ HA1.out HB2.out (by omega) (by omega) _ (hw.below hb12)).mono ?_
     rintro e w3 ⟨x,rfl,hx,hb3⟩
     have hxs:=isI_mul_size HA1.out HB2.out hx
     have HX:=hid hx
     clear hx
     have hb13:=hb12.trans (hb3.mono hb12.size)
     go_wp2_with fail
     refine (integer_Mul b1 a2 _ _ HB1.out HA2.out (by omega) (by omega) _ (hw.below hb13)).mono ?_
     rintro e w4 ⟨y,rfl,hy,hb4⟩
     have hys:=isI_mul_size HB1.out HA2.out hy
     have HY:=hid hy
     clear hy
     have hb14:=hb13.trans (hb4.mono hb13.size)
     go_wp2_with fail
     refine (integer_Add x y _ _ HX.out HY.out (by omega) (by omega) _ (hw.below hb14)).mono ?_
     rintro e w5 ⟨z,rfl,hz,hb5⟩
     have hzs:=isI_add_size HX.out HY.out hz
     have HZ:=hid hz
     clear hz
     have hb15:=hb14.trans (hb5.mono hb14.size)
     go_wp2_with fail
     refine (integer_Mul a2 b2 _ _ HA2.out HB2.out (by omega) (by omega) _ (hw.below hb15)).mono ?_
     rintro e w6 ⟨v,rfl,hv,hb6⟩
     have hvs:=isI_mul_size HA2.out HB2.out hv
     have HV:=hid hv
     clear hv
     have hb16:=hb15.trans (hb6.mono hb15.size)
     go_wp2_with fail
     refine (rational_lowest z v _ _ HZ.out HV.out HDD.out (by omega) (by omega) _ (hw.below hb16)).mono ?_
     rintro e w7 ⟨r,rfl,hr,hb7⟩
     have HR:=hid hr
     clear hr
     go_wp2
     go_ret
     exact ⟨_,rfl,by rw [add_divInt];exact HR.out,hb16.trans (hb7.mono hb16.size)⟩
   ·go_enter Tryz.func52,Tryz.ntmps52
    go_wp2_with fail
    refine (rational_quick a p HA.out (by omega) _).mono ?_
    rintro e w1 ⟨-,hq1,rfl⟩
    obtain rfl:=hq1 hp
    go_wp2_with fail
    refine (rational_Parts a p HA.out (by omega) _ hw).mono ?_
    rintro e w1 ⟨a1,a2,rfl,ha1,ha2,hsa1,hsa2,hb1⟩
    have HA1:=hid ha1
    have HA2:=hid ha2
    clear ha1 ha2
    go_wp2_with fail
    refine (rational_Parts b q HB.out (by omega) _ (hw.below hb1)).mono ?_
    rintro e w2 ⟨b1,b2,rfl,hb1',hb2',hsb1,hsb2,hb2⟩
    have HB1:=hid hb1'
    have HB2:=hid hb2'
    clear hb1' hb2'
    have hb12:=hb1.trans (hb2.mono hb1.size)
    go_wp2_with fail
    refine (integer_Mul a1 b2 _ _ HA1.out HB2.out (by omega) (by omega) _ (hw.below hb12)).mono ?_
    rintro e w3 ⟨x,rfl,hx,hb3⟩
    have hxs:=isI_mul_size HA1.out HB2.out hx
    have HX:=hid hx
    clear hx
    have hb13:=hb12.trans (hb3.mono hb12.size)
    go_wp2_with fail
    refine (integer_Mul b1 a2 _ _ HB1.out HA2.out (by omega) (by omega) _ (hw.below hb13)).mono ?_
    rintro e w4 ⟨y,rfl,hy,hb4⟩
    have hys:=isI_mul_size HB1.out HA2.out hy
    have HY:=hid hy
    clear hy
    have hb14:=hb13.trans (hb4.mono hb13.size)
    go_wp2_with fail
    refine (integer_Add x y _ _ HX.out HY.out (by omega) (by omega) _ (hw.below hb14)).mono ?_
    rintro e w5 ⟨z,rfl,hz,hb5⟩
    have hzs:=isI_add_size HX.out HY.out hz
    have HZ:=hid hz
    clear hz
    have hb15:=hb14.trans (hb5.mono hb14.size)
    go_wp2_with fail
    refine (integer_Mul a2 b2 _ _ HA2.out HB2.out (by omega) (by omega) _ (hw.below hb15)).mono ?_
    rintro e w6 ⟨v,rfl,hv,hb6⟩
    have hvs:=isI_mul_size HA2.out HB2.out hv
    have HV:=hid hv
    clear hv
    have hb16:=hb15.trans (hb6.mono hb15.size)
    go_wp2_with fail
    refine (rational_lowest z v _ _ HZ.out HV.out HDD.out (by omega) (by omega) _ (hw.below hb16)).mono ?_
    rintro e w7 ⟨r,rfl,hr,hb7⟩
    have HR:=hid hr
    clear hr
    go_wp2
    go_ret
    exact ⟨_,rfl,by rw [add_divInt];exact HR.out,hb16.trans (hb7.mono hb16.size)⟩
theorem rational_Mul (a b:ByteArray) (p q:Rat) (ha:IsR a p) (hb:IsR b q) (hsa:a.size≤1000000000) (hsb:b.size≤1000000000) (w:World) (hw:Good w) :
  Calls Tryz.prog 10 #[.string a,.string b] w fun e w'=>∃ r:ByteArray,e=.returned (.string r)∧IsR r (p*q)∧Below w.heap.size w w':=by
 have hza:=ha.zero
 have hzb:=hb.zero
 have hoa:=ha.one
 have hob:=hb.one
 have HA:=hid ha
 have HB:=hid hb
 have HDD:=hid (dens_ne p q)
 clear ha hb
 by_cases hp0:p=0
 ·rw [decide_eq_true hp0] at hza
  have HP:=hid hp0
  clear hp0 hoa hob hzb
  go_enter Tryz.func10,Tryz.ntmps10
  go_wp2
  go_ret
  exact ⟨_,rfl,by rw [HP.out,Rat.zero_mul];exact isR_zero,Below.refl _ _⟩
 ·rw [decide_eq_false hp0] at hza
  clear hp0
  by_cases hq0:q=0
  ·rw [decide_eq_true hq0] at hzb
   have HQ:=hid hq0
   clear hq0 hoa hob
   go_enter Tryz.func10,Tryz.ntmps10
   go_wp2
   go_ret
   exact ⟨_,rfl,by rw [HQ.out,Rat.mul_zero];exact isR_zero,Below.refl _ _⟩
  ·rw [decide_eq_false hq0] at hzb
   clear hq0
   by_cases hp1:p=1
   ·rw [decide_eq_true hp1] at hoa
    have HP:=hid hp1
    clear hp1 hob
    go_enter Tryz.func10,Tryz.ntmps10
    go_wp2
    go_ret
    exact ⟨_,rfl,by rw [HP.out,Rat.one_mul];exact HB.out,Below.refl _ _⟩
   ·rw [decide_eq_false hp1] at hoa
    clear hp1
    by_cases hq1:q=1
    ·rw [decide_eq_true hq1] at hob
     have HQ:=hid hq1
     clear hq1
     go_enter Tryz.func10,Tryz.ntmps10
     go_wp2
     go_ret
     exact ⟨_,rfl,by rw [HQ.out,Rat.mul_one];exact HA.out,Below.refl _ _⟩
    ·rw [decide_eq_false hq1] at hob
     clear hq1
     by_cases hp:Short p
     ·by_cases hq:Short q
      ·go_enter Tryz.func10,Tryz.ntmps10
       go_wp2_with fail
       refine (rational_quick a p HA.out (by omega) _).mono ?_
       rintro e w1 ⟨hq1,-,rfl⟩
       obtain rfl:=hq1 hp
       go_wp2_with fail
       refine (rational_quick b q HB.out (by omega) _).mono ?_
       rintro e w1 ⟨hq2,-,rfl⟩
       obtain rfl:=hq2 hq
       obtain ⟨r1,r2⟩:=hp.nums hq
       obtain ⟨r5,r6⟩:=hp.dens hq
       go_wp2_with fail
       refine (rational_small _ _ r5 (by omega) (by omega) _ hw).mono ?_
       rintro e w3 ⟨r,rfl,hr,hb3⟩
       have HR:=hid hr
       clear hr
       go_wp2
       go_ret
       exact ⟨_,rfl,by rw [mul_divInt];exact HR.out,hb3⟩
      ·go_enter Tryz.func10,Tryz.ntmps10
       go_wp2_with fail
       refine (rational_quick a p HA.out (by omega) _).mono ?_
       rintro e w1 ⟨hq1,-,rfl⟩
       obtain rfl:=hq1 hp
       go_wp2_with fail
       refine (rational_quick b q HB.out (by omega) _).mono ?_
       rintro e w1 ⟨-,hq2,rfl⟩
       obtain rfl:=hq2 hq
       go_wp2_with fail
       refine (rational_Parts a p HA.out (by omega) _ hw).mono ?_
       rintro e w1 ⟨a1,a2,rfl,ha1,ha2,hsa1,hsa2,hb1⟩
       have HA1:=hid ha1
       have HA2:=hid ha2
       clear ha1 ha2
       go_wp2_with fail
       refine (rational_Parts b q HB.out (by omega) _ (hw.below hb1)).mono ?_
       rintro e w2 ⟨b1,b2,rfl,hb1',hb2',hsb1,hsb2,hb2⟩
       have HB1:=hid hb1'
       have HB2:=hid hb2'
       clear hb1' hb2'
       have hb12:=hb1.trans (hb2.mono hb1.size)
       go_wp2_with fail
       refine (integer_Mul a1 b1 _ _ HA1.out HB1.out (by omega) (by omega) _ (hw.below hb12)).mono ?_
       rintro e w3 ⟨x,rfl,hx,hb3⟩
       have hxs:=isI_mul_size HA1.out HB1.out hx
       have HX:=hid hx
       clear hx
       have hb13:=hb12.trans (hb3.mono hb12.size)
       go_wp2_with fail
       refine (integer_Mul a2 b2 _ _ HA2.out HB2.out (by omega) (by omega) _ (hw.below hb13)).mono ?_
       rintro e w4 ⟨y,rfl,hy,hb4⟩
       have hys:=isI_mul_size HA2.out HB2.out hy
       have HY:=hid hy
       clear hy
       have hb14:=hb13.trans (hb4.mono hb13.size)
       go_wp2_with fail
       refine (rational_lowest x y _ _ HX.out HY.out HDD.out (by omega) (by omega) _ (hw.below hb14)).mono ?_
       rintro e w7 ⟨r,rfl,hr,hb7⟩
       have HR:=hid hr
       clear hr
       go_wp2
       go_ret
       exact ⟨_,rfl,by rw [mul_divInt];exact HR.out,hb14.trans (hb7.mono hb14.size)⟩
     ·go_enter Tryz.func10,Tryz.ntmps10
      go_wp2_with fail
      refine (rational_quick a p HA.out (by omega) _).mono ?_
      rintro e w1 ⟨-,hq1,rfl⟩
      obtain rfl:=hq1 hp
      go_wp2_with fail
      refine (rational_Parts a p HA.out (by omega) _ hw).mono ?_
      rintro e w1 ⟨a1,a2,rfl,ha1,ha2,hsa1,hsa2,hb1⟩
      have HA1:=hid ha1
      have HA2:=hid ha2
      clear ha1 ha2
      go_wp2_with fail
      refine (rational_Parts b q HB.out (by omega) _ (hw.below hb1)).mono ?_
      rintro e w2 ⟨b1,b2,rfl,hb1',hb2',hsb1,hsb2,hb2⟩
      have HB1:=hid hb1'
      have HB2:=hid hb2'
      clear hb1' hb2'
      have hb12:=hb1.trans (hb2.mono hb1.size)
      go_wp2_with fail
      refine (integer_Mul a1 b1 _ _ HA1.out HB1.out (by omega) (by omega) _ (hw.below hb12)).mono ?_
      rintro e w3 ⟨x,rfl,hx,hb3⟩
      have hxs:=isI_mul_size HA1.out HB1.out hx
      have HX:=hid hx
      clear hx
      have hb13:=hb12.trans (hb3.mono hb12.size)
      go_wp2_with fail
      refine (integer_Mul a2 b2 _ _ HA2.out HB2.out (by omega) (by omega) _ (hw.below hb13)).mono ?_
      rintro e w4 ⟨y,rfl,hy,hb4⟩
      have hys:=isI_mul_size HA2.out HB2.out hy
      have HY:=hid hy
      clear hy
      have hb14:=hb13.trans (hb4.mono hb13.size)
      go_wp2_with fail
      refine (rational_lowest x y _ _ HX.out HY.out HDD.out (by omega) (by omega) _ (hw.below hb14)).mono ?_
      rintro e w7 ⟨r,rfl,hr,hb7⟩
      have HR:=hid hr
      clear hr
      go_wp2
      go_ret
      exact ⟨_,rfl,by rw [mul_divInt];exact HR.out,hb14.trans (hb7.mono hb14.size)⟩
theorem nDigits_pos (n:Nat):0<nDigits n:=by rw [←decDigits_len];exact List.length_pos_iff.2 (decDigits_ne_nil _)
theorem rlen_eq (q:Rat):(rtext q).length=(itoa q.num).length+(if q.den=1 then 0 else nDigits q.den+1):=rtext_length q
theorem rlen_num (q:Rat):(itoa q.num).length≤(rtext q).length:=by rw [rlen_eq];omega
theorem rlen_den (q:Rat):nDigits q.den≤(rtext q).length:=by
 rw [rlen_eq]
 split
 ·rename_i h
  have h1:0<(itoa q.num).length:=List.length_pos_iff.2 (itoa_ne_nil _)
  rw [h,Go.Lib.nDigits_small (by decide)];omega
 ·omega
theorem rlen_le (q:Rat):(rtext q).length≤(itoa q.num).length+nDigits q.den+1:=by rw [rlen_eq];split <;> omega
theorem itoa_len_le (n:Int):nDigits n.natAbs≤(itoa n).length∧(itoa n).length≤nDigits n.natAbs+1:=by
 rw [itoa_length];split <;> omega
theorem rlen_divInt (n d:Int) (hd:0<d):(rtext (Rat.divInt n d)).length≤nDigits n.natAbs+nDigits d.natAbs+2:=by
 rw [lowest_text hd]
 have hg0:0<Int.gcd n d:=Int.gcd_pos_of_ne_zero_right _ (by omega)
 have d1:((Int.gcd n d:Nat):Int)∣n:=Int.gcd_dvd_left ..
 have h1:(n/((Int.gcd n d:Nat):Int)).natAbs≤n.natAbs:=by rw [←tdiv_gcd d1,Int.natAbs_tdiv];exact Nat.div_le_self _ _
 have h2:(d/((Int.gcd n d:Nat):Int)).toNat≤d.natAbs:=by
  have:=Int.ediv_le_self (a:=d) ((Int.gcd n d:Nat):Int) (by omega)
  omega
 have h3:=nDigits_mono h1
 have h4:=nDigits_mono h2
 have h5:=(itoa_len_le (n/((Int.gcd n d:Nat):Int))).2
 unfold rjoin
 split
 ·omega
 ·simp only [List.length_append,List.length_cons,decDigits_len];omega
theorem nDigits_natAbs (n:Int):nDigits n.natAbs≤(itoa n).length:=(itoa_len_le n).1
theorem rlen_both (p:Rat):nDigits p.num.natAbs+nDigits p.den≤(rtext p).length+1:=by
 have a3:=nDigits_natAbs p.num
 rw [rlen_eq]
 by_cases h:p.den=1
 ·have:nDigits p.den=1:=by rw [h];exact Go.Lib.nDigits_small (by decide)
  rw [if_pos h];omega
 ·rw [if_neg h];omega
theorem rlen_add (p q:Rat):(rtext (p+q)).length≤2*((rtext p).length+(rtext q).length)+4:=by
 rw [add_divInt]
 have hd:0<(p.den:Int)*(q.den:Int):=by rw [←Int.natCast_mul];have:=Nat.mul_pos p.den_pos q.den_pos;omega
 have h0:=rlen_divInt (p.num*q.den+q.num*p.den) _ hd
 have h1:=nDigits_mul_le p.num.natAbs q.den
 have h2:=nDigits_mul_le q.num.natAbs p.den
 have h3:=nDigits_add_le (p.num.natAbs*q.den) (q.num.natAbs*p.den)
 have h4:(p.num*(q.den:Int)+q.num*(p.den:Int)).natAbs≤p.num.natAbs*q.den+q.num.natAbs*p.den:=by
  have e1:(p.num*(q.den:Int)).natAbs=p.num.natAbs*q.den:=by rw [Int.natAbs_mul];simp
  have e2:(q.num*(p.den:Int)).natAbs=q.num.natAbs*p.den:=by rw [Int.natAbs_mul];simp
  omega
 have h5:=nDigits_mono h4
 have h6:((p.den:Int)*(q.den:Int)).natAbs=p.den*q.den:=by rw [Int.natAbs_mul];simp
 have h7:=nDigits_mul_le p.den q.den
 rw [h6] at h0
 have a5:=rlen_den p
 have a6:=rlen_den q
 have b1:=rlen_both p
 have b2:=rlen_both q
 omega
theorem rlen_mul (p q:Rat):(rtext (p*q)).length≤(rtext p).length+(rtext q).length+4:=by
 rw [mul_divInt]
 have hd:0<(p.den:Int)*(q.den:Int):=by rw [←Int.natCast_mul];have:=Nat.mul_pos p.den_pos q.den_pos;omega
 have h0:=rlen_divInt (p.num*q.num) _ hd
 have h1:=nDigits_mul_le p.num.natAbs q.num.natAbs
 have h6:((p.den:Int)*(q.den:Int)).natAbs=p.den*q.den:=by rw [Int.natAbs_mul];simp
 have h7:=nDigits_mul_le p.den q.den
 rw [h6,Int.natAbs_mul] at h0
 have b1:=rlen_both p
 have b2:=rlen_both q
 omega
theorem isR_add_size {s t r:ByteArray} {p q:Rat} (h:IsR s p) (k:IsR t q) (hr:IsR r (p+q)):r.size≤2*(s.size+t.size)+4:=by
 rw [h.size,k.size,hr.size];exact rlen_add p q
theorem isR_mul_size {s t r:ByteArray} {p q:Rat} (h:IsR s p) (k:IsR t q) (hr:IsR r (p*q)):r.size≤s.size+t.size+4:=by
 rw [h.size,k.size,hr.size];exact rlen_mul p q
def sgnR (q:Rat):Int:=sgn q.num
theorem num_zero_iff {q:Rat}:q=0↔q.num=0:=Rat.num_eq_zero.symm
theorem rational_Sign (s:ByteArray) (q:Rat) (h:IsR s q) (_hs:s.size≤9000000000) (w:World) :
  Calls Tryz.prog 76 #[.string s] w fun e w'=>e=.returned (.int .i64 (sgnR q))∧w=w':=by
 have hz:=h.zero
 have hp:=h.pos
 have hp':decide (0<s.size)=true:=by simpa using hp
 have hf:=h.first hp
 clear h
 by_cases h0:q=0
 ·rw [decide_eq_true h0] at hz
  have HF:=hid (show sgnR q=0 from sgn_zero (num_zero_iff.1 h0))
  clear h0 hf
  go_enter Tryz.func76,Tryz.ntmps76
  go_wp2
  go_ret
  exact ⟨ret_int HF.out.symm,rfl⟩
 ·rw [decide_eq_false h0] at hz
  by_cases h1:q<0
  ·rw [decide_eq_true h1] at hf
   have HF:=hid (show sgnR q = -1 from sgn_neg (num_neg_iff.1 h1))
   clear h0 h1
   go_enter Tryz.func76,Tryz.ntmps76
   go_wp2
   go_ret
   exact ⟨ret_int HF.out.symm,rfl⟩
  ·rw [decide_eq_false h1] at hf
   have HF:=hid (show sgnR q=1 from sgn_pos (by have a:=mt num_neg_iff.2 h1;have b:=mt num_zero_iff.2 h0;omega))
   clear h0 h1
   go_enter Tryz.func76,Tryz.ntmps76
   go_wp2
   go_ret
   exact ⟨ret_int HF.out.symm,rfl⟩
theorem rational_Neg (s:ByteArray) (q:Rat) (h:IsR s q) (hs:s.size≤9000000000) (w:World) :
  Calls Tryz.prog 54 #[.string s] w fun e w'=>∃ r:ByteArray,e=.returned (.string r)∧IsR r (-q)∧r.size≤s.size+1∧w=w':=by
 have hz:=h.zero
 have hp:=h.pos
 have hf:=h.first hp
 have H:=hid h
 clear h
 by_cases h0:q=0
 ·rw [decide_eq_true h0] at hz
  have H0:=hid h0
  clear h0 hf
  go_enter Tryz.func54,Tryz.ntmps54
  go_wp2
  go_ret
  exact ⟨_,rfl,by rw [H0.out,Rat.neg_zero];rw [←H0.out];exact H.out,Nat.le_succ _,rfl⟩
 ·rw [decide_eq_false h0] at hz
  by_cases h1:q<0
  ·rw [decide_eq_true h1] at hf
   have hp1:1≤s.size:=hp
   have H1:=hid h1
   clear h0 h1
   go_enter Tryz.func54,Tryz.ntmps54
   go_wp2
   go_ret
   refine ⟨_,rfl,?_,?_,rfl⟩
   ·unfold IsR
    have h2:s.data.toList=45 :: rtext (-q):=H.out.trans (rtext_neg_tail H1.out)
    have h3:s.size=(rtext (-q)).length+1:=by rw [Lib.size_eq,h2];rfl
    rw [Lib.extract_data,h2,h3]
    simp
   ·rw [Lib.size_eq,Lib.extract_data];simp;omega
  ·rw [decide_eq_false h1] at hf
   have H1:=hid h1
   have H0:=hid h0
   clear h0 h1
   go_enter Tryz.func54,Tryz.ntmps54
   go_wp2
   go_ret
   refine ⟨_,rfl,?_,?_,rfl⟩
   ·unfold IsR
    have e:((⟨#[45]⟩ : ByteArray)++s).data.toList=45 :: s.data.toList:=by simp
    rw [e,rtext_neg H0.out H1.out]
    exact congrArg _ H.out
   ·have e:((⟨#[45]⟩ : ByteArray)++s).data.toList=45 :: s.data.toList:=by simp
    rw [Lib.size_eq,e,Lib.size_eq];simp
theorem rational_Sub (a b:ByteArray) (p q:Rat) (ha:IsR a p) (hb:IsR b q) (hsa:a.size≤999999999) (hsb:b.size≤999999999) (w:World) (hw:Good w) :
  Calls Tryz.prog 27 #[.string a,.string b] w fun e w'=>∃ r:ByteArray,e=.returned (.string r)∧IsR r (p-q)∧Below w.heap.size w w':=by
 have HA:=hid ha
 have HB:=hid hb
 clear ha hb
 go_enter Tryz.func27,Tryz.ntmps27
 go_wp2_with fail
 refine (rational_Neg b q HB.out (by omega) _).mono ?_
 rintro e w1 ⟨c,rfl,hc,hcs,rfl⟩
 have HC:=hid hc
 clear hc
 go_wp2_with fail
 refine (rational_Add a c p (-q) HA.out HC.out (by omega) (by omega) _ hw).mono ?_
 rintro e w2 ⟨r,rfl,hr,hb2⟩
 have HR:=hid hr
 clear hr
 go_wp2
 go_ret
 exact ⟨_,rfl,by rw [Rat.sub_eq_add_neg];exact HR.out,hb2⟩
theorem isR_half:IsR ⟨#[49,47,50]⟩ (1/2):=by
 have e:(1/2:Rat)=mkRat 1 2:=by decide +kernel
 unfold IsR
 rw [e,rtext_coprime (by decide) (by decide)]
 unfold rjoin
 rw [if_neg (by decide),itoa_one,decDigits_small (by decide)]
 rfl
def DivRPost (x:Rat) (w:World) (e:Ending) (w':World):Prop:=
 ∃ r:ByteArray,e=.returned (.tuple #[.string r,.int .i64 0])∧IsR r x∧Below w.heap.size w w'
theorem isR_inv_pos {q:Rat} {r:ByteArray} (h:0<q.num) (hr:r.data.toList=rjoin (q.den:Int) (q.num).toNat):IsR r q⁻¹:=by
 obtain ⟨h1,h2⟩:=inv_frac_pos h
 unfold IsR rtext
 rw [hr,h1,←h2];rfl
theorem isR_inv_neg {q:Rat} {r:ByteArray} (h:q.num<0) (hr:r.data.toList=rjoin (-(q.den:Int)) (-q.num).toNat):IsR r q⁻¹:=by
 obtain ⟨h1,h2⟩:=inv_frac_neg h
 unfold IsR rtext
 rw [hr,h1,←h2];rfl
theorem isR_inv_size {s r:ByteArray} {q:Rat} (h:IsR s q) (hr:IsR r q⁻¹):r.size≤s.size+4:=by
 rw [h.size,hr.size]
 have a1:=rlen_le q⁻¹
 have a2:=rlen_both q
 have a3:=(itoa_len_le q⁻¹.num).2
 by_cases h0:q.num=0
 ·have:q=0:=num_zero_iff.2 h0
  rw [this,Rat.inv_zero];omega
 ·have h1:q⁻¹.num.natAbs=q.den∧q⁻¹.den=q.num.natAbs:=by
   rcases Int.lt_or_lt_of_ne h0 with h | h
   ·obtain ⟨x,y⟩:=inv_frac_neg h
    omega
   ·obtain ⟨x,y⟩:=inv_frac_pos h
    omega
  rw [h1.1] at a3
  rw [h1.2] at a1
  omega
theorem rational_Div (a b:ByteArray) (p q:Rat) (ha:IsR a p) (hb:IsR b q) (hq:q≠0) (hsa:a.size≤900000000) (hsb:b.size≤900000000) (w:World) (hw:Good w) :
  Calls Tryz.prog 109 #[.string a,.string b] w (DivRPost (p*q⁻¹) w):=by
 have hz:=hb.zero
 rw [decide_eq_false hq] at hz
 have hp:=hb.pos
 have hf:=hb.first hp
 have HA:=hid ha
 have HB:=hid hb
 have HQ:=hid (mt num_zero_iff.2 hq)
 clear ha hb hq
 by_cases h1:q<0
 ·rw [decide_eq_true h1] at hf
  have H1:=hid (num_neg_iff.1 h1)
  clear h1
  go_enter Tryz.func109,Tryz.ntmps109
  go_wp2_with fail
  refine (rational_Parts b q HB.out (by omega) _ hw).mono ?_
  rintro e w1 ⟨n,d,rfl,hn,hd,hns,hds,hb1⟩
  have HN:=hid hn
  have HD:=hid hd
  clear hn hd
  go_wp2_with fail
  refine (integer_Neg n q.num HN.out _ (by omega)).mono ?_
  rintro e w2 ⟨n2,rfl,hn2,rfl⟩
  have hn2s:=isI_size_le HN.out hn2 (by omega)
  have HN2:=hid hn2
  clear hn2
  go_wp2_with fail
  refine (integer_Neg d (q.den:Int) HD.out _ (by omega)).mono ?_
  rintro e w2 ⟨d2,rfl,hd2,rfl⟩
  have hd2s:=isI_size_le HD.out hd2 (by omega)
  have HD2:=hid hd2
  clear hd2
  go_wp2_with fail
  refine (rational_join d2 n2 _ _ HD2.out HN2.out (by have:=H1.out;omega) (by omega) (by omega) _).mono ?_
  rintro e w2 ⟨i,rfl,hi,rfl⟩
  have HI:=hid (isR_inv_neg H1.out hi)
  have his:=isR_inv_size HB.out HI.out
  clear hi
  go_wp2_with fail
  refine (rational_Mul a i p q⁻¹ HA.out HI.out (by omega) (by omega) _ (hw.below hb1)).mono ?_
  rintro e w3 ⟨r,rfl,hr,hb3⟩
  have HR:=hid hr
  clear hr
  go_wp2
  go_ret2
  exact ⟨_,rfl,HR.out,hb1.trans (hb3.mono hb1.size)⟩
 ·rw [decide_eq_false h1] at hf
  have H1:=hid (show 0<q.num by have:=mt num_neg_iff.2 h1;have:=HQ.out;omega)
  clear h1
  go_enter Tryz.func109,Tryz.ntmps109
  go_wp2_with fail
  refine (rational_Parts b q HB.out (by omega) _ hw).mono ?_
  rintro e w1 ⟨n,d,rfl,hn,hd,hns,hds,hb1⟩
  have HN:=hid hn
  have HD:=hid hd
  clear hn hd
  go_wp2_with fail
  refine (rational_join d n _ _ HD.out HN.out H1.out (by omega) (by omega) _).mono ?_
  rintro e w2 ⟨i,rfl,hi,rfl⟩
  have HI:=hid (isR_inv_pos H1.out hi)
  have his:=isR_inv_size HB.out HI.out
  clear hi
  go_wp2_with fail
  refine (rational_Mul a i p q⁻¹ HA.out HI.out (by omega) (by omega) _ (hw.below hb1)).mono ?_
  rintro e w3 ⟨r,rfl,hr,hb3⟩
  have HR:=hid hr
  clear hr
  go_wp2
  go_ret2
  exact ⟨_,rfl,HR.out,hb1.trans (hb3.mono hb1.size)⟩
noncomputable def ratB (l:List UInt8):Bool:=@decide (ratOk l) (Classical.propDecidable _)
theorem ratB_iff {l:List UInt8}:ratB l=true↔ratOk l:=by unfold ratB;exact @decide_eq_true_iff _ (Classical.propDecidable _)
theorem ratB_true {l:List UInt8} (h:ratOk l):ratB l=true:=ratB_iff.2 h
theorem ratB_false {l:List UInt8} (h:¬ ratOk l):ratB l=false:=by
 cases hb:ratB l
 ·rfl
 ·exact (h (ratB_iff.1 hb)).elim
def RChkPost (l:List UInt8) (w:World) (e:Ending) (w':World):Prop:=e=.returned (.int .i64 (if ratB l then 0 else 2))∧Below w.heap.size w w'
theorem rchk_bad {l:List UInt8} {w w':World} (h:¬ ratOk l) (hb:Below w.heap.size w w'):RChkPost l w (.returned (.int .i64 2)) w':=⟨by rw [ratB_false h];rfl,hb⟩
theorem rchk_ok {l:List UInt8} {w w':World} (h:ratOk l) (hb:Below w.heap.size w w'):RChkPost l w (.returned (.int .i64 0)) w':=⟨by rw [ratB_true h];rfl,hb⟩
theorem cut47_cases (l:List UInt8):(∀ c∈l,c≠47)∨∃ A B:List UInt8,l=A++47 :: B∧∀ c∈A,c≠47:=by
 induction l with
 | nil=>left;simp
 | cons c l ih =>
  by_cases hc:c=47
  ·right;exact ⟨[],l,by rw [hc];rfl,by simp⟩
  ·rcases ih with h | ⟨A,B,rfl,hA⟩
   ·left;intro x hx;rcases List.mem_cons.1 hx with rfl | hx
    ·exact hc
    ·exact h x hx
   ·right;refine ⟨c :: A,B,rfl,?_⟩
    intro x hx;rcases List.mem_cons.1 hx with rfl | hx
    ·exact hc
    ·exact hA x hx
theorem cmpI_leq (d:Int):decide (cmpI d 1≤0)=!decide (1<d):=by
 unfold cmpI;split
 ·simp;omega
 ·split
  ·simp;omega
  ·simp;omega
theorem rational_Check (s:ByteArray) (hs:s.size≤4000000000) (w:World) (hw:Good w) :
  Calls Tryz.prog 30 #[.string s] w (RChkPost s.data.toList w):=by
 obtain ⟨mm,hmm⟩:=hw.maxLen
 have hbw:=Below.refl w.heap.size w
 rcases cut47_cases s.data.toList with hno | ⟨A,B,hl,hA⟩
 ·have HC:=hid (cut47_no hno)
  have HR:=hid (ratOk_whole hno)
  clear hno
  cases hok:intOk s.data.toList
  ·have HOK:=hid hok
   clear hok
   go_enter Tryz.func30,Tryz.ntmps30
   go_wp2_with fail
   refine (Tryz.strings_Cut s ⟨#[47]⟩ mm _ (by omega) hmm).mono ?_
   rintro e w' ⟨rfl,n,rfl⟩
   have hc2:Lib.cut s.data.toList (⟨#[47]⟩ : ByteArray).data.toList=(s.data.toList,[],false):=HC.out
   rw [hc2]
   clear hc2
   go_wp2_with fail
   refine (integer_Check _ (by rw [mk_size,←Lib.size_eq];omega) _).mono ?_
   rintro e w' ⟨rfl,rfl⟩
   have hif:(if intOk ((⟨s.data.toList.toArray⟩ : ByteArray).data.toList)=true then (0:Int) else 2)=2:=by
    have:(⟨s.data.toList.toArray⟩ : ByteArray).data.toList=s.data.toList:=by simp
    rw [this,HOK.out];rfl
   rw [hif]
   go_wp2
   go_ret
   exact rchk_bad (by rw [HR.out,HOK.out];simp) (below_drewN _ _)
  ·have HOK:=hid hok
   clear hok
   go_enter Tryz.func30,Tryz.ntmps30
   go_wp2_with fail
   refine (Tryz.strings_Cut s ⟨#[47]⟩ mm _ (by omega) hmm).mono ?_
   rintro e w' ⟨rfl,n,rfl⟩
   have hc2:Lib.cut s.data.toList (⟨#[47]⟩ : ByteArray).data.toList=(s.data.toList,[],false):=HC.out
   rw [hc2]
   clear hc2
   go_wp2_with fail
   refine (integer_Check _ (by rw [mk_size,←Lib.size_eq];omega) _).mono ?_
   rintro e w' ⟨rfl,rfl⟩
   have hif:(if intOk ((⟨s.data.toList.toArray⟩ : ByteArray).data.toList)=true then (0:Int) else 2)=0:=by
    have:(⟨s.data.toList.toArray⟩ : ByteArray).data.toList=s.data.toList:=by simp
    rw [this,HOK.out];rfl
   rw [hif]
   go_wp2
   go_ret
   exact rchk_ok (HR.out.2 HOK.out) (below_drewN _ _)
 ·have hcut:=cut47_yes (B:=B) hA
  rw [←hl] at hcut
  have HC:=hid hcut
  have hlen:s.size=A.length+B.length+1:=by rw [Lib.size_eq,hl];simp only [List.length_append,List.length_cons];omega
  have hr:=ratOk_slash (b:=B) hA
  rw [←hl] at hr
  have HR:=hid hr
  clear hr
  clear hcut hA hl
  obtain ⟨a,ha⟩ : ∃ a:ByteArray,a=⟨A.toArray⟩:=⟨_,rfl⟩
  obtain ⟨b,hb⟩ : ∃ b:ByteArray,b=⟨B.toArray⟩:=⟨_,rfl⟩
  have hal:a.data.toList=A:=by rw [ha]
  have hbl:b.data.toList=B:=by rw [hb]
  have has:a.size=A.length:=by rw [ha,mk_size]
  have hbs:b.size=B.length:=by rw [hb,mk_size]
  have HA:=hid ha
  have HB:=hid hb
  have HAL:=hid hal
  have HBL:=hid hbl
  clear ha hb hal hbl
  cases hok:intOk A
  ·have HOK:=hid hok
   have HE:=hid (show ¬ ratOk s.data.toList by
    rw [HR.out]
    rintro ⟨n,d,h1,h2,_⟩
    rw [(intOk_iff A).2 ⟨n,h1,h2⟩] at hok
    exact Bool.noConfusion hok)
   clear hok
   go_enter Tryz.func30,Tryz.ntmps30
   go_wp2_with fail
   refine (Tryz.strings_Cut s ⟨#[47]⟩ mm _ (by omega) hmm).mono ?_
   rintro e w' ⟨rfl,n,rfl⟩
   have hc2:Lib.cut s.data.toList (⟨#[47]⟩ : ByteArray).data.toList=(A,B,true):=HC.out
   rw [hc2]
   clear hc2
   simp only [←HA.out,←HB.out]
   go_wp2_with fail
   refine (integer_Check a (by omega) _).mono ?_
   rintro e w' ⟨rfl,rfl⟩
   rw [HAL.out,HOK.out]
   go_wp2
   go_ret
   exact rchk_bad HE.out (below_drewN _ _)
  ·obtain ⟨n,hn,hnd⟩:=(intOk_iff A).1 hok
   have hia:IsI a n:=by unfold IsI;rw [HAL.out,hn]
   have hz:=hia.zero
   have HIA:=hid hia
   have HOK:=hid hok
   have HND:=hid (And.intro hn hnd)
   clear hok hn hnd hia
   cases hokb:intOk B
   ·have HOKB:=hid hokb
    have HE:=hid (show ¬ ratOk s.data.toList by
     rw [HR.out]
     rintro ⟨n,d,h1,h2,h3,h4,_⟩
     rw [(intOk_iff B).2 ⟨d,h3,h4⟩] at hokb
     exact Bool.noConfusion hokb)
    clear hokb hz
    go_enter Tryz.func30,Tryz.ntmps30
    go_wp2_with fail
    refine (Tryz.strings_Cut s ⟨#[47]⟩ mm _ (by omega) hmm).mono ?_
    rintro e w' ⟨rfl,nn,rfl⟩
    have hc2:Lib.cut s.data.toList (⟨#[47]⟩ : ByteArray).data.toList=(A,B,true):=HC.out
    rw [hc2]
    clear hc2
    simp only [←HA.out,←HB.out]
    go_wp2_with fail
    refine (integer_Check a (by omega) _).mono ?_
    rintro e w' ⟨rfl,rfl⟩
    rw [HAL.out,HOK.out]
    go_wp2_with fail
    refine (integer_Check b (by omega) _).mono ?_
    rintro e w' ⟨rfl,rfl⟩
    rw [HBL.out,HOKB.out]
    go_wp2
    go_ret
    exact rchk_bad HE.out (below_drewN _ _)
   ·obtain ⟨d,hd,hdd⟩:=(intOk_iff B).1 hokb
    have hib:IsI b d:=by unfold IsI;rw [HBL.out,hd]
    have HIB:=hid hib
    have HOKB:=hid hokb
    have HDD:=hid (And.intro hd hdd)
    have HE:=hid (show ratOk s.data.toList↔(1<d∧n≠0∧Int.gcd n d=1) by
     rw [HR.out]
     constructor
     ·rintro ⟨n',d',h1,h2,h3,h4,h5⟩
      have e1:n'=n:=itoa_inj (h1.symm.trans HND.out.1)
      have e2:d'=d:=itoa_inj (h3.symm.trans hd)
      rw [←e1,←e2];exact h5
     ·rintro h5
      exact ⟨n,d,HND.out.1,HND.out.2,hd,hdd,h5⟩)
    clear hokb hd hdd hib
    have hcmp:=cmpI_leq d
    by_cases h1:1<d
    ·rw [decide_eq_true h1] at hcmp
     have hcmp2:decide (cmpI d 1≤0)=false:=hcmp
     clear hcmp
     by_cases h0:n=0
     ·rw [decide_eq_true h0] at hz
      have H:=hid (show ¬ ratOk s.data.toList by rw [HE.out];rintro ⟨_,h,_⟩;exact h h0)
      clear h1 h0
      go_enter Tryz.func30,Tryz.ntmps30
      go_wp2_with fail
      refine (Tryz.strings_Cut s ⟨#[47]⟩ mm _ (by omega) hmm).mono ?_
      rintro e w' ⟨rfl,nn,rfl⟩
      have hc2:Lib.cut s.data.toList (⟨#[47]⟩ : ByteArray).data.toList=(A,B,true):=HC.out
      rw [hc2]
      clear hc2
      simp only [←HA.out,←HB.out]
      go_wp2_with fail
      refine (integer_Check a (by omega) _).mono ?_
      rintro e w' ⟨rfl,rfl⟩
      rw [HAL.out,HOK.out]
      go_wp2_with fail
      refine (integer_Check b (by omega) _).mono ?_
      rintro e w' ⟨rfl,rfl⟩
      rw [HBL.out,HOKB.out]
      go_wp2_with fail
      refine (integer_Compare b _ d 1 HIB.out isI_one (by omega) (by decide) _).mono ?_
      rintro e w' ⟨rfl,rfl⟩
      generalize cmpI d 1=cm at hcmp2 ⊢
      go_wp2
      go_ret
      exact rchk_bad H.out (below_drewN _ _)
     ·rw [decide_eq_false h0] at hz
      obtain ⟨G,hG⟩ : ∃ G,G=Int.gcd n d:=⟨_,rfl⟩
      have HG:=hid hG
      by_cases hg1:(G:Int)=1
      ·have H:=hid (show ratOk s.data.toList by rw [HE.out];exact ⟨h1,h0,by omega⟩)
       have HG1:=hid hg1
       clear h1 h0 hg1 hG
       go_enter Tryz.func30,Tryz.ntmps30
       go_wp2_with fail
       refine (Tryz.strings_Cut s ⟨#[47]⟩ mm _ (by omega) hmm).mono ?_
       rintro e w' ⟨rfl,nn,rfl⟩
       have hc2:Lib.cut s.data.toList (⟨#[47]⟩ : ByteArray).data.toList=(A,B,true):=HC.out
       rw [hc2]
       clear hc2
       simp only [←HA.out,←HB.out]
       go_wp2_with fail
       refine (integer_Check a (by omega) _).mono ?_
       rintro e w' ⟨rfl,rfl⟩
       rw [HAL.out,HOK.out]
       go_wp2_with fail
       refine (integer_Check b (by omega) _).mono ?_
       rintro e w' ⟨rfl,rfl⟩
       rw [HBL.out,HOKB.out]
       go_wp2_with fail
       refine (integer_Compare b _ d 1 HIB.out isI_one (by omega) (by decide) _).mono ?_
       rintro e w' ⟨rfl,rfl⟩
       generalize cmpI d 1=cm at hcmp2 ⊢
       go_wp2_with fail
       refine (integer_Gcd a b n d HIA.out HIB.out (by omega) (by omega) _ (hw.below (below_drewN _ _))).mono ?_
       rintro e w3 ⟨g,rfl,hg,hb3⟩
       rw [←HG.out] at hg
       have hone:(g.toList == [49])=true:=by rw [hg.one];simpa using HG1.out
       have hone':(g.toList != [49])=false:=by simp only [bne,hone];rfl
       have hbb:=(below_drewN w nn).trans (hb3.mono (below_drewN w nn).size)
       clear hg
       go_wp2
       go_ret
       exact rchk_ok H.out hbb
      ·have H:=hid (show ¬ ratOk s.data.toList by rw [HE.out];rintro ⟨_,_,h⟩;omega)
       have HG1:=hid hg1
       clear h1 h0 hg1 hG
       go_enter Tryz.func30,Tryz.ntmps30
       go_wp2_with fail
       refine (Tryz.strings_Cut s ⟨#[47]⟩ mm _ (by omega) hmm).mono ?_
       rintro e w' ⟨rfl,nn,rfl⟩
       have hc2:Lib.cut s.data.toList (⟨#[47]⟩ : ByteArray).data.toList=(A,B,true):=HC.out
       rw [hc2]
       clear hc2
       simp only [←HA.out,←HB.out]
       go_wp2_with fail
       refine (integer_Check a (by omega) _).mono ?_
       rintro e w' ⟨rfl,rfl⟩
       rw [HAL.out,HOK.out]
       go_wp2_with fail
       refine (integer_Check b (by omega) _).mono ?_
       rintro e w' ⟨rfl,rfl⟩
       rw [HBL.out,HOKB.out]
       go_wp2_with fail
       refine (integer_Compare b _ d 1 HIB.out isI_one (by omega) (by decide) _).mono ?_
       rintro e w' ⟨rfl,rfl⟩
       generalize cmpI d 1=cm at hcmp2 ⊢
       go_wp2_with fail
       refine (integer_Gcd a b n d HIA.out HIB.out (by omega) (by omega) _ (hw.below (below_drewN _ _))).mono ?_
       rintro e w3 ⟨g,rfl,hg,hb3⟩
       rw [←HG.out] at hg
       have hone:(g.toList == [49])=false:=by rw [hg.one];simpa using HG1.out
       have hone':(g.toList != [49])=true:=by simp only [bne,hone];rfl
       have hbb:=(below_drewN w nn).trans (hb3.mono (below_drewN w nn).size)
       clear hg
       go_wp2
       go_ret
       exact rchk_bad H.out hbb
    ·rw [decide_eq_false h1] at hcmp
     have hcmp2:decide (cmpI d 1≤0)=true:=hcmp
     clear hcmp
     have H:=hid (show ¬ ratOk s.data.toList by rw [HE.out];rintro ⟨h,_⟩;exact h1 h)
     clear h1 hz
     go_enter Tryz.func30,Tryz.ntmps30
     go_wp2_with fail
     refine (Tryz.strings_Cut s ⟨#[47]⟩ mm _ (by omega) hmm).mono ?_
     rintro e w' ⟨rfl,nn,rfl⟩
     have hc2:Lib.cut s.data.toList (⟨#[47]⟩ : ByteArray).data.toList=(A,B,true):=HC.out
     rw [hc2]
     clear hc2
     simp only [←HA.out,←HB.out]
     go_wp2_with fail
     refine (integer_Check a (by omega) _).mono ?_
     rintro e w' ⟨rfl,rfl⟩
     rw [HAL.out,HOK.out]
     go_wp2_with fail
     refine (integer_Check b (by omega) _).mono ?_
     rintro e w' ⟨rfl,rfl⟩
     rw [HBL.out,HOKB.out]
     go_wp2_with fail
     refine (integer_Compare b _ d 1 HIB.out isI_one (by omega) (by decide) _).mono ?_
     rintro e w' ⟨rfl,rfl⟩
     generalize cmpI d 1=cm at hcmp2 ⊢
     go_wp2
     go_ret
     exact rchk_bad H.out (below_drewN _ _)
end Go.Proofs.YtogdahbbogimcaaGreatDoor
