import Derived.Test.YtgohnjdgoglcfaaGreatDoorQ13Z
import Derived.Test.YtgohnjdgoglcfaaGreatDoorMathZ
import Derived.Deep.LoopGhost
set_option maxRecDepth 100000
set_option maxHeartbeats 2000000
namespace Go.Proofs.YtgohnjdgoglcfaaGreatDoor
open Go.Lib (decDigits itoa nDigits compareBytes)
open Go.RowKit Go.Sort
open Go.Lib (hid)
theorem tdiv_pos_cases {m n:Int} (hn:0<n):(m.tmod n<0∧m.tmod n+n=m % n∧(m-m % n).tdiv n=m/n)∨(¬ m.tmod n<0∧m.tmod n=m % n∧m.tdiv n=m/n):=by
 have e1:=Int.mul_tdiv_add_tmod m n
 have e2:=Int.mul_ediv_add_emod m n
 have b1:=Int.emod_nonneg m (show n≠0 by omega)
 have b2:=Int.emod_lt_of_pos m hn
 have c1:=Int.tmod_lt_of_pos m hn
 have c2:=Int.lt_tmod_of_pos m hn
 by_cases h:m.tmod n<0
 ·left
  have k:m % n=m.tmod n+n:=by
   have:m=(m.tmod n+n)+n*(m.tdiv n-1):=by rw [Int.mul_sub];omega
   rw [this,Int.add_mul_emod_self_left,Int.emod_eq_of_lt (by omega) (by omega)]
   rw [←this]
  refine ⟨h,k.symm,?_⟩
  rw [show m-m % n=n*(m/n) by omega,Int.mul_tdiv_cancel_left _ (by omega)]
 ·right
  have k:m % n=m.tmod n:=by
   have:m=m.tmod n+n*m.tdiv n:=by omega
   conv=>lhs;rw [this]
   rw [Int.add_mul_emod_self_left,Int.emod_eq_of_lt (by omega) (by omega)]
  refine ⟨h,k.symm,?_⟩
  have:n*m.tdiv n=n*(m/n):=by omega
  exact Int.eq_of_mul_eq_mul_left (by omega) this
theorem n64s_one (w:World):N64s (w.alloc (Obj.cells #[Value.int .i64 1] 3)) (.slice (some ⟨w.heap.size,0,none⟩) 1 1) [1]:=by
 have hown0:(w.alloc (Obj.cells #[Value.int .i64 1] 3)).ownsRow w.heap.size 3 1 (.slice (some ⟨w.heap.size,0,none⟩) 1 1) 1 ([(1:Int)].map pcI):=
  ⟨rfl,.inr ⟨w.heap.size,1,#[Value.int .i64 1],rfl,Nat.le_refl _,World.alloc_heap_new w _,Nat.le_refl _,by unfold maxLen;omega,rfl,rfl⟩⟩
 exact I64s.of_owns (xs:=[1]) hown0 rfl
theorem alloc_below7 (w:World) (o:Obj):Below w.heap.size w (w.alloc o):=(Below.refl _ _).alloc (Nat.le_refl _) o
def DMPost (m n:Int) (w:World) (e:Ending) (w':World):Prop:=∃ q r:ByteArray,e=.returned (.tuple #[.string q,.string r])∧IsI q (m/n)∧IsI r (m % n)∧Below w.heap.size w w'
theorem ediv_abs_le {m n:Int} (hn:0<n):(m/n).natAbs≤m.natAbs:=by
 rcases Int.lt_or_le m 0 with h | h
 ·have h1:m≤m/n:=by
   have e2:=Int.mul_ediv_add_emod m n
   have b1:=Int.emod_nonneg m (show n≠0 by omega)
   have b2:=Int.emod_lt_of_pos m hn
   rw [Int.le_ediv_iff_mul_le hn]
   have:=Int.mul_le_mul_of_nonneg_left (show (1:Int)≤n by omega) (show 0 ≤ -m by omega)
   rw [Int.mul_one,Int.neg_mul] at this
   omega
  have h2:m/n<0:=Int.ediv_neg_of_neg_of_pos h hn
  omega
 ·have h1:=Int.ediv_le_self n h
  have h2:=Int.ediv_nonneg h (show 0≤n by omega)
  omega
theorem q_DivMod (a b:ByteArray) (m n:Int) (ha:IsI a m) (hb:IsI b n) (hn0:0<n) (hsa:a.size≤80000000) (hsb:b.size≤80000000) (w:World) (hw:Good w) :
  Calls Tryz.prog 132 #[.string a,.string b] w (DMPost m n w):=by
 have HBA:=hid (fun W=>q_brief a m ha W)
 have HBB:=hid (fun W=>q_brief b n hb W)
 have HSA:=hid (fun W=>q_Split a m ha W)
 have HSB:=hid (fun W=>q_Split b n hb W)
 unfold SplitPost at HSA HSB
 have lm:=ha.p4_len
 have ln:=hb.p4_len
 have TA:=hid (fun (r:ByteArray) (h:IsI r (m.natAbs:Int))=>(⟨h.mag_take,by have:=mag_size_le ha h;omega⟩ : r.data.toList=decDigits m.natAbs∧r.size≤90000000))
 have TB:=hid (fun (r:ByteArray) (h:IsI r (n.natAbs:Int))=>(⟨h.mag_take,by have:=mag_size_le hb h;omega⟩ : r.data.toList=decDigits n.natAbs∧r.size≤90000000))
 have HQE:=hid (quo_eq m n (by omega))
 have HRE:=hid (rem_eq m n (by omega))
 have HW:=hid hw
 clear ha hb hw
 have hdn:decide (n<0)=false:=decide_eq_false (by omega)
 rw [hdn] at HSB
 have hny:(n == 0)=false:=by simp;omega
 go_enter Tryz.func132,Tryz.ntmps132
 go_wp2_with fail
 refine (HBA.out w).mono ?_
 rintro e w1 ⟨(⟨rfl,hm⟩ | rfl),hb1⟩
 all_goals
  go_wp2_with fail
  refine (HBB.out w1).mono ?_
  rintro e w2 ⟨(⟨rfl,hn⟩ | rfl),hb2⟩
 all_goals
  have hb12:=hb1.trans (hb2.mono hb1.size)
  clear hb2
 ·have hg:=HW.out.below hb12
  have hm1:-100000000000000000<m∧m<100000000000000000:=by omega
  have hn1:n<100000000000000000:=by omega
  have hm2:(m.tdiv n).natAbs=m.natAbs/n.natAbs:=Int.natAbs_tdiv m n
  have hm3:=Nat.div_le_self m.natAbs n.natAbs
  have hr1:=Int.tmod_lt_of_pos m hn0
  have hr2:=Int.lt_tmod_of_pos m hn0
  have hr3:=Int.emod_nonneg m (show n≠0 by omega)
  have hr4:=Int.emod_lt_of_pos m hn0
  have hmx:max n (-n)=n:=by omega
  have hq4:=ediv_abs_le (m:=m) hn0
  have hT:-100000000000000000<m.tdiv n∧m.tdiv n<100000000000000000:=by omega
  have hQ:-100000000000000000<m/n∧m/n<100000000000000000:=by omega
  have z1:IntKind.i64.wrap (m.tdiv n)=m.tdiv n:=IntWalk.i64_in _ (by omega)
  have z2:IntKind.i64.wrap (m.tmod n)=m.tmod n:=IntWalk.i64_in _ (by omega)
  have HOQ:=hid (fun W hW=>q_Of (m/n) (by omega) (by omega) W hW)
  have HOR:=hid (fun W hW=>q_Of (m % n) (by omega) (by omega) W hW)
  rcases tdiv_pos_cases (m:=m) hn0 with ⟨c1,c2,c3⟩ | ⟨c1,c2,c3⟩
  ·have z3:IntKind.i64.wrap (m.tmod n+n)=m % n:=(IntWalk.i64_in _ (by omega)).trans c2
   have z4:IntKind.i64.wrap (m-m % n)=m-m % n:=IntWalk.i64_in _ (by omega)
   have z5:IntKind.i64.wrap ((m-m % n).tdiv n)=m/n:=by rw [c3];exact IntWalk.i64_in _ (by omega)
   have HC:=hid c2
   clear c2 c3 hT hq4 hm2 hm3
   go_wp2_with fail
   go_quiet (fail)
   have hbd:Below w2.heap.size w2 (w2.drewN nq):=⟨rfl,rfl,rfl,Nat.le_refl _,fun _ _=>rfl⟩
   go_wp2_with fail
   refine (HOQ.out _ (hg.below hbd)).mono ?_
   rintro e w3 ⟨r,rfl,hr,hb3⟩
   have HR:=hid hr
   have hbd3:=hbd.trans (hb3.mono hbd.size)
   clear hr
   go_wp2_with fail
   refine (HOR.out _ (hg.below hbd3)).mono ?_
   rintro e w4 ⟨s,rfl,hs,hb4⟩
   have HS:=hid hs
   clear hs
   go_wp2
   go_ret2
   exact ⟨_,_,rfl,HR.out,HS.out,hb12.trans ((hbd3.trans (hb4.mono hbd3.size)).mono hb12.size)⟩
  ·clear hT hq4 hm2 hm3 hmx
   rw [c2] at c1
   go_wp2_with fail
   go_quiet (fail)
   have hbd:Below w2.heap.size w2 (w2.drewN nq):=⟨rfl,rfl,rfl,Nat.le_refl _,fun _ _=>rfl⟩
   go_wp2_with fail
   refine (HOQ.out _ (hg.below hbd)).mono ?_
   rintro e w3 ⟨r,rfl,hr,hb3⟩
   have HR:=hid hr
   have hbd3:=hbd.trans (hb3.mono hbd.size)
   clear hr
   go_wp2_with fail
   refine (HOR.out _ (hg.below hbd3)).mono ?_
   rintro e w4 ⟨s,rfl,hs,hb4⟩
   have HS:=hid hs
   clear hs
   go_wp2
   go_ret2
   exact ⟨_,_,rfl,HR.out,HS.out,hb12.trans ((hbd3.trans (hb4.mono hbd3.size)).mono hb12.size)⟩
 all_goals
  go_wp2_with fail
  refine (HSA.out _).mono ?_
  rintro e w3 ⟨r,rfl,hr,hb3⟩
  have HR:=hid (TA.out r hr)
  have hb13:=hb12.trans (hb3.mono hb12.size)
  clear hr hb3 hb12
  go_wp2_with fail
  refine (HSB.out _).mono ?_
  rintro e w4 ⟨s,rfl,hs,hb4⟩
  have HT:=hid (TB.out s hs)
  have hb14:=hb13.trans (hb4.mono hb13.size)
  clear hs hb4 hb13
  go_wp2_with fail
  refine (q_take r m.natAbs HR.out.1 (by have:=HR.out.2;omega) _).mono ?_
  rintro e w5 ⟨v5,rfl,hv5,hb5⟩
  have HV5:=hid hv5
  have hb15:=hb14.trans (hb5.mono hb14.size)
  clear hv5 hb5 hb14
  go_wp2_with fail
  refine (q_take s n.natAbs HT.out.1 (by have:=HT.out.2;omega) _).mono ?_
  rintro e w6 ⟨v6,rfl,hv6,hb6⟩
  have HP5:=hid (HV5.out.below hb6)
  have HP6:=hid hv6
  have hb16:=hb15.trans (hb6.mono hb15.size)
  clear hv6 hb6 hb15 HV5
  go_wp2_with fail
  refine (q_parts v5 v6 m.natAbs n.natAbs (by omega) (by omega) (by omega) _ HP5.out HP6.out).mono ?_
  rintro e w7 ⟨u7,v7,rfl,hu7,hv7,hb7⟩
  have HU7:=hid hu7
  have HV7:=hid hv7
  have hb17:=hb16.trans (hb7.mono hb16.size)
  have hlr:=p4_len_mono (Nat.le_of_lt (Nat.mod_lt m.natAbs (show 0<n.natAbs by omega)))
  have hlq:=p4_len_mono (Nat.div_le_self m.natAbs n.natAbs)
  obtain ⟨p7,c7,rfl,_,_⟩:=hv7.slice
  clear hu7 hv7 hb7 hb16 HP5 HP6
  by_cases hcase:m<0∧m.natAbs % n.natAbs≠0
  ·have HQM:=hid (show quoMag m n=m.natAbs/n.natAbs+1 from by unfold quoMag;rw [if_pos hcase])
   have HRM:=hid (show remMag m n=n.natAbs-m.natAbs % n.natAbs from by unfold remMag;rw [if_pos hcase])
   have hdm:decide (m<0)=true:=decide_eq_true hcase.1
   have hl0:¬ (p4 (m.natAbs % n.natAbs)).length=0:=fun h=>hcase.2 (p4_eq_nil.1 (List.length_eq_zero_iff.1 h))
   have hp2:decide (0<(p4 (m.natAbs % n.natAbs)).length)=true:=decide_eq_true (by omega)
   have hp3:0<(p4 (m.natAbs % n.natAbs)).length:=by omega
   have hml:=Nat.mod_lt m.natAbs (show 0<n.natAbs by omega)
   have hl8:=p4_add_len (k:=90000000) (m:=m.natAbs/n.natAbs) (n:=1) (by omega) (by rw [p4_small (by decide) (by decide)];decide)
   have HP1:=hid (p4_small (n:=1) (by decide) (by decide))
   rw [hdm] at HQE
   rw [hdn] at HQE
   clear hcase hl0
   go_wp2_with fail
   have hal:=alloc_below7 w7 (Obj.cells #[Value.int .i64 1] 3)
   refine (q_joined u7 _ (p4 (m.natAbs/n.natAbs)) [1] 1 (m.natAbs/n.natAbs+1) (by decide) (by rw [v4_p4];simp) (p4_lt _) (by intro y hy;simp only [List.mem_singleton] at hy;omega) (by omega) (by simp) _ (HU7.out.below hal) (n64s_one _)).mono ?_
   rintro e w8 ⟨v8,rfl,hv8,hb8⟩
   have HV8:=hid hv8
   have hb18:=hb17.trans ((hal.trans (hb8.mono hal.size)).mono hb17.size)
   have HV7b:=hid (HV7.out.below (hal.trans (hb8.mono hal.size)))
   clear hv8 hb8 hal HV7 HU7
   go_wp2_with fail
   refine (q_take s n.natAbs HT.out.1 (by have:=HT.out.2;omega) _).mono ?_
   rintro e w9 ⟨v9,rfl,hv9,hb9⟩
   have HV9:=hid hv9
   have HV8b:=hid (HV8.out.below hb9)
   have HV7c:=hid (HV7b.out.below hb9)
   have hb19:=hb18.trans (hb9.mono hb18.size)
   clear hv9 hb9 HV8 HV7b
   go_wp2_with fail
   refine (q_joined v9 _ (p4 n.natAbs) (p4 (m.natAbs % n.natAbs)) (-1) (n.natAbs-m.natAbs % n.natAbs) (by decide) (by rw [v4_p4,v4_p4];omega) (p4_lt _) (p4_lt _) (by omega) (by omega) _ HV9.out HV7c.out).mono ?_
   rintro e w10 ⟨v10,rfl,hv10,hb10⟩
   have HV10:=hid hv10
   have HV8c:=hid (HV8b.out.below hb10)
   have hb110:=hb19.trans (hb10.mono hb19.size)
   clear hv10 hb10 HV8b HV7c HV9
   go_wp2_with fail
   refine (q_made _ _ (m.natAbs/n.natAbs+1) (by omega) _ (HW.out.below hb110) HV8c.out).mono ?_
   rintro e w11 ⟨r11,rfl,hr11,hb11⟩
   have HR11:=hid hr11
   have HV10b:=hid (HV10.out.below hb11)
   have hb111:=hb110.trans (hb11.mono hb110.size)
   clear hr11 hb11
   go_wp2_with fail
   refine (q_made _ _ (n.natAbs-m.natAbs % n.natAbs) (by have:=p4_len_mono (Nat.sub_le n.natAbs (m.natAbs % n.natAbs));omega) _ (HW.out.below hb111) HV10b.out).mono ?_
   rintro e w12 ⟨r12,rfl,hr12,hb12'⟩
   have HR12:=hid hr12
   clear hr12
   go_wp2
   go_ret2
   refine ⟨_,_,rfl,?_,?_,hb111.trans (hb12'.mono hb111.size)⟩
   ·have h1:=HR11.out
    have h2:=HQE.out
    rw [HQM.out] at h2
    rw [←h2]
    simpa [sgnd] using h1
   ·have h1:=HR12.out
    rw [←HRE.out,HRM.out]
    simpa [sgnd] using h1
  ·have HQM:=hid (show quoMag m n=m.natAbs/n.natAbs from by unfold quoMag;rw [if_neg hcase])
   have HRM:=hid (show remMag m n=m.natAbs % n.natAbs from by unfold remMag;rw [if_neg hcase])
   obtain ⟨bm,hbm⟩ : ∃ bm,decide (m<0)=bm:=⟨_,rfl⟩
   have hcc:bm=true→(p4 (m.natAbs % n.natAbs)).length=0:=by
    intro h
    have hm:m<0:=by rw [h] at hbm;exact of_decide_eq_true hbm
    have h0:m.natAbs % n.natAbs=0:=by
     by_cases h0:m.natAbs % n.natAbs=0
     ·exact h0
     ·exact absurd ⟨hm,h0⟩ hcase
    rw [h0,p4_zero];rfl
   rw [hbm,hdn] at HQE
   rw [hbm]
   clear hcase hbm
   cases bm
   ·go_wp2_with fail
    refine (q_made _ _ (m.natAbs/n.natAbs) (by omega) _ (HW.out.below hb17) HU7.out).mono ?_
    rintro e w11 ⟨r11,rfl,hr11,hb11⟩
    have HR11:=hid hr11
    have HV10b:=hid (HV7.out.below hb11)
    have hb111:=hb17.trans (hb11.mono hb17.size)
    clear hr11 hb11
    go_wp2_with fail
    refine (q_made _ _ (m.natAbs % n.natAbs) (by omega) _ (HW.out.below hb111) HV10b.out).mono ?_
    rintro e w12 ⟨r12,rfl,hr12,hb12'⟩
    have HR12:=hid hr12
    clear hr12
    go_wp2
    go_ret2
    refine ⟨_,_,rfl,?_,?_,hb111.trans (hb12'.mono hb111.size)⟩
    ·have h1:=HR11.out
     have h2:=HQE.out
     rw [HQM.out] at h2
     rw [←h2]
     simpa [sgnd] using h1
    ·have h1:=HR12.out
     rw [←HRE.out,HRM.out]
     simpa [sgnd] using h1
   ·have hz:=hcc rfl
    have hp2:decide (0<(p4 (m.natAbs % n.natAbs)).length)=false:=decide_eq_false (by omega)
    have hp3:¬ 0<(p4 (m.natAbs % n.natAbs)).length:=by omega
    clear hz hcc
    go_wp2_with fail
    refine (q_made _ _ (m.natAbs/n.natAbs) (by omega) _ (HW.out.below hb17) HU7.out).mono ?_
    rintro e w11 ⟨r11,rfl,hr11,hb11⟩
    have HR11:=hid hr11
    have HV10b:=hid (HV7.out.below hb11)
    have hb111:=hb17.trans (hb11.mono hb17.size)
    clear hr11 hb11
    go_wp2_with fail
    refine (q_made _ _ (m.natAbs % n.natAbs) (by omega) _ (HW.out.below hb111) HV10b.out).mono ?_
    rintro e w12 ⟨r12,rfl,hr12,hb12'⟩
    have HR12:=hid hr12
    clear hr12
    go_wp2
    go_ret2
    refine ⟨_,_,rfl,?_,?_,hb111.trans (hb12'.mono hb111.size)⟩
    ·have h1:=HR11.out
     have h2:=HQE.out
     rw [HQM.out] at h2
     rw [←h2]
     simpa [sgnd] using h1
    ·have h1:=HR12.out
     rw [←HRE.out,HRM.out]
     simpa [sgnd] using h1
theorem isI_mono {s t:ByteArray} {m n:Nat} (h:IsI s (m:Int)) (k:IsI t (n:Int)) (hl:n≤m):t.size≤s.size:=by
 rw [h.size,k.size,itoa_nat,itoa_nat,decDigits_len,decDigits_len]
 exact nDigits_mono hl
theorem q_Gcd (a b:ByteArray) (m n:Int) (ha:IsI a m) (hb:IsI b n) (hsa:a.size≤80000000) (hsb:b.size≤80000000) (w:World) (hw:Good w) :
  Calls Tryz.prog 109 #[.string a,.string b] w fun e w'=>∃ r:ByteArray,e=.returned (.string r)∧IsI r ((Int.gcd m n:Nat):Int)∧Below w.heap.size w w':=by
 have HAA:=hid (fun W=>q_Abs a m ha W)
 have HAB:=hid (fun W=>q_Abs b n hb W)
 have SA:=hid (fun (r:ByteArray) (h:IsI r (m.natAbs:Int))=>(by have:=mag_size_le ha h;omega:r.size≤80000000))
 have SB:=hid (fun (r:ByteArray) (h:IsI r (n.natAbs:Int))=>(by have:=mag_size_le hb h;omega:r.size≤80000000))
 clear ha hb
 go_enter Tryz.func109,Tryz.ntmps109
 go_wp2_with fail
 refine (HAA.out w).mono ?_
 rintro e w1 ⟨r,rfl,hr,hb1⟩
 have HR:=hid hr
 have hrs:=SA.out r hr
 clear hr
 go_wp2_with fail
 refine (HAB.out w1).mono ?_
 rintro e w2 ⟨s,rfl,hs,hb2⟩
 have HS:=hid hs
 have hss:=SB.out s hs
 have hb12:=hb1.trans (hb2.mono hb1.size)
 clear hs hb2 hb1
 go_wp2_with fail
 go_loopg [0,1,5,6] n.natAbs (fun k av bv _ _ wr=>∃ (x:Nat) (r s:ByteArray),av=.string r∧bv=.string s∧IsI r (x:Int)∧IsI s (k:Int)∧Nat.gcd x k=Int.gcd m n∧r.size≤80000000∧s.size≤80000000∧Below w.heap.size w wr)
 case atStart=>exact ⟨m.natAbs,r,s,rfl,rfl,HR.out,HS.out,(Int.gcd_eq_natAbs_gcd_natAbs m n).symm,hrs,hss,hb12⟩
 case round =>
  obtain ⟨x,r,s,rfl,rfl,hr,hs,hg,hrs,hss,hbr⟩:=hrel
  have hz:=hs.zero
  have HR:=hid hr
  have HS:=hid hs
  have HG:=hid hg
  clear hr hs hg
  by_cases hk:gk=0
  ·rw [decide_eq_true (show (gk:Int)=0 by omega)] at hz
   have HK:=hid hk
   clear hk
   go_wp2
   go_ret
   refine ⟨_,rfl,?_,hbr⟩
   have h1:=HG.out
   rw [HK.out,Nat.gcd_zero_right] at h1
   rw [←h1]
   exact HR.out
  ·rw [decide_eq_false (show ¬ (gk:Int)=0 by omega)] at hz
   have HK:=hid hk
   clear hk
   go_wp2_with fail
   refine (q_DivMod r s (x:Int) (gk:Int) HR.out HS.out (by have:=HK.out;omega) hrs hss _ (hw.below hbr)).mono ?_
   rintro e w3 ⟨u,v,rfl,-,hv,hb3⟩
   have hv2:IsI v ((x % gk:Nat):Int):=by rwa [Int.natCast_emod]
   have hvs:=isI_mono HS.out hv2 (Nat.le_of_lt (Nat.mod_lt _ (by have:=HK.out;omega)))
   have HV:=hid hv2
   have hb13:=hbr.trans (hb3.mono hbr.size)
   have HKL:=hid (Nat.mod_lt x (show 0<gk by have:=HK.out;omega))
   clear hv hv2 hb3
   go_wp2
   go_roundg (x % gk)
   case rel=>exact ⟨gk,s,v,rfl,rfl,HS.out,HV.out,by rw [Nat.gcd_comm,←Nat.gcd_rec,Nat.gcd_comm];exact HG.out,hss,by omega,hb13⟩
   case measure=>exact HKL.out
end Go.Proofs.YtgohnjdgoglcfaaGreatDoor
namespace Go.Proofs.YtgohnjdgoglcfaaGreatDoor
open Go.Lib (decDigits itoa nDigits compareBytes hasPrefix)
open Go.RowKit Go.Sort
open Go.Lib (hid)
def SplitAnyPost (s:ByteArray) (w:World) (e:Ending) (w':World):Prop:=∃ r:ByteArray,e=.returned (.tuple #[.bool (hasPrefix s.data.toList [45]),.string r])∧r.data.toList=magOf s.data.toList∧Below w.heap.size w w'
theorem first45P {s:ByteArray} (h:0<s.size):hasPrefix s.data.toList [45]=((s[0].toNat:Int) == 45):=by
 rw [Bool.eq_iff_iff,hasPrefix45,first45 h]
theorem q_SplitAny (s:ByteArray) (hs:s.size≤9000000000) (w:World):Calls Tryz.prog 134 #[.string s] w (SplitAnyPost s w):=by
 by_cases h0:0<s.size
 ·have hp:decide ((0:Int)<(s.size:Int))=true:=decide_eq_true (by omega)
  have i1:(1:Int)≤(s.size:Int):=by omega
  have hf:=first45P h0
  by_cases hb:((s[0].toNat:Int) == 45)=true
  ·have HM:=hid (show (s.extract 1 s.size).data.toList=magOf s.data.toList by
    obtain ⟨r,hr⟩:=(first45 h0).1 hb
    have h3:s.size=r.length+1:=by rw [Lib.size_eq,hr];rfl
    rw [Lib.extract_data,hr,h3]
    simp [magOf])
   have HF:=hid (hf.trans hb)
   clear hf
   go_enter Tryz.func134,Tryz.ntmps134
   go_wp2_with fail
   go_quiet (fail)
   go_wp2
   go_ret2
   exact ⟨_,by rw [HF.out];rfl,HM.out,q_drewN _ _⟩
  ·have hb2:((s[0].toNat:Int) == 45)=false:=by simpa using hb
   have HM:=hid (show s.data.toList=magOf s.data.toList from (magOf_dig fun r hr=>hb ((first45 h0).2 ⟨r,hr⟩)).symm)
   have HF:=hid (hf.trans hb2)
   clear hf hb
   go_enter Tryz.func134,Tryz.ntmps134
   go_wp2
   go_ret2
   exact ⟨_,by rw [HF.out];rfl,HM.out,Below.refl _ _⟩
 ·have hl:s.data.toList=[]:=List.eq_nil_of_length_eq_zero (by rw [←Lib.size_eq];omega)
  have HM:=hid (show s.data.toList=magOf s.data.toList by rw [hl];rfl)
  have HF:=hid (show hasPrefix s.data.toList [45]=false by rw [hl];rfl)
  have hp:decide ((0:Int)<(s.size:Int))=false:=decide_eq_false (by omega)
  clear hl
  go_enter Tryz.func134,Tryz.ntmps134
  go_wp2
  go_ret2
  exact ⟨_,by rw [HF.out];rfl,HM.out,Below.refl _ _⟩
def canB (l:List UInt8):Bool:=(magOf l).all isDig && !((magOf l).isEmpty || ((magOf l).head? == some 48 && (hasPrefix l [45] || decide (1<(magOf l).length))))
theorem intOk_can (l:List UInt8):intOk l=(canB l && decide ((magOf l).length≤200)):=by
 unfold intOk canB
 have e1:hasPrefix l [45]=(l.head? == some 45):=by
  rw [Bool.eq_iff_iff,hasPrefix45]
  cases l <;> simp
 rw [e1]
 have e2:decide ((magOf l).length≤200)=!decide (200<(magOf l).length):=by
  by_cases h:200<(magOf l).length
  ·simp [h]
  ·simp [h];omega
 rw [e2]
 dsimp only
 generalize (magOf l).isEmpty=a
 generalize decide (200<(magOf l).length)=b
 generalize ((magOf l).head? == some 48)=c
 generalize decide (1<(magOf l).length)=d
 generalize (l.head? == some 45)=e
 generalize (magOf l).all isDig=f
 cases a <;> cases b <;> cases c <;> cases d <;> cases e <;> cases f <;> rfl
theorem q_Canonical (s:ByteArray) (hs:s.size≤9000000000) (w:World) :
  Calls Tryz.prog 152 #[.string s] w fun e w'=>e=.returned (.bool (canB s.data.toList))∧Below w.heap.size w w':=by
 have HS:=hid (fun W=>q_SplitAny s hs W)
 unfold SplitAnyPost at HS
 have HC:=hid (show canB s.data.toList=((magOf s.data.toList).all isDig && !((magOf s.data.toList).isEmpty || ((magOf s.data.toList).head? == some 48 && (hasPrefix s.data.toList [45] || decide (1<(magOf s.data.toList).length))))) from rfl)
 have hml:(magOf s.data.toList).length≤s.size:=by
  rw [Lib.size_eq]
  unfold magOf;split
  ·rename_i h;rw [h];simp
  ·exact Nat.le_refl _
 generalize hasPrefix s.data.toList [45]=mi at *
 go_enter Tryz.func152,Tryz.ntmps152
 go_wp2_with fail
 refine (HS.out w).mono ?_
 rintro e w1 ⟨t,rfl,ht,hb1⟩
 have htl:t.size=(magOf s.data.toList).length:=by rw [Lib.size_eq,ht]
 have hts:t.size≤9000000000:=by omega
 rw [←ht] at HC
 clear ht htl hml
 go_wp2_with fail
 go_loop [5] (fun iv=>∃ k:Nat,k≤t.size∧iv=.int .i64 (k:Int)∧DigTo t k) (fun iv=>t.size-(intOf iv).toNat)
 case atStart=>exact ⟨0,Nat.zero_le _,rfl,fun j _ h=>absurd h (Nat.not_lt_zero _)⟩
 case round =>
  obtain ⟨k,hk,rfl,hd⟩:=hrel
  have HD:=hid hd
  clear hd
  by_cases hks:k<t.size
  ·have HDK:=hid (fun h=>@all_dig_false t k hks h)
   have HDG:=hid (@isDig_at t k hks)
   by_cases h1:(t[k].toNat:Int)<48
   ·have HCB:=hid (show canB s.data.toList=false by rw [HC.out,HDK.out (.inl h1)];rfl)
    go_wp2
    go_ret
    exact ⟨ret_bool HCB.out.symm,hb1⟩
   ·by_cases h2:57<(t[k].toNat:Int)
    ·have HCB:=hid (show canB s.data.toList=false by rw [HC.out,HDK.out (.inr h2)];rfl)
     go_wp2
     go_ret
     exact ⟨ret_bool HCB.out.symm,hb1⟩
    ·have HN:=hid (show DigTo t (k+1) from fun j hj hjk=>by
      by_cases hjk2:j<k
      ·exact HD.out j hj hjk2
      ·obtain rfl:j=k:=by omega
       exact HDG.out.2 ⟨by omega,by omega⟩)
     go_wp2
     go_round
     case rel=>exact ⟨k+1,hks,congrArg (Value.int .i64) (by omega),HN.out⟩
     case measure =>
      show t.size-((k:Int)+1).toNat<t.size-((k:Int)).toNat
      omega
  ·obtain rfl:k=t.size:=by omega
   have HA:=hid (digTo_all HD.out)
   have hlt:decide ((t.size:Int)<(t.size:Int))=false:=by simp
   by_cases h0:t.size=0
   ·have he:t.data.toList.isEmpty=true:=by rw [List.isEmpty_iff_length_eq_zero,←Lib.size_eq];exact h0
    have HCB:=hid (show canB s.data.toList=false by rw [HC.out,he];simp)
    clear he
    go_wp2
    go_ret
    exact ⟨ret_bool HCB.out.symm,hb1⟩
   ·have he:t.data.toList.isEmpty=false:=by
     rw [List.isEmpty_eq_false_iff]
     intro hh
     rw [Lib.size_eq,hh] at h0;exact h0 rfl
    have h0':0<t.size:=by omega
    have hH:=head48 h0'
    have hlen:t.data.toList.length=t.size:=(Lib.size_eq t).symm
    have HCB:=hid (show canB s.data.toList=!(((t[0].toNat:Int) == 48) && (mi || decide (1<t.size))) by rw [HC.out,HA.out,he,hH,hlen];rfl)
    clear he hH hlen
    by_cases h1:((t[0].toNat:Int) == 48)=true
    ·rw [h1] at HCB
     cases mi
     ·by_cases h3:1<t.size
      ·have HE:=hid (show canB s.data.toList=false by rw [HCB.out,decide_eq_true h3];rfl)
       have i3:(1:Int)<(t.size:Int):=by omega
       go_wp2
       go_ret
       exact ⟨ret_bool HE.out.symm,hb1⟩
      ·have HE:=hid (show canB s.data.toList=true by rw [HCB.out,decide_eq_false h3];rfl)
       have i3:¬ (1:Int)<(t.size:Int):=by omega
       go_wp2
       go_ret
       exact ⟨ret_bool HE.out.symm,hb1⟩
     ·have HE:=hid (show canB s.data.toList=false by rw [HCB.out];rfl)
      go_wp2
      go_ret
      exact ⟨ret_bool HE.out.symm,hb1⟩
    ·have h1':((t[0].toNat:Int) == 48)=false:=by simpa using h1
     rw [h1'] at HCB
     have HE:=hid (show canB s.data.toList=true by rw [HCB.out];rfl)
     clear h1
     go_wp2
     go_ret
     exact ⟨ret_bool HE.out.symm,hb1⟩
theorem q_Right (s:ByteArray) (hs:s.size≤9000000000) (w:World) :
  Calls Tryz.prog 106 #[.string s] w fun e w'=>e=.returned (.bool (intOk s.data.toList))∧Below w.heap.size w w':=by
 have HS:=hid (fun W=>q_SplitAny s hs W)
 unfold SplitAnyPost at HS
 have HC:=hid (fun W=>q_Canonical s hs W)
 have HI:=hid (intOk_can s.data.toList)
 go_enter Tryz.func106,Tryz.ntmps106
 go_wp2_with fail
 refine (HS.out w).mono ?_
 rintro e w1 ⟨t,rfl,ht,hb1⟩
 rw [←ht,←Lib.size_eq] at HI
 clear ht
 go_wp2_with fail
 refine (HC.out w1).mono ?_
 rintro e w2 ⟨rfl,hb2⟩
 have hb12:=hb1.trans (hb2.mono hb1.size)
 generalize canB s.data.toList=c at *
 cases c
 ·go_wp2
  go_ret
  exact ⟨ret_bool HI.out.symm,hb12⟩
 ·have HI2:=hid (show intOk s.data.toList=decide (t.size≤200) by rw [HI.out];rfl)
  go_wp2
  go_ret
  exact ⟨ret_bool (by rw [HI2.out];exact decide_eq_decide.2 (by omega)),hb12⟩
end Go.Proofs.YtgohnjdgoglcfaaGreatDoor
