import Derived.Test.YtogdahbbogimcaaGreatDoorDiv3bZ
import Derived.Test.YtogdahbbogimcaaGreatDoorMathZ
import Derived.Deep.LoopGhost
import Derived.Deep.RegionHeld3
set_option maxRecDepth 100000
set_option maxHeartbeats 1000000
namespace Go.Proofs.YtogdahbbogimcaaGreatDoor
open Go.RowKit
open Go.Lib (hid)
theorem integer_divide (va vb:Value) (m n:Nat) (w:World) (hn0:n≠0) (hlen:(pcs m).length≤549755813888) (ha:U64s w va (pcs m)) (hb:U64s w vb (pcs n)) :
  Calls Tryz.prog 90 #[va,vb] w (DivPost m n w):=by
 rcases Nat.lt_or_ge m n with h | h
 ·exact integer_divide_lt va vb m n w h ha hb
 ·rcases Nat.lt_or_ge n 1000000000 with h1 | h1
  ·exact integer_divide_one va vb m n w hn0 h1 (by omega) ha hb
  ·have hl:2≤(pcs n).length:=by
    rcases Nat.lt_or_ge (pcs n).length 2 with h2 | h2
    ·have h3:=lt_of_pcs_len n
     have h4:1000000000 ^ (pcs n).length≤1000000000 ^ 1:=Nat.pow_le_pow_right (by decide) (by omega)
     omega
    ·exact h2
   exact integer_divide_long va vb m n ((pcs n).length-2) w (by omega) h hlen ha hb
theorem number_field (neg:Bool) (p:Option Addr) (n c:Nat) (w:World):(Instr.field 114 (.agg #[.bool neg,.slice p n c]) 1).run Tryz.prog w=.ok (.slice p n c) w:=by kernel_rfl
theorem gcd_max (x:Int):max x (-x)=(x.natAbs:Int):=by omega
theorem integer_Gcd (a b:ByteArray) (m n:Int) (ha:IsI a m) (hb:IsI b n) (hsa:a.size≤9000000000) (hsb:b.size≤9000000000) (w:World) (hw:Good w) :
  Calls Tryz.prog 60 #[.string a,.string b] w fun e w'=>∃ r:ByteArray,e=.returned (.string r)∧IsI r ((Int.gcd m n:Nat):Int)∧Below w.heap.size w w':=by
 have hfld:=number_field
 have HA:=hid ha
 have HB:=hid hb
 have hlm:=Nat.le_trans (pcs_len_size ha) hsa
 have hln:=Nat.le_trans (pcs_len_size hb) hsb
 clear ha hb
 by_cases hq:a.size≤18∧b.size≤18
 ·obtain ⟨q1,q2⟩:=hq
  have hx:=natAbs_lt_of_itoa_length (k:=18) (n:=m) (by rw [←HA.out.size];exact q1)
  have hy:=natAbs_lt_of_itoa_length (k:=18) (n:=n) (by rw [←HB.out.size];exact q2)
  have hx':m.natAbs<1000000000000000000:=by simpa using hx
  have hy':n.natAbs<1000000000000000000:=by simpa using hy
  clear hx hy
  go_enter Tryz.func60,Tryz.ntmps60
  go_wp2_with fail
  refine (integer_quick_short a m 18 HA.out (by omega) (by omega) _).mono ?_
  rintro e w1 ⟨rfl,hb1⟩
  go_wp2_with fail
  refine (integer_quick_short b n 18 HB.out (by omega) (by omega) _).mono ?_
  rintro e w2 ⟨rfl,hb2⟩
  have hb12:=hb1.trans (hb2.mono hb1.size)
  go_wp2
  go_loopw [5,7] (fun xv yv wr=>∃ x y:Int,xv=.int .i64 x∧yv=.int .i64 y∧Nat.gcd x.natAbs y.natAbs=Int.gcd m n∧x.natAbs<1000000000000000000∧y.natAbs<1000000000000000000∧Below w.heap.size w wr) (fun _ yv _=>(intOf yv).natAbs)
  case atStart=>exact ⟨m,n,rfl,rfl,(Int.gcd_eq_natAbs_gcd_natAbs m n).symm,hx',hy',hb12⟩
  case round =>
   obtain ⟨x,y,rfl,rfl,hg,hxl,hyl,hbr⟩:=hrel
   have HG:=hid hg
   clear hg
   by_cases hy0:y=0
   ·subst hy0
    have hz:((0:Int) != 0)=false:=rfl
    have hx1:-999999999999999999≤x:=by omega
    have hx2:x≤999999999999999999:=by omega
    go_wp2_with fail
    rw [gcd_max]
    refine (integer_Of (x.natAbs:Int) (by omega) (by omega) _ ((hw.below hbr))).mono ?_
    rintro e w3 ⟨r,rfl,hr,hb3⟩
    go_wp2
    go_ret
    refine ⟨_,rfl,?_,hbr.trans (hb3.mono hbr.size)⟩
    rw [←HG.out]
    simpa using hr
   ·have hz:(y != 0)=true:=by simpa using hy0
    have hz2:(y == 0)=false:=by simpa using hy0
    have hs:=gcd_step x y
    have ht:=tmod_lt (a:=x) hy0
    have HS:=hid hs
    have HT:=hid ht
    clear hs ht
    go_wp2_with fail
    go_quiet (fail)
    go_wp2
    exact ⟨⟨y,x.tmod y,rfl,rfl,by rw [HS.out];exact HG.out,hyl,by have:=HT.out;omega,⟨hbr.os,hbr.tape,hbr.output,hbr.size,hbr.block⟩⟩,by simpa [intOf] using HT.out⟩
 ·have HL:=hid hq
  clear hq
  by_cases h1:a.size≤18
  ·have h2:(18:Int)<(b.size:Int):=by have:=HL.out;omega
   clear HL
   go_enter Tryz.func60,Tryz.ntmps60
   go_wp2_with fail
   refine (integer_quick_short a m 18 HA.out (by omega) (by omega) _).mono ?_
   rintro e w1 ⟨rfl,hb1⟩
   go_wp2_with fail
   refine (integer_quick_long b 18 h2 _).mono ?_
   rintro e w1' ⟨rfl,rfl⟩
   go_wp2_with fail
   refine (integer_open a m HA.out hsa _).mono ?_
   rintro e w2 ⟨p,rfl,hp2,hb2⟩
   obtain ⟨p,cp,rfl,_,_⟩:=hp2.slice
   go_wp2_with fail
   refine (integer_open b n HB.out hsb _).mono ?_
   rintro e w3 ⟨q,rfl,hq3,hb3⟩
   have hp3:=hp2.below hb3
   obtain ⟨q,cq,rfl,_,_⟩:=hq3.slice
   have hb13:=(hb1.trans (hb2.mono hb1.size)).trans (hb3.mono (Nat.le_trans hb1.size hb2.size))
   go_wp2_with fail
   go_loopg [9,10] n.natAbs (fun k xv yv wr=>∃ X:Nat,U64s wr xv (pcs X)∧U64s wr yv (pcs k)∧Nat.gcd X k=Int.gcd m n∧(pcs X).length≤9000000000∧(pcs k).length≤9000000000∧Below w.heap.size w wr)
   case atStart=>exact ⟨m.natAbs,hp3,hq3,(Int.gcd_eq_natAbs_gcd_natAbs m n).symm,hlm,hln,hb13⟩
   case round =>
    obtain ⟨X,hX,hY,hg,hXl,hYl,hbr⟩:=hrel
    have HG:=hid hg
    have HX:=hid hX
    have HY:=hid hY
    clear hg
    obtain ⟨px,cx,rfl,_,_⟩:=hX.slice
    obtain ⟨py,cy,rfl,_,_⟩:=hY.slice
    clear hX hY
    by_cases hk0:gk=0
    ·have hl0:(pcs gk).length=0:=by rw [hk0,pcs_zero];rfl
     have hd0:decide (0<(pcs gk).length)=false:=by rw [hl0];rfl
     have HK0:=hid hk0
     clear hk0 hl0
     go_wp2_with fail
     refine (integer_close false _ X (by omega) _ (hw.below hbr) HX.out).mono ?_
     rintro e w4 ⟨r,rfl,hr,hb4⟩
     go_wp2
     go_ret
     refine ⟨_,rfl,?_,hbr.trans (hb4.mono hbr.size)⟩
     have h1:=HG.out
     rw [HK0.out,Nat.gcd_zero_right] at h1
     rw [←h1]
     simpa [signedOf] using hr
    ·have hlp:=pcs_length_pos hk0
     have hd0:decide (0<(pcs gk).length)=true:=by simpa using hlp
     go_wp2_with fail
     refine (integer_divide _ _ X gk _ hk0 (by omega) HX.out HY.out).mono ?_
     rintro e w4 ⟨q4,r4,rfl,hq4,hr4,hb4,-⟩
     obtain ⟨pq4,cq4,rfl,_,_⟩:=hq4.slice
     obtain ⟨pr4,cr4,rfl,_,_⟩:=hr4.slice
     have hml:=Nat.mod_lt X (Nat.pos_of_ne_zero hk0)
     have HQ4:=hid hq4
     have HR4:=hid hr4
     have hml2:=pcs_len_mono (Nat.le_of_lt hml)
     have HML:=hid hml
     clear hq4 hr4 hml
     go_wp2
     go_roundg (X % gk)
     case rel =>
      exact ⟨gk,HY.out.below hb4,HR4.out,by rw [Nat.gcd_comm,←Nat.gcd_rec,Nat.gcd_comm];exact HG.out,hYl,by omega,hbr.trans (hb4.mono hbr.size)⟩
     case measure=>exact HML.out
  ·have h2:(18:Int)<(a.size:Int):=by omega
   clear HL
   go_enter Tryz.func60,Tryz.ntmps60
   go_wp2_with fail
   refine (integer_quick_long a 18 h2 _).mono ?_
   rintro e w1 ⟨rfl,rfl⟩
   have hb1:=Below.refl w.heap.size w
   go_wp2_with fail
   refine (integer_open a m HA.out hsa _).mono ?_
   rintro e w2 ⟨p,rfl,hp2,hb2⟩
   obtain ⟨p,cp,rfl,_,_⟩:=hp2.slice
   go_wp2_with fail
   refine (integer_open b n HB.out hsb _).mono ?_
   rintro e w3 ⟨q,rfl,hq3,hb3⟩
   have hp3:=hp2.below hb3
   obtain ⟨q,cq,rfl,_,_⟩:=hq3.slice
   have hb13:=(hb1.trans (hb2.mono hb1.size)).trans (hb3.mono (Nat.le_trans hb1.size hb2.size))
   go_wp2_with fail
   go_loopg [9,10] n.natAbs (fun k xv yv wr=>∃ X:Nat,U64s wr xv (pcs X)∧U64s wr yv (pcs k)∧Nat.gcd X k=Int.gcd m n∧(pcs X).length≤9000000000∧(pcs k).length≤9000000000∧Below w.heap.size w wr)
   case atStart=>exact ⟨m.natAbs,hp3,hq3,(Int.gcd_eq_natAbs_gcd_natAbs m n).symm,hlm,hln,hb13⟩
   case round =>
    obtain ⟨X,hX,hY,hg,hXl,hYl,hbr⟩:=hrel
    have HG:=hid hg
    have HX:=hid hX
    have HY:=hid hY
    clear hg
    obtain ⟨px,cx,rfl,_,_⟩:=hX.slice
    obtain ⟨py,cy,rfl,_,_⟩:=hY.slice
    clear hX hY
    by_cases hk0:gk=0
    ·have hl0:(pcs gk).length=0:=by rw [hk0,pcs_zero];rfl
     have hd0:decide (0<(pcs gk).length)=false:=by rw [hl0];rfl
     have HK0:=hid hk0
     clear hk0 hl0
     go_wp2_with fail
     refine (integer_close false _ X (by omega) _ (hw.below hbr) HX.out).mono ?_
     rintro e w4 ⟨r,rfl,hr,hb4⟩
     go_wp2
     go_ret
     refine ⟨_,rfl,?_,hbr.trans (hb4.mono hbr.size)⟩
     have h1:=HG.out
     rw [HK0.out,Nat.gcd_zero_right] at h1
     rw [←h1]
     simpa [signedOf] using hr
    ·have hlp:=pcs_length_pos hk0
     have hd0:decide (0<(pcs gk).length)=true:=by simpa using hlp
     go_wp2_with fail
     refine (integer_divide _ _ X gk _ hk0 (by omega) HX.out HY.out).mono ?_
     rintro e w4 ⟨q4,r4,rfl,hq4,hr4,hb4,-⟩
     obtain ⟨pq4,cq4,rfl,_,_⟩:=hq4.slice
     obtain ⟨pr4,cr4,rfl,_,_⟩:=hr4.slice
     have hml:=Nat.mod_lt X (Nat.pos_of_ne_zero hk0)
     have HQ4:=hid hq4
     have HR4:=hid hr4
     have hml2:=pcs_len_mono (Nat.le_of_lt hml)
     have HML:=hid hml
     clear hq4 hr4 hml
     go_wp2
     go_roundg (X % gk)
     case rel =>
      exact ⟨gk,HY.out.below hb4,HR4.out,by rw [Nat.gcd_comm,←Nat.gcd_rec,Nat.gcd_comm];exact HG.out,hYl,by omega,hbr.trans (hb4.mono hbr.size)⟩
     case measure=>exact HML.out
def DivModPost (m n:Int) (w:World) (e:Ending) (w':World):Prop:=∃ q r:ByteArray,e=.returned (.tuple #[.string q,.string r,.int .i64 0])∧IsI q (m/n)∧IsI r (m % n)∧Below w.heap.size w w'
theorem integer_DivMod (a b:ByteArray) (m n:Int) (ha:IsI a m) (hb:IsI b n) (hn0:n≠0) (hsa:a.size≤9000000000) (hsb:b.size≤9000000000) (w:World) (hw:Good w) :
  Calls Tryz.prog 62 #[.string a,.string b] w (DivModPost m n w):=by
 have HA:=hid ha
 have HB:=hid hb
 have hlm:=Nat.le_trans (pcs_len_size ha) hsa
 have hln:=Nat.le_trans (pcs_len_size hb) hsb
 have hz:(b.toList == [48])=false:=by rw [hb.zero];simpa using hn0
 clear ha hb
 have hd0:n.natAbs≠0:=by omega
 go_enter Tryz.func62,Tryz.ntmps62
 go_wp2_with fail
 refine (integer_open a m HA.out hsa _).mono ?_
 rintro e w2 ⟨p,rfl,hp2,hb2⟩
 obtain ⟨p,cp,rfl,_,_⟩:=hp2.slice
 go_wp2_with fail
 refine (integer_open b n HB.out hsb _).mono ?_
 rintro e w3 ⟨q,rfl,hq3,hb3⟩
 have hp3:=hp2.below hb3
 obtain ⟨q,cq,rfl,_,_⟩:=hq3.slice
 have hb13:=hb2.trans (hb3.mono hb2.size)
 go_wp2_with fail
 obtain ⟨wA,hwA⟩ : ∃ wA,wA=((w3.alloc (Obj.cells #[Value.bool (decide (m<0)),Value.slice p (pcs m.natAbs).length cp] 114)).alloc (Obj.cells #[Value.bool (decide (n<0)),Value.slice q (pcs n.natAbs).length cq] 114)):=⟨_,rfl⟩
 rw [←hwA]
 have HT0:Two w3 (Value.bool (decide (m<0))) (Value.slice p (pcs m.natAbs).length cp) (Value.bool (decide (n<0))) (Value.slice q (pcs n.natAbs).length cq) wA:=two_blocks hwA
 clear hwA
 refine (integer_divide _ _ m.natAbs n.natAbs _ hd0 (by omega) (hp3.below HT0.low) (hq3.below HT0.low)).mono ?_
 rintro e w4 ⟨d4,m4,rfl,hd4,hm4,hb4,-⟩
 have HT:=hid (two_keep hb4 HT0)
 have hq4:=hq3.below HT.out.low
 obtain ⟨pd4,cd4,rfl,_,_⟩:=hd4.slice
 obtain ⟨pm4,cm4,rfl,_,_⟩:=hm4.slice
 have hml:=Nat.mod_lt m.natAbs (Nat.pos_of_ne_zero hd0)
 have hdl:=pcs_len_mono (Nat.div_le_self m.natAbs n.natAbs)
 have hml2:=pcs_len_mono (Nat.le_of_lt hml)
 have hQE:=quo_eq m n hn0
 have hRE:=rem_eq m n hn0
 have HQE:=hid hQE
 have HRE:=hid hRE
 have HD4:=hid hd4
 have HM4:=hid hm4
 have HQ4:=hid hq4
 have hb14:Below w.heap.size w w4:=hb13.trans ((HT.out.low).mono hb13.size)
 obtain ⟨c0,c1,c2,c3,hs4,hl4⟩:=HT.out
 clear hQE hRE hd4 hm4 hq4 HT0 hml
 by_cases hm:m<0
 ·have hdm:decide (m<0)=true:=by simpa using hm
  by_cases hz:m.natAbs % n.natAbs=0
  ·have hl0:(pcs (m.natAbs % n.natAbs)).length=0:=by rw [hz,pcs_zero];rfl
   have hgt:decide (0<(pcs (m.natAbs % n.natAbs)).length)=false:=by rw [hl0];rfl
   have HQM:=hid (show quoMag m n=m.natAbs/n.natAbs from by unfold quoMag;rw [if_neg (by omega)])
   have HRM:=hid (show remMag m n=m.natAbs % n.natAbs from by unfold remMag;rw [if_neg (by omega)])
   have HBW:=hb14
   have HDW:=HD4
   have HMW:=HM4
   clear hz hl0
   go_wp2_with fail
   refine (integer_close _ _ (quoMag m n) (by rw [HQM.out];omega) _ (hw.below HBW) (by rw [HQM.out];exact HDW.out)).mono ?_
   rintro e w8 ⟨r1,rfl,hr1,hb8⟩
   have HR1:=hid hr1
   clear hr1
   go_wp2_with fail
   refine (integer_close false _ (remMag m n) (by rw [HRM.out];omega) _ (hw.below (HBW.trans (hb8.mono HBW.size))) (by rw [HRM.out];exact HMW.out.below hb8)).mono ?_
   rintro e w9 ⟨r2,rfl,hr2,hb9⟩
   have HR2:=hid hr2
   clear hr2
   go_wp2
   go_ret3
   refine ⟨_,_,rfl,?_,?_,(HBW.trans (hb8.mono HBW.size)).trans (hb9.mono (Nat.le_trans HBW.size hb8.size))⟩
   ·rw [←HQE.out]
    have h1:=HR1.out
    unfold signedOf at h1
    simpa [hdm] using h1
   ·rw [←HRE.out];exact HR2.out
  ·have hgt:decide (0<(pcs (m.natAbs % n.natAbs)).length)=true:=by simpa using pcs_length_pos hz
   have hp1:pcs 1=[1]:=pcs_small (by decide) (by decide)
   have HP1:=hid hp1
   have HQM:=hid (show quoMag m n=m.natAbs/n.natAbs+1 from by unfold quoMag;rw [if_pos ⟨hm,hz⟩])
   have HRM:=hid (show remMag m n=n.natAbs-m.natAbs % n.natAbs from by unfold remMag;rw [if_pos ⟨hm,hz⟩])
   have hlp:=pcs_len_add (m.natAbs/n.natAbs) 1
   have hl1:(pcs 1).length≤1099511627776:=by rw [hp1];simp
   have hl1':(pcs 1).length=1:=by rw [hp1];rfl
   have hls:=pcs_len_mono (Nat.sub_le n.natAbs (m.natAbs % n.natAbs))
   have HHT:Two w3 (Value.bool (decide (m<0))) (Value.slice p (pcs m.natAbs).length cp) (Value.bool (decide (n<0))) (Value.slice q (pcs n.natAbs).length cq) w4:=HT.out
   rw [hdm] at HHT
   have hml3:m.natAbs % n.natAbs≤n.natAbs:=Nat.le_of_lt (Nat.mod_lt _ (Nat.pos_of_ne_zero hd0))
   have HML3:=hid hml3
   clear hz hp1 hml3
   go_wp2_with fail
   go_region_held3 (fun W=>W.cell? ⟨w3.heap.size,0,none⟩=some (Value.bool true)∧W.cell? ⟨w3.heap.size,1,none⟩=some (Value.slice p (pcs m.natAbs).length cp)∧W.cell? ⟨w3.heap.size+1,0,none⟩=some (Value.bool (decide (n<0)))∧W.cell? ⟨w3.heap.size+1,1,none⟩=some (Value.slice q (pcs n.natAbs).length cq)∧w3.heap.size+2≤W.heap.size∧Below w3.heap.size w3 W)
    (first
     | exact two_drew HHT
     | exact two_keep ((Below.refl _ _).alloc (Nat.le_refl _) _) (two_drew HHT)
     | (refine two_keep (by assumption) ?_;first | assumption | (go_split_ands;refine ⟨?_,?_,?_,?_,?_,?_⟩ <;> assumption)))
    (first
     | (go_at_call 91;refine (integer_plus _ _ (m.natAbs/n.natAbs) 1 _ (by omega) hl1 (HD4.out.below ?_) ?_).mono ?_;exact ((Below.refl _ _).drew).alloc (by simp) _;(rw [HP1.out];first | exact U64s.one _ 1 | exact (U64s.one _ 1).drew);rintro e w5 ⟨v5,rfl,hv5,hb5⟩;obtain ⟨p5,c5,rfl,_,_⟩:=hv5.slice)
     | (go_at_call 92;refine (integer_minus _ _ n.natAbs (m.natAbs % n.natAbs) _ (by omega) HML3.out (HQ4.out.below ?_) (HM4.out.below ?_)).mono ?_;exact (((Below.refl _ _).drew).alloc (by simp) _).trans (hb5.mono (by simp));exact (((Below.refl _ _).drew).alloc (by simp) _).trans (hb5.mono (by simp));rintro e w6 ⟨v6,rfl,hv6,hb6,-⟩;obtain ⟨p6,c6,rfl,_,_⟩:=hv6.slice))
   obtain ⟨g0,g1,g2,g3,g4,g5⟩:=(show Two w3 (Value.bool true) (Value.slice p (pcs m.natAbs).length cp) (Value.bool (decide (n<0))) (Value.slice q (pcs n.natAbs).length cq) w6 from by assumption)
   have HBW:Below w.heap.size w w6:=hb13.trans (g5.mono hb13.size)
   have HDW:=hid (hv5.below hb6)
   have HMW:=hid hv6
   clear hv5 hv6
   go_wp2_with fail
   refine (integer_close _ _ (quoMag m n) (by rw [HQM.out];omega) _ (hw.below HBW) (by rw [HQM.out];exact HDW.out)).mono ?_
   rintro e w8 ⟨r1,rfl,hr1,hb8⟩
   have HR1:=hid hr1
   clear hr1
   go_wp2_with fail
   refine (integer_close false _ (remMag m n) (by rw [HRM.out];omega) _ (hw.below (HBW.trans (hb8.mono HBW.size))) (by rw [HRM.out];exact HMW.out.below hb8)).mono ?_
   rintro e w9 ⟨r2,rfl,hr2,hb9⟩
   have HR2:=hid hr2
   clear hr2
   go_wp2
   go_ret3
   refine ⟨_,_,rfl,?_,?_,(HBW.trans (hb8.mono HBW.size)).trans (hb9.mono (Nat.le_trans HBW.size hb8.size))⟩
   ·rw [←HQE.out]
    have h1:=HR1.out
    unfold signedOf at h1
    simpa [hdm] using h1
   ·rw [←HRE.out];exact HR2.out
 ·have hdm:decide (m<0)=false:=by simpa using hm
  have HQM:=hid (show quoMag m n=m.natAbs/n.natAbs from by unfold quoMag;rw [if_neg (by omega)])
  have HRM:=hid (show remMag m n=m.natAbs % n.natAbs from by unfold remMag;rw [if_neg (by omega)])
  have HBW:=hb14
  have HDW:=HD4
  have HMW:=HM4
  go_wp2_with fail
  refine (integer_close _ _ (quoMag m n) (by rw [HQM.out];omega) _ (hw.below HBW) (by rw [HQM.out];exact HDW.out)).mono ?_
  rintro e w8 ⟨r1,rfl,hr1,hb8⟩
  have HR1:=hid hr1
  clear hr1
  go_wp2_with fail
  refine (integer_close false _ (remMag m n) (by rw [HRM.out];omega) _ (hw.below (HBW.trans (hb8.mono HBW.size))) (by rw [HRM.out];exact HMW.out.below hb8)).mono ?_
  rintro e w9 ⟨r2,rfl,hr2,hb9⟩
  have HR2:=hid hr2
  clear hr2
  go_wp2
  go_ret3
  refine ⟨_,_,rfl,?_,?_,(HBW.trans (hb8.mono HBW.size)).trans (hb9.mono (Nat.le_trans HBW.size hb8.size))⟩
  ·rw [←HQE.out]
   have h1:=HR1.out
   unfold signedOf at h1
   simpa [hdm] using h1
  ·rw [←HRE.out];exact HR2.out
open Go.Lib (decDigits itoa nDigits)
def Short (q:Rat):Prop:=q.num.natAbs<1000000000∧q.den<1000000000
def QuickPost (q:Rat) (w:World) (e:Ending) (w':World):Prop:=
 (Short q→e=.returned (.tuple #[.int .i64 q.num,.int .i64 (q.den:Int),.bool true]))∧(¬ Short q→e=.returned (.tuple #[.int .i64 0,.int .i64 0,.bool false]))∧w=w'
theorem QuickPost.no {q:Rat} {w:World} (h:¬ Short q):QuickPost q w (.returned (.tuple #[.int .i64 0,.int .i64 0,.bool false])) w:=⟨fun h'=>absurd h' h,fun _=>rfl,rfl⟩
theorem QuickPost.yes {q:Rat} {w:World} {n d:Int} (hn:n=q.num) (hd:d=(q.den:Int)) (h:Short q):QuickPost q w (.returned (.tuple #[.int .i64 n,.int .i64 d,.bool true])) w:=by
 subst hn hd;exact ⟨fun _=>rfl,fun h'=>absurd h h',rfl⟩
theorem num_neg_iff {q:Rat}:q<0↔q.num<0:=by
 rw [←rtext_head_neg,←itoa_head_neg]
 unfold rtext rjoin
 split
 ·rfl
 ·constructor
  ·rintro ⟨r,hr⟩
   cases hi:itoa q.num with
   | nil=>exact absurd hi (itoa_ne_nil _)
   | cons c t=>rw [hi] at hr;exact ⟨t,by rw [(List.cons.inj hr).1]⟩
  ·rintro ⟨r,hr⟩
   exact ⟨r++47 :: decDigits q.den,by rw [hr];rfl⟩
theorem digits_at {s:ByteArray} {A D T:List UInt8} (h:s.data.toList=A++(D++T)) (hd:∀ c∈D,isDig c=true) (k j:Nat) (hk:k<D.length) (hj:A.length+k=j) (hs:j<s.size) :
  48≤(s[j].toNat:Int)∧(s[j].toNat:Int)≤57∧((natOf (D.take (k+1)):Nat):Int)=10*((natOf (D.take k):Nat):Int)+((s[j].toNat:Int)-48):=by
 subst hj
 have e:=at_mid h hk hs
 have hc:=hd _ (List.getElem_mem hk)
 have h1:=dig_range hc
 have h2:=dv_int hc
 rw [e]
 refine ⟨h1.1,h1.2,?_⟩
 rw [take_snoc hk]
 omega
theorem rational_quick (s:ByteArray) (q:Rat) (h:IsR s q) (hss:s.size≤9000000000) (w:World):Calls Tryz.prog 31 #[.string s] w (QuickPost q w):=by
 have hp0:=h.pos
 obtain ⟨A,hA⟩ : ∃ A,A=sgnText q.num:=⟨_,rfl⟩
 obtain ⟨D,hD⟩ : ∃ D,D=decDigits q.num.natAbs:=⟨_,rfl⟩
 obtain ⟨E,hE⟩ : ∃ E,E=decDigits q.den:=⟨_,rfl⟩
 obtain ⟨T,hT⟩ : ∃ T,T=denText q.den:=⟨_,rfl⟩
 have hs:s.data.toList=A++(D++T):=by
  have h1:s.data.toList=rtext q:=h
  rw [h1,rtext_split,hA,hD,hT]
 have HS:=hid hs
 have HDG:=hid (show ∀ c∈D,isDig c=true from fun c hc=>decDigits_dig _ c (by rw [hD] at hc;exact hc))
 have HEG:=hid (show ∀ c∈E,isDig c=true from fun c hc=>decDigits_dig _ c (by rw [hE] at hc;exact hc))
 have HNV:=hid (show q.num.natAbs=natOf D by rw [hD,natOf_decDigits])
 have HEV:=hid (show q.den=natOf E by rw [hE,natOf_decDigits])
 have hszA:s.size≤A.length+D.length+T.length:=Nat.le_of_eq (size_mid hs)
 have hszB:A.length+D.length+T.length≤s.size:=Nat.le_of_eq (size_mid hs).symm
 have hDl:0<D.length:=by rw [hD];exact List.length_pos_iff.2 (decDigits_ne_nil _)
 have HD:=hid hD
 have HE:=hid hE
 have HT:=hid hT
 have hp0':decide (0<s.size)=true:=by simpa using hp0
 clear hs hD hE hT
 have hq0:q<0↔q.num<0:=num_neg_iff
 by_cases hneg:q.num<0
 ·have hneg':q<0:=hq0.2 hneg
  have HNS:=hid (show q.num = -(q.num.natAbs:Int) by omega)
  clear hq0
  have hb0:A.length=1:=by rw [hA];unfold sgnText;rw [if_pos hneg];rfl
  have hfb:((s[0].toNat:Int) == 45)=true:=by rw [h.first hp0];simpa using hneg'
  clear hA
  go_enter Tryz.func31,Tryz.ntmps31
  go_wp2
  go_loop [2,3,4,5] (fun nv dv bv iv=>dv=.int .i64 0∧bv=.bool false∧∃ j:Nat,1≤j∧(j-1)≤D.length∧(j-1)≤9∧nv=.int .i64 ((natOf (D.take (j-1)):Nat):Int)∧iv=.int .i64 (j:Int)) (fun _ _ _ iv=>s.size-(intOf iv).toNat)
  case atStart=>exact ⟨rfl,rfl,1,Nat.le_refl _,by simp,by simp,by simp [natOf],rfl⟩
  case round =>
   obtain ⟨rfl,rfl,j,hj1,hjD,hj9,rfl,rfl⟩:=hrel
   have hnl:=natOf_take_lt HDG.out (j-1) hj9
   by_cases hlt:(j-1)<D.length
   ·have hjs:j<s.size:=by omega
    obtain ⟨hc1,hc2,hc3⟩:=digits_at HS.out HDG.out (j-1) j hlt (by omega) hjs
    have hn47:((s[j].toNat:Int) != 47)=true:=by simp;omega
    have hn47':((s[j].toNat:Int) == 47)=false:=by simp;omega
    have HC3:=hid hc3
    clear hc3
    by_cases h9:(j-1)=9
    ·have h9':(((j:Int)-1) == 9)=true:=by simp;omega
     have HNO:=hid (show ¬ Short q from fun hsh=>by have:=short_len.1 hsh.1;rw [HD.out] at hlt;omega)
     clear h9
     go_wp2
     go_ret3
     exact QuickPost.no HNO.out
    ·have h9':(((j:Int)-1) == 9)=false:=by simp;omega
     go_wp2
     go_round
     case rel =>
      refine ⟨rfl,rfl,j+1,by omega,by omega,by omega,?_,by go_num⟩
      rw [show (j+1-1)=(j-1)+1 from by omega,HC3.out]
     case measure=>simp [intOf];omega
   ·have hje:(j-1)=D.length:=by omega
    have hts:D.take (j-1)=D:=by rw [hje];exact List.take_length
    rw [hts]
    rw [hts] at hnl
    have hdv:=HNV.out
    by_cases hden:q.den=1
    ·have hsz2:s.size=j:=by rw [size_mid HS.out,HT.out];unfold denText;rw [if_pos hden];simp;omega
     have hlt2:decide (j<s.size)=false:=by simp;omega
     have heq2:((j:Int) == (s.size:Int))=true:=by simp;omega
     have heq3:(j == s.size)=true:=by simp;omega
     have HDEN:=hid hden
     have hnn:q.num.natAbs<1000000000:=by omega
     have HNN:=hid hdv
     clear hts hje hden hsz2 hdv
     go_wp2
     go_ret3
     refine QuickPost.yes ?_ ?_ ⟨hnn,by rw [HDEN.out];decide⟩
     ·have h1:=HNS.out;rw [HNN.out] at h1;rw [h1]
     ·rw [HDEN.out];rfl
    ·have hTe:T=47 :: E:=by rw [HT.out];unfold denText;rw [if_neg hden,HE.out]
     have hsz2:s.size=j+1+E.length:=by rw [size_mid HS.out,hTe];simp;omega
     have hjs:j<s.size:=by omega
     have hsl:s[j]=47:=by
      have h1:=at_mid (A:=A++D) (D:=T) (T:=[]) (s:=s) (by rw [HS.out];simp) (k:=0) (by rw [hTe];simp) (by simp;omega)
      have hidx:(A++D).length+0=j:=by simp;omega
      simp only [hidx] at h1
      rw [h1]
      simp [hTe]
     have hn47:((s[j].toNat:Int) != 47)=false:=by rw [hsl];rfl
     have hn47':((s[j].toNat:Int) == 47)=true:=by rw [hsl];rfl
     have heq2:((j:Int) == (s.size:Int))=false:=by simp;omega
     have heq3:(j == s.size)=false:=by simp;omega
     have HS2:Hid (s.data.toList=(A++D ++ [47])++(E ++ [])):=hid (by rw [HS.out,hTe];simp)
     have hl2:(A++D ++ [47]).length=j+1:=by simp;omega
     have HDEN:=hid hden
     have hnn:q.num.natAbs<1000000000:=by omega
     have HNN:=hid hdv
     clear hts hje hden hTe hsl hdv
     go_wp2
     go_loop [2,3,4,5] (fun nv dv bv iv=>nv=.int .i64 (-((natOf D:Nat):Int))∧bv=.bool false∧∃ i:Nat,j+1≤i∧i-(j+1)≤E.length∧i-(j+1)≤9∧dv=.int .i64 ((natOf (E.take (i-(j+1))):Nat):Int)∧iv=.int .i64 (i:Int)) (fun _ _ _ iv=>s.size-(intOf iv).toNat)
     case atStart=>exact ⟨rfl,rfl,j+1,Nat.le_refl _,by simp,by simp,by simp [natOf],by go_num⟩
     case round =>
      obtain ⟨rfl,rfl,i,hi1,hiE,hi9,rfl,rfl⟩:=hrel
      have hel:=natOf_take_lt HEG.out (i-(j+1)) hi9
      by_cases hlt2:i-(j+1)<E.length
      ·have his:i<s.size:=by omega
       obtain ⟨hc1,hc2,hc3⟩:=digits_at HS2.out HEG.out (i-(j+1)) i hlt2 (by omega) his
       have HC3:=hid hc3
       clear hc3
       by_cases h9:i-(j+1)=9
       ·have h9':(((i:Int)-((j:Int)+1)) == 9)=true:=by simp;omega
        have HNO:=hid (show ¬ Short q from fun hsh=>by have:=short_len.1 hsh.2;rw [HE.out] at hlt2;omega)
        clear h9
        go_wp2
        go_ret3
        exact QuickPost.no HNO.out
       ·have h9':(((i:Int)-((j:Int)+1)) == 9)=false:=by simp;omega
        go_wp2
        go_round
        case rel =>
         refine ⟨rfl,rfl,i+1,by omega,by omega,by omega,?_,by go_num⟩
         rw [show (i+1-(j+1))=i-(j+1)+1 from by omega,HC3.out]
        case measure=>simp [intOf];omega
      ·have hie:i-(j+1)=E.length:=by omega
       have hts:E.take (i-(j+1))=E:=by rw [hie];exact List.take_length
       rw [hts]
       rw [hts] at hel
       have hlt3:decide (i<s.size)=false:=by simp;omega
       have hev:=HEV.out
       have hdn:q.den<1000000000:=by omega
       have HEV2:=hid hev
       clear hts hie hev
       go_wp2
       go_ret3
       refine QuickPost.yes ?_ ?_ ⟨hnn,hdn⟩
       ·have h1:=HNS.out;rw [HNN.out] at h1;rw [h1]
       ·rw [HEV2.out]
 ·have hneg':¬ q<0:=fun hh=>hneg (hq0.1 hh)
  have HNS:=hid (show q.num=(q.num.natAbs:Int) by omega)
  clear hq0
  have hb0:A.length=0:=by rw [hA];unfold sgnText;rw [if_neg hneg];rfl
  have hfb:((s[0].toNat:Int) == 45)=false:=by rw [h.first hp0];simpa using hneg'
  clear hA
  go_enter Tryz.func31,Tryz.ntmps31
  go_wp2
  go_loop [2,3,4,5] (fun nv dv bv iv=>dv=.int .i64 0∧bv=.bool false∧∃ j:Nat,j≤D.length∧j≤9∧nv=.int .i64 ((natOf (D.take j):Nat):Int)∧iv=.int .i64 (j:Int)) (fun _ _ _ iv=>s.size-(intOf iv).toNat)
  case atStart=>exact ⟨rfl,rfl,0,by simp,by simp,by simp [natOf],rfl⟩
  case round =>
   obtain ⟨rfl,rfl,j,hjD,hj9,rfl,rfl⟩:=hrel
   have hnl:=natOf_take_lt HDG.out j hj9
   by_cases hlt:j<D.length
   ·have hjs:j<s.size:=by omega
    obtain ⟨hc1,hc2,hc3⟩:=digits_at HS.out HDG.out j j hlt (by omega) hjs
    have hn47:((s[j].toNat:Int) != 47)=true:=by simp;omega
    have hn47':((s[j].toNat:Int) == 47)=false:=by simp;omega
    have HC3:=hid hc3
    clear hc3
    by_cases h9:j=9
    ·have h9':((j:Int) == 9)=true:=by simp;omega
     have HNO:=hid (show ¬ Short q from fun hsh=>by have:=short_len.1 hsh.1;rw [HD.out] at hlt;omega)
     clear h9
     go_wp2
     go_ret3
     exact QuickPost.no HNO.out
    ·have h9':((j:Int) == 9)=false:=by simp;omega
     go_wp2
     go_round
     case rel =>
      refine ⟨rfl,rfl,j+1,by omega,by omega,?_,by go_num⟩
      rw [show (j+1)=j+1 from by omega,HC3.out]
     case measure=>simp [intOf];omega
   ·have hje:j=D.length:=by omega
    have hts:D.take j=D:=by rw [hje];exact List.take_length
    rw [hts]
    rw [hts] at hnl
    have hdv:=HNV.out
    by_cases hden:q.den=1
    ·have hsz2:s.size=j:=by rw [size_mid HS.out,HT.out];unfold denText;rw [if_pos hden];simp;omega
     have hlt2:decide (j<s.size)=false:=by simp;omega
     have heq2:((j:Int) == (s.size:Int))=true:=by simp;omega
     have heq3:(j == s.size)=true:=by simp;omega
     have HDEN:=hid hden
     have hnn:q.num.natAbs<1000000000:=by omega
     have HNN:=hid hdv
     clear hts hje hden hsz2 hdv
     go_wp2
     go_ret3
     refine QuickPost.yes ?_ ?_ ⟨hnn,by rw [HDEN.out];decide⟩
     ·have h1:=HNS.out;rw [HNN.out] at h1;rw [h1]
     ·rw [HDEN.out];rfl
    ·have hTe:T=47 :: E:=by rw [HT.out];unfold denText;rw [if_neg hden,HE.out]
     have hsz2:s.size=j+1+E.length:=by rw [size_mid HS.out,hTe];simp;omega
     have hjs:j<s.size:=by omega
     have hsl:s[j]=47:=by
      have h1:=at_mid (A:=A++D) (D:=T) (T:=[]) (s:=s) (by rw [HS.out];simp) (k:=0) (by rw [hTe];simp) (by simp;omega)
      have hidx:(A++D).length+0=j:=by simp;omega
      simp only [hidx] at h1
      rw [h1]
      simp [hTe]
     have hn47:((s[j].toNat:Int) != 47)=false:=by rw [hsl];rfl
     have hn47':((s[j].toNat:Int) == 47)=true:=by rw [hsl];rfl
     have heq2:((j:Int) == (s.size:Int))=false:=by simp;omega
     have heq3:(j == s.size)=false:=by simp;omega
     have HS2:Hid (s.data.toList=(A++D ++ [47])++(E ++ [])):=hid (by rw [HS.out,hTe];simp)
     have hl2:(A++D ++ [47]).length=j+1:=by simp;omega
     have HDEN:=hid hden
     have hnn:q.num.natAbs<1000000000:=by omega
     have HNN:=hid hdv
     clear hts hje hden hTe hsl hdv
     go_wp2
     go_loop [2,3,4,5] (fun nv dv bv iv=>nv=.int .i64 (((natOf D:Nat):Int))∧bv=.bool false∧∃ i:Nat,j+1≤i∧i-(j+1)≤E.length∧i-(j+1)≤9∧dv=.int .i64 ((natOf (E.take (i-(j+1))):Nat):Int)∧iv=.int .i64 (i:Int)) (fun _ _ _ iv=>s.size-(intOf iv).toNat)
     case atStart=>exact ⟨rfl,rfl,j+1,Nat.le_refl _,by simp,by simp,by simp [natOf],by go_num⟩
     case round =>
      obtain ⟨rfl,rfl,i,hi1,hiE,hi9,rfl,rfl⟩:=hrel
      have hel:=natOf_take_lt HEG.out (i-(j+1)) hi9
      by_cases hlt2:i-(j+1)<E.length
      ·have his:i<s.size:=by omega
       obtain ⟨hc1,hc2,hc3⟩:=digits_at HS2.out HEG.out (i-(j+1)) i hlt2 (by omega) his
       have HC3:=hid hc3
       clear hc3
       by_cases h9:i-(j+1)=9
       ·have h9':(((i:Int)-((j:Int)+1)) == 9)=true:=by simp;omega
        have HNO:=hid (show ¬ Short q from fun hsh=>by have:=short_len.1 hsh.2;rw [HE.out] at hlt2;omega)
        clear h9
        go_wp2
        go_ret3
        exact QuickPost.no HNO.out
       ·have h9':(((i:Int)-((j:Int)+1)) == 9)=false:=by simp;omega
        go_wp2
        go_round
        case rel =>
         refine ⟨rfl,rfl,i+1,by omega,by omega,by omega,?_,by go_num⟩
         rw [show (i+1-(j+1))=i-(j+1)+1 from by omega,HC3.out]
        case measure=>simp [intOf];omega
      ·have hie:i-(j+1)=E.length:=by omega
       have hts:E.take (i-(j+1))=E:=by rw [hie];exact List.take_length
       rw [hts]
       rw [hts] at hel
       have hlt3:decide (i<s.size)=false:=by simp;omega
       have hev:=HEV.out
       have hdn:q.den<1000000000:=by omega
       have HEV2:=hid hev
       clear hts hie hev
       go_wp2
       go_ret3
       refine QuickPost.yes ?_ ?_ ⟨hnn,hdn⟩
       ·have h1:=HNS.out;rw [HNN.out] at h1;rw [h1]
       ·rw [HEV2.out]
theorem below_gr {w wr:World} (h:Below w.heap.size w wr) (k:Nat) (os:Array Obj):Below w.heap.size w (Sort.grow (wr.drewN k) os):=h.trans ((below_grown wr k os).mono h.size)
theorem isI_str {n:Int} {r:ByteArray} (h:IsI r n):r.data.toList=itoa n:=h
theorem frac_text {n d:Int} {s t:ByteArray} (hs:IsI s n) (ht:IsI t d) (hd:1<d):(s ++ ⟨#[47]⟩++t).data.toList=rjoin n d.toNat:=by
 have e:(s++(⟨#[47]⟩ : ByteArray)++t).data.toList=s.data.toList++47 :: t.data.toList:=by simp
 unfold rjoin
 rw [e,isI_str hs,isI_str ht,if_neg (by omega),itoa_nonneg (n:=d) (by omega)]
theorem sh_Itoa (n:Int) (h0:n.natAbs≤4000000000000000000) (w:World) (hw:Good w):Calls Tryz.prog 45 #[.int .i64 n] w fun e w'=>∃ r:ByteArray,e=.returned (.string r)∧IsI r n∧r.size≤20∧Below w.heap.size w w':=
 (Tryz.strconv_Itoa n (by omega) (by omega) _ hw.pow).mono fun e w' h=>by
  obtain ⟨rfl,k,os,rfl⟩:=h
  refine ⟨_,rfl,isI_itoa n,?_,below_grown _ _ _⟩
  rw [(isI_itoa n).size]
  exact itoa_length_le n (k:=19) (by omega) (by omega)
theorem small_vals {num den x:Int} {G:Nat} (hd:0<den) (hG:G=Int.gcd num den) (hx:x.natAbs=G):(if x<0 then -x else x)=(G:Int)∧0<(G:Int)∧num.tdiv (G:Int)=num/(G:Int)∧den.tdiv (G:Int)=den/(G:Int)∧0<den/(G:Int)∧den/(G:Int)≤den∧(num/(G:Int)).natAbs≤num.natAbs∧(G:Int)≤den:=by
 have hg0:0<G:=by rw [hG];exact Int.gcd_pos_of_ne_zero_right _ (by omega)
 have d1:(G:Int)∣num:=by rw [hG];exact Int.gcd_dvd_left ..
 have d2:(G:Int)∣den:=by rw [hG];exact Int.gcd_dvd_right ..
 refine ⟨by split <;> omega,by omega,tdiv_gcd d1,tdiv_gcd d2,?_,?_,?_,?_⟩
 ·exact Int.ediv_pos_of_pos_of_dvd hd (by omega) d2
 ·exact Int.ediv_le_self _ (by omega)
 ·rw [←tdiv_gcd d1,Int.natAbs_tdiv];exact Nat.div_le_self _ _
 ·exact Int.le_of_dvd hd d2
theorem rational_small (num den:Int) (hd:0<den) (hn:num.natAbs≤4000000000000000000) (hdl:den≤4000000000000000000) (w:World) (hw:Good w) :
  Calls Tryz.prog 32 #[.int .i64 num,.int .i64 den] w fun e w'=>∃ r:ByteArray,e=.returned (.string r)∧IsR r (Rat.divInt num den)∧Below w.heap.size w w':=by
 obtain ⟨G,hG⟩ : ∃ G,G=Int.gcd num den:=⟨_,rfl⟩
 have HT:=hid (lowest_text (n:=num) hd)
 go_enter Tryz.func32,Tryz.ntmps32
 go_wp2
 go_loopw [5,6] (fun xv yv wr=>∃ x y:Int,xv=.int .i64 x∧yv=.int .i64 y∧Nat.gcd x.natAbs y.natAbs=G∧x.natAbs≤4000000000000000000∧y.natAbs≤4000000000000000000∧Below w.heap.size w wr) (fun _ yv _=>(intOf yv).natAbs)
 case atStart=>exact ⟨num,den,rfl,rfl,by rw [hG];exact (Int.gcd_eq_natAbs_gcd_natAbs num den).symm,hn,by omega,Below.refl _ _⟩
 case round =>
  obtain ⟨x,y,rfl,rfl,hg,hxl,hyl,hbr⟩:=hrel
  have HG:=hid hg
  have HGG:=hid hG
  clear hg hG
  by_cases hy0:y=0
  ·subst hy0
   have hz:((0:Int) != 0)=false:=rfl
   have hxG:x.natAbs=G:=by have:=HG.out;simpa using this
   obtain ⟨v1,v2,v3,v4,v5,v6,v7,v8⟩:=small_vals hd HGG.out hxG
   have hG0:((G:Int) == 0)=false:=by simp;omega
   have HV3:=hid v3
   have HV4:=hid v4
   have hG9:(G:Int)≤4000000000000000000:=by omega
   clear v1 v3 v4
   rcases Int.lt_or_le x 0 with hx0 | hx0
   ·obtain rfl:x = -(G:Int):=by omega
    clear hxG
    go_wp2_with fail
    go_quiet (fail)
    have hb0:Below w.heap.size w (wr.drewN nq):=⟨hbr.os,hbr.tape,hbr.output,hbr.size,hbr.block⟩
    by_cases h1:den/(G:Int)=1
    ·have h1':(den/(G:Int) == 1)=true:=by simpa using h1
     have H1:=hid h1
     clear h1
     go_wp2_with fail
     rw [HV3.out]
     refine (sh_Itoa (num/(G:Int)) (by omega) _ (hw.below hb0)).mono ?_
     rintro e w1 ⟨r1,rfl,hr1,hl1,hb1⟩
     go_wp2
     go_ret
     refine ⟨_,rfl,?_,hb0.trans (hb1.mono hb0.size)⟩
     unfold IsR
     rw [HT.out,←HGG.out,H1.out,isI_str hr1]
     rfl
    ·have h1':(den/(G:Int) == 1)=false:=by simpa using h1
     have H1:=hid h1
     clear h1
     go_wp2_with fail
     rw [HV3.out]
     refine (sh_Itoa (num/(G:Int)) (by omega) _ (hw.below hb0)).mono ?_
     rintro e w1 ⟨r1,rfl,hr1,hl1,hb1⟩
     have hb01:=hb0.trans (hb1.mono hb0.size)
     have HR1:=hid hr1
     clear hr1
     go_wp2_with fail
     refine (sh_Itoa (den/(G:Int)) (by omega) _ (hw.below hb01)).mono ?_
     rintro e w2 ⟨r2,rfl,hr2,hl2,hb2⟩
     have HR2:=hid hr2
     clear hr2
     go_wp2
     go_ret
     refine ⟨_,rfl,?_,hb01.trans (hb2.mono hb01.size)⟩
     have h2:=H1.out
     have h3:=frac_text HR1.out HR2.out (by omega)
     unfold IsR
     rw [HT.out,←HGG.out,←h3]
     try simp
   ·obtain rfl:x=(G:Int):=by omega
    clear hxG
    go_wp2_with fail
    go_quiet (fail)
    have hb0:Below w.heap.size w (wr.drewN nq):=⟨hbr.os,hbr.tape,hbr.output,hbr.size,hbr.block⟩
    by_cases h1:den/(G:Int)=1
    ·have h1':(den/(G:Int) == 1)=true:=by simpa using h1
     have H1:=hid h1
     clear h1
     go_wp2_with fail
     rw [HV3.out]
     refine (sh_Itoa (num/(G:Int)) (by omega) _ (hw.below hb0)).mono ?_
     rintro e w1 ⟨r1,rfl,hr1,hl1,hb1⟩
     go_wp2
     go_ret
     refine ⟨_,rfl,?_,hb0.trans (hb1.mono hb0.size)⟩
     unfold IsR
     rw [HT.out,←HGG.out,H1.out,isI_str hr1]
     rfl
    ·have h1':(den/(G:Int) == 1)=false:=by simpa using h1
     have H1:=hid h1
     clear h1
     go_wp2_with fail
     rw [HV3.out]
     refine (sh_Itoa (num/(G:Int)) (by omega) _ (hw.below hb0)).mono ?_
     rintro e w1 ⟨r1,rfl,hr1,hl1,hb1⟩
     have hb01:=hb0.trans (hb1.mono hb0.size)
     have HR1:=hid hr1
     clear hr1
     go_wp2_with fail
     refine (sh_Itoa (den/(G:Int)) (by omega) _ (hw.below hb01)).mono ?_
     rintro e w2 ⟨r2,rfl,hr2,hl2,hb2⟩
     have HR2:=hid hr2
     clear hr2
     go_wp2
     go_ret
     refine ⟨_,rfl,?_,hb01.trans (hb2.mono hb01.size)⟩
     have h2:=H1.out
     have h3:=frac_text HR1.out HR2.out (by omega)
     unfold IsR
     rw [HT.out,←HGG.out,←h3]
     try simp
  ·have hz:(y != 0)=true:=by simpa using hy0
   have hz2:(y == 0)=false:=by simpa using hy0
   have hs:=gcd_step x y
   have ht:=tmod_lt (a:=x) hy0
   have HS:=hid hs
   have HTM:=hid ht
   clear hs ht
   go_wp2_with fail
   go_quiet (fail)
   go_wp2
   exact ⟨⟨y,x.tmod y,rfl,rfl,by rw [HS.out];exact HG.out,hyl,by have:=HTM.out;omega,⟨hbr.os,hbr.tape,hbr.output,hbr.size,hbr.block⟩⟩,by simpa [intOf] using HTM.out⟩
end Go.Proofs.YtogdahbbogimcaaGreatDoor
