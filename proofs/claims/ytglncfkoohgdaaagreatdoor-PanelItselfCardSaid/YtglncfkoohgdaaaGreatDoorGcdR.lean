import Derived.Test.YtglncfkoohgdaaaGreatDoorArithR
import Derived.Test.YtglncfkoohgdaaaGreatDoorMathR
import Derived.Deep.LoopGhost
import Derived.Deep.RegionHeld3
import Derived.Lib.IndexBytes
import Derived.Lib.IndexMore
set_option maxRecDepth 100000
set_option maxHeartbeats 2000000
namespace Go.Proofs.YtglncfkoohgdaaaGreatDoor
open Go.RowKit
open Go.Lib (hid)
theorem BZ (va vb:Value) (m n:Nat) (w:World) (hn0:n≠0) (h1:n<1000000000) (hlen:(aI m).length≤549755813888) (ha:dI w va (aI m)) (hb:dI w vb (aI n)) :
  Calls Tryz.prog 181 #[va,vb] w (AP m n w):=by
 rcases Nat.lt_or_ge m n with h | h
 ·exact mQ va vb m n w h ha hb
 ·exact uZ va vb m n w hn0 h1 (by omega) ha hb
theorem GK (neg:Bool) (p:Option Addr) (n c:Nat) (w:World):(Instr.field 228 (.agg #[.bool neg,.slice p n c]) 1).run Tryz.prog w=.ok (.slice p n c) w:=by kernel_rfl
theorem Zj (x:Int):max x (-x)=(x.natAbs:Int):=by omega
theorem zM (a b:ByteArray) (m n:Int) (ha:eP a m) (hb:eP b n) (q1:a.size≤18) (q2:b.size≤18) (w:World) (hw:Good w) :
  Calls Tryz.prog 111 #[.string a,.string b] w fun e w'=>∃ r:ByteArray,e=.returned (.string r)∧eP r ((Int.gcd m n:Nat):Int)∧Below w.heap.size w w':=by
 have afM:=GK
 have HA:=hid ha
 have HB:=hid hb
 clear ha hb
 have hx:=bS (k:=18) (n:=m) (by rw [←HA.out.size];exact q1)
 have hy:=bS (k:=18) (n:=n) (by rw [←HB.out.size];exact q2)
 have hx':m.natAbs<1000000000000000000:=by simpa using hx
 have hy':n.natAbs<1000000000000000000:=by simpa using hy
 clear hx hy
 go_enter Tryz.func111,Tryz.ntmps111
 go_wp2_with fail
 refine (kH a m 18 HA.out (by omega) (by omega) _).mono ?_
 rintro e w1 ⟨rfl,hb1⟩
 go_wp2_with fail
 refine (kH b n 18 HB.out (by omega) (by omega) _).mono ?_
 rintro e w2 ⟨rfl,hb2⟩
 have Ej:=hb1.trans (hb2.mono hb1.size)
 go_wp2
 go_loopw [5,7] (fun xv yv wr=>∃ x y:Int,xv=.int .i64 x∧yv=.int .i64 y∧Nat.gcd x.natAbs y.natAbs=Int.gcd m n∧x.natAbs<1000000000000000000∧y.natAbs<1000000000000000000∧Below w.heap.size w wr) (fun _ yv _=>(intOf yv).natAbs)
 case atStart=>exact ⟨m,n,rfl,rfl,(Int.gcd_eq_natAbs_gcd_natAbs m n).symm,hx',hy',Ej⟩
 case round =>
  obtain ⟨x,y,rfl,rfl,hg,hxl,hyl,hbr⟩:=hrel
  have HG:=hid hg
  clear hg
  by_cases hy0:y=0
  ·subst hy0
   have hz:((0:Int) != 0)=false:=rfl
   have hx1:-999999999999999999≤x:=by omega
   have hx2:x≤999999999999999999:=by omega
   go_wp2_with fail
   rw [Zj]
   refine (uV (x.natAbs:Int) (by omega) (by omega) _ ((hw.below hbr))).mono ?_
   rintro e w3 ⟨r,rfl,hr,hb3⟩
   go_wp2
   go_ret
   refine ⟨_,rfl,?_,hbr.trans (hb3.mono hbr.size)⟩
   rw [←HG.out]
   simpa using hr
  ·have hz:(y != 0)=true:=by simpa using hy0
   have hz2:(y == 0)=false:=by simpa using hy0
   have hs:=Js x y
   have ht:=NV (a:=x) hy0
   have HS:=hid hs
   have HT:=hid ht
   clear hs ht
   go_wp2_with fail
   go_quiet (fail)
   go_wp2
   exact ⟨⟨y,x.tmod y,rfl,rfl,by rw [HS.out];exact HG.out,hyl,by have:=HT.out;omega,⟨hbr.os,hbr.tape,hbr.output,hbr.size,hbr.block⟩⟩,by simpa [intOf] using HT.out⟩
def Mv (m n:Int) (w:World) (e:Ending) (w':World):Prop:=∃ q r:ByteArray,e=.returned (.tuple #[.string q,.string r,.int .i64 0])∧eP q (m/n)∧eP r (m % n)∧Below w.heap.size w w'
theorem qW (a b:ByteArray) (m n:Int) (ha:eP a m) (hb:eP b n) (hm0:0≤m) (hnp:0<n) (hnl:n<1000000000) (hsa:a.size≤9000000000) (hsb:b.size≤9000000000) (w:World) (hw:Good w) :
  Calls Tryz.prog 192 #[.string a,.string b] w (Mv m n w):=by
 have hn0:n≠0:=by omega
 have HA:=hid ha
 have HB:=hid hb
 have hlm:=Nat.le_trans (xg ha) hsa
 have hln:=Nat.le_trans (xg hb) hsb
 have hz:(b.toList == [48])=false:=by rw [hb.zero];simpa using hn0
 clear ha hb
 have hd0:n.natAbs≠0:=by omega
 go_enter Tryz.func192,Tryz.ntmps192
 go_wp2_with fail
 refine (wW a m HA.out hsa _).mono ?_
 rintro e w2 ⟨p,rfl,hp2,hb2⟩
 obtain ⟨p,cp,rfl,_,_⟩:=hp2.slice
 go_wp2_with fail
 refine (wW b n HB.out hsb _).mono ?_
 rintro e w3 ⟨q,rfl,hq3,hb3⟩
 have hp3:=hp2.below hb3
 obtain ⟨q,cq,rfl,_,_⟩:=hq3.slice
 have Mw:=hb2.trans (hb3.mono hb2.size)
 go_wp2_with fail
 obtain ⟨wA,aS⟩ : ∃ wA,wA=((w3.alloc (Obj.cells #[Value.bool (decide (m<0)),Value.slice p (aI m.natAbs).length cp] 228)).alloc (Obj.cells #[Value.bool (decide (n<0)),Value.slice q (aI n.natAbs).length cq] 228)):=⟨_,rfl⟩
 rw [←aS]
 have HT0:Two w3 (Value.bool (decide (m<0))) (Value.slice p (aI m.natAbs).length cp) (Value.bool (decide (n<0))) (Value.slice q (aI n.natAbs).length cq) wA:=Ml aS
 clear aS
 refine (BZ _ _ m.natAbs n.natAbs _ hd0 (by omega) (by omega) (hp3.below HT0.low) (hq3.below HT0.low)).mono ?_
 rintro e w4 ⟨d4,m4,rfl,hd4,hm4,hb4,-⟩
 have HT:=hid (SY hb4 HT0)
 have hq4:=hq3.below HT.out.low
 obtain ⟨pd4,cd4,rfl,_,_⟩:=hd4.slice
 obtain ⟨pm4,cm4,rfl,_,_⟩:=hm4.slice
 have YN:=Nat.mod_lt m.natAbs (Nat.pos_of_ne_zero hd0)
 have hdl:=kU (Nat.div_le_self m.natAbs n.natAbs)
 have ahd:=kU (Nat.le_of_lt YN)
 have hQE:=abS m n hn0
 have hRE:=Sn m n hn0
 have HQE:=hid hQE
 have HRE:=hid hRE
 have HD4:=hid hd4
 have HM4:=hid hm4
 have HQ4:=hid hq4
 have Tc:Below w.heap.size w w4:=Mw.trans ((HT.out.low).mono Mw.size)
 obtain ⟨c0,c1,c2,c3,hs4,hl4⟩:=HT.out
 clear hQE hRE hd4 hm4 hq4 HT0 YN
 have hm:¬ m<0:=by omega
 have hdm:decide (m<0)=false:=by simpa using hm
 have HQM:=hid (show iP m n=m.natAbs/n.natAbs from by unfold iP;rw [if_neg (by omega)])
 have HRM:=hid (show iQ m n=m.natAbs % n.natAbs from by unfold iQ;rw [if_neg (by omega)])
 have qA:=Tc
 have HDW:=HD4
 have HMW:=HM4
 go_wp2_with fail
 refine (uy _ _ (iP m n) (by rw [HQM.out];omega) _ (hw.below qA) (by rw [HQM.out];exact HDW.out)).mono ?_
 rintro e w8 ⟨r1,rfl,hr1,hb8⟩
 have HR1:=hid hr1
 clear hr1
 go_wp2_with fail
 refine (uy false _ (iQ m n) (by rw [HRM.out];omega) _ (hw.below (qA.trans (hb8.mono qA.size))) (by rw [HRM.out];exact HMW.out.below hb8)).mono ?_
 rintro e w9 ⟨r2,rfl,hr2,Td⟩
 have HR2:=hid hr2
 clear hr2
 go_wp2
 go_ret3
 refine ⟨_,_,rfl,?_,?_,(qA.trans (hb8.mono qA.size)).trans (Td.mono (Nat.le_trans qA.size hb8.size))⟩
 ·rw [←HQE.out]
  have h1:=HR1.out
  unfold BS at h1
  simpa [hdm] using h1
 ·rw [←HRE.out];exact HR2.out
open Go.Lib (decDigits itoa nDigits)
def bM (q:Rat):Prop:=q.num.natAbs<1000000000∧q.den<1000000000
def dV (q:Rat) (w:World) (e:Ending) (w':World):Prop:=
 (bM q→e=.returned (.tuple #[.int .i64 q.num,.int .i64 (q.den:Int),.bool true]))∧(¬ bM q→e=.returned (.tuple #[.int .i64 0,.int .i64 0,.bool false]))∧w=w'
theorem dV.no {q:Rat} {w:World} (h:¬ bM q):dV q w (.returned (.tuple #[.int .i64 0,.int .i64 0,.bool false])) w:=⟨fun h'=>absurd h' h,fun _=>rfl,rfl⟩
theorem dV.yes {q:Rat} {w:World} {n d:Int} (hn:n=q.num) (hd:d=(q.den:Int)) (h:bM q):dV q w (.returned (.tuple #[.int .i64 n,.int .i64 d,.bool true])) w:=by
 subst hn hd;exact ⟨fun _=>rfl,fun h'=>absurd h h',rfl⟩
theorem gJ {q:Rat}:q<0↔q.num<0:=by
 rw [←qK,←Eb]
 unfold aX dR
 split
 ·rfl
 ·constructor
  ·rintro ⟨r,hr⟩
   cases hi:itoa q.num with
   | nil=>exact absurd hi (mJ _)
   | cons c t=>rw [hi] at hr;exact ⟨t,by rw [(List.cons.inj hr).1]⟩
  ·rintro ⟨r,hr⟩
   exact ⟨r++47 :: decDigits q.den,by rw [hr];rfl⟩
theorem sU {s:ByteArray} {A D T:List UInt8} (h:s.data.toList=A++(D++T)) (hd:∀ c∈D,bO c=true) (k j:Nat) (hk:k<D.length) (hj:A.length+k=j) (hs:j<s.size) :
  48≤(s[j].toNat:Int)∧(s[j].toNat:Int)≤57∧((aT (D.take (k+1)):Nat):Int)=10*((aT (D.take k):Nat):Int)+((s[j].toNat:Int)-48):=by
 subst hj
 have e:=Ma h hk hs
 have hc:=hd _ (List.getElem_mem hk)
 have h1:=PY hc
 have h2:=abT hc
 rw [e]
 refine ⟨h1.1,h1.2,?_⟩
 rw [PX hk]
 omega
theorem fE (s:ByteArray) (q:Rat) (h:gN s q) (hss:s.size≤9000000000) (w:World):Calls Tryz.prog 124 #[.string s] w (dV q w):=by
 have hp0:=h.pos
 obtain ⟨A,hA⟩ : ∃ A,A=sM q.num:=⟨_,rfl⟩
 obtain ⟨D,hD⟩ : ∃ D,D=decDigits q.num.natAbs:=⟨_,rfl⟩
 obtain ⟨E,hE⟩ : ∃ E,E=decDigits q.den:=⟨_,rfl⟩
 obtain ⟨T,hT⟩ : ∃ T,T=o8 q.den:=⟨_,rfl⟩
 have hs:s.data.toList=A++(D++T):=by
  have h1:s.data.toList=aX q:=h
  rw [h1,Jr,hA,hD,hT]
 have HS:=hid hs
 have HDG:=hid (show ∀ c∈D,bO c=true from fun c hc=>bn _ c (by rw [hD] at hc;exact hc))
 have HEG:=hid (show ∀ c∈E,bO c=true from fun c hc=>bn _ c (by rw [hE] at hc;exact hc))
 have HNV:=hid (show q.num.natAbs=aT D by rw [hD,bH])
 have HEV:=hid (show q.den=aT E by rw [hE,bH])
 have hszA:s.size≤A.length+D.length+T.length:=Nat.le_of_eq (oh hs)
 have ahe:A.length+D.length+T.length≤s.size:=Nat.le_of_eq (oh hs).symm
 have hDl:0<D.length:=by rw [hD];exact List.length_pos_iff.2 (dz _)
 have HD:=hid hD
 have HE:=hid hE
 have HT:=hid hT
 have ahf:decide (0<s.size)=true:=by simpa using hp0
 clear hs hD hE hT
 have hq0:q<0↔q.num<0:=gJ
 by_cases hneg:q.num<0
 ·have hneg':q<0:=hq0.2 hneg
  have HNS:=hid (show q.num = -(q.num.natAbs:Int) by omega)
  clear hq0
  have hb0:A.length=1:=by rw [hA];unfold sM;rw [if_pos hneg];rfl
  have hfb:((s[0].toNat:Int) == 45)=true:=by rw [h.first hp0];simpa using hneg'
  clear hA
  go_enter Tryz.func124,Tryz.ntmps124
  go_wp2
  go_loop [2,3,4,5] (fun nv dv bv iv=>dv=.int .i64 0∧bv=.bool false∧∃ j:Nat,1≤j∧(j-1)≤D.length∧(j-1)≤9∧nv=.int .i64 ((aT (D.take (j-1)):Nat):Int)∧iv=.int .i64 (j:Int)) (fun _ _ _ iv=>s.size-(intOf iv).toNat)
  case atStart=>exact ⟨rfl,rfl,1,Nat.le_refl _,by simp,by simp,by simp [aT],rfl⟩
  case round =>
   obtain ⟨rfl,rfl,j,hj1,hjD,hj9,rfl,rfl⟩:=hrel
   have hnl:=jO HDG.out (j-1) hj9
   by_cases hlt:(j-1)<D.length
   ·have hjs:j<s.size:=by omega
    obtain ⟨hc1,hc2,hc3⟩:=sU HS.out HDG.out (j-1) j hlt (by omega) hjs
    have hn47:((s[j].toNat:Int) != 47)=true:=by simp;omega
    have Te:((s[j].toNat:Int) == 47)=false:=by simp;omega
    have YO:=hid hc3
    clear hc3
    by_cases h9:(j-1)=9
    ·have h9':(((j:Int)-1) == 9)=true:=by simp;omega
     have Qc:=hid (show ¬ bM q from fun hsh=>by have:=ja.1 hsh.1;rw [HD.out] at hlt;omega)
     clear h9
     go_wp2
     go_ret3
     exact dV.no Qc.out
    ·have h9':(((j:Int)-1) == 9)=false:=by simp;omega
     go_wp2
     go_round
     case rel =>
      refine ⟨rfl,rfl,j+1,by omega,by omega,by omega,?_,by go_num⟩
      rw [show (j+1-1)=(j-1)+1 from by omega,YO.out]
     case measure=>simp [intOf];omega
   ·have hje:(j-1)=D.length:=by omega
    have hts:D.take (j-1)=D:=by rw [hje];exact List.take_length
    rw [hts]
    rw [hts] at hnl
    have hdv:=HNV.out
    by_cases hden:q.den=1
    ·have hsz2:s.size=j:=by rw [oh HS.out,HT.out];unfold o8;rw [if_pos hden];simp;omega
     have hlt2:decide (j<s.size)=false:=by simp;omega
     have heq2:((j:Int) == (s.size:Int))=true:=by simp;omega
     have abZ:(j == s.size)=true:=by simp;omega
     have Mx:=hid hden
     have hnn:q.num.natAbs<1000000000:=by omega
     have HNN:=hid hdv
     clear hts hje hden hsz2 hdv
     go_wp2
     go_ret3
     refine dV.yes ?_ ?_ ⟨hnn,by rw [Mx.out];decide⟩
     ·have h1:=HNS.out;rw [HNN.out] at h1;rw [h1]
     ·rw [Mx.out];rfl
    ·have hTe:T=47 :: E:=by rw [HT.out];unfold o8;rw [if_neg hden,HE.out]
     have hsz2:s.size=j+1+E.length:=by rw [oh HS.out,hTe];simp;omega
     have hjs:j<s.size:=by omega
     have hsl:s[j]=47:=by
      have h1:=Ma (A:=A++D) (D:=T) (T:=[]) (s:=s) (by rw [HS.out];simp) (k:=0) (by rw [hTe];simp) (by simp;omega)
      have hidx:(A++D).length+0=j:=by simp;omega
      simp only [hidx] at h1
      rw [h1]
      simp [hTe]
     have hn47:((s[j].toNat:Int) != 47)=false:=by rw [hsl];rfl
     have Te:((s[j].toNat:Int) == 47)=true:=by rw [hsl];rfl
     have heq2:((j:Int) == (s.size:Int))=false:=by simp;omega
     have abZ:(j == s.size)=false:=by simp;omega
     have HS2:Hid (s.data.toList=(A++D ++ [47])++(E ++ [])):=hid (by rw [HS.out,hTe];simp)
     have hl2:(A++D ++ [47]).length=j+1:=by simp;omega
     have Mx:=hid hden
     have hnn:q.num.natAbs<1000000000:=by omega
     have HNN:=hid hdv
     clear hts hje hden hTe hsl hdv
     go_wp2
     go_loop [2,3,4,5] (fun nv dv bv iv=>nv=.int .i64 (-((aT D:Nat):Int))∧bv=.bool false∧∃ i:Nat,j+1≤i∧i-(j+1)≤E.length∧i-(j+1)≤9∧dv=.int .i64 ((aT (E.take (i-(j+1))):Nat):Int)∧iv=.int .i64 (i:Int)) (fun _ _ _ iv=>s.size-(intOf iv).toNat)
     case atStart=>exact ⟨rfl,rfl,j+1,Nat.le_refl _,by simp,by simp,by simp [aT],by go_num⟩
     case round =>
      obtain ⟨rfl,rfl,i,hi1,hiE,hi9,rfl,rfl⟩:=hrel
      have hel:=jO HEG.out (i-(j+1)) hi9
      by_cases hlt2:i-(j+1)<E.length
      ·have his:i<s.size:=by omega
       obtain ⟨hc1,hc2,hc3⟩:=sU HS2.out HEG.out (i-(j+1)) i hlt2 (by omega) his
       have YO:=hid hc3
       clear hc3
       by_cases h9:i-(j+1)=9
       ·have h9':(((i:Int)-((j:Int)+1)) == 9)=true:=by simp;omega
        have Qc:=hid (show ¬ bM q from fun hsh=>by have:=ja.1 hsh.2;rw [HE.out] at hlt2;omega)
        clear h9
        go_wp2
        go_ret3
        exact dV.no Qc.out
       ·have h9':(((i:Int)-((j:Int)+1)) == 9)=false:=by simp;omega
        go_wp2
        go_round
        case rel =>
         refine ⟨rfl,rfl,i+1,by omega,by omega,by omega,?_,by go_num⟩
         rw [show (i+1-(j+1))=i-(j+1)+1 from by omega,YO.out]
        case measure=>simp [intOf];omega
      ·have hie:i-(j+1)=E.length:=by omega
       have hts:E.take (i-(j+1))=E:=by rw [hie];exact List.take_length
       rw [hts]
       rw [hts] at hel
       have hlt3:decide (i<s.size)=false:=by simp;omega
       have hev:=HEV.out
       have hdn:q.den<1000000000:=by omega
       have ab0:=hid hev
       clear hts hie hev
       go_wp2
       go_ret3
       refine dV.yes ?_ ?_ ⟨hnn,hdn⟩
       ·have h1:=HNS.out;rw [HNN.out] at h1;rw [h1]
       ·rw [ab0.out]
 ·have hneg':¬ q<0:=fun hh=>hneg (hq0.1 hh)
  have HNS:=hid (show q.num=(q.num.natAbs:Int) by omega)
  clear hq0
  have hb0:A.length=0:=by rw [hA];unfold sM;rw [if_neg hneg];rfl
  have hfb:((s[0].toNat:Int) == 45)=false:=by rw [h.first hp0];simpa using hneg'
  clear hA
  go_enter Tryz.func124,Tryz.ntmps124
  go_wp2
  go_loop [2,3,4,5] (fun nv dv bv iv=>dv=.int .i64 0∧bv=.bool false∧∃ j:Nat,j≤D.length∧j≤9∧nv=.int .i64 ((aT (D.take j):Nat):Int)∧iv=.int .i64 (j:Int)) (fun _ _ _ iv=>s.size-(intOf iv).toNat)
  case atStart=>exact ⟨rfl,rfl,0,by simp,by simp,by simp [aT],rfl⟩
  case round =>
   obtain ⟨rfl,rfl,j,hjD,hj9,rfl,rfl⟩:=hrel
   have hnl:=jO HDG.out j hj9
   by_cases hlt:j<D.length
   ·have hjs:j<s.size:=by omega
    obtain ⟨hc1,hc2,hc3⟩:=sU HS.out HDG.out j j hlt (by omega) hjs
    have hn47:((s[j].toNat:Int) != 47)=true:=by simp;omega
    have Te:((s[j].toNat:Int) == 47)=false:=by simp;omega
    have YO:=hid hc3
    clear hc3
    by_cases h9:j=9
    ·have h9':((j:Int) == 9)=true:=by simp;omega
     have Qc:=hid (show ¬ bM q from fun hsh=>by have:=ja.1 hsh.1;rw [HD.out] at hlt;omega)
     clear h9
     go_wp2
     go_ret3
     exact dV.no Qc.out
    ·have h9':((j:Int) == 9)=false:=by simp;omega
     go_wp2
     go_round
     case rel =>
      refine ⟨rfl,rfl,j+1,by omega,by omega,?_,by go_num⟩
      rw [show (j+1)=j+1 from by omega,YO.out]
     case measure=>simp [intOf];omega
   ·have hje:j=D.length:=by omega
    have hts:D.take j=D:=by rw [hje];exact List.take_length
    rw [hts]
    rw [hts] at hnl
    have hdv:=HNV.out
    by_cases hden:q.den=1
    ·have hsz2:s.size=j:=by rw [oh HS.out,HT.out];unfold o8;rw [if_pos hden];simp;omega
     have hlt2:decide (j<s.size)=false:=by simp;omega
     have heq2:((j:Int) == (s.size:Int))=true:=by simp;omega
     have abZ:(j == s.size)=true:=by simp;omega
     have Mx:=hid hden
     have hnn:q.num.natAbs<1000000000:=by omega
     have HNN:=hid hdv
     clear hts hje hden hsz2 hdv
     go_wp2
     go_ret3
     refine dV.yes ?_ ?_ ⟨hnn,by rw [Mx.out];decide⟩
     ·have h1:=HNS.out;rw [HNN.out] at h1;rw [h1]
     ·rw [Mx.out];rfl
    ·have hTe:T=47 :: E:=by rw [HT.out];unfold o8;rw [if_neg hden,HE.out]
     have hsz2:s.size=j+1+E.length:=by rw [oh HS.out,hTe];simp;omega
     have hjs:j<s.size:=by omega
     have hsl:s[j]=47:=by
      have h1:=Ma (A:=A++D) (D:=T) (T:=[]) (s:=s) (by rw [HS.out];simp) (k:=0) (by rw [hTe];simp) (by simp;omega)
      have hidx:(A++D).length+0=j:=by simp;omega
      simp only [hidx] at h1
      rw [h1]
      simp [hTe]
     have hn47:((s[j].toNat:Int) != 47)=false:=by rw [hsl];rfl
     have Te:((s[j].toNat:Int) == 47)=true:=by rw [hsl];rfl
     have heq2:((j:Int) == (s.size:Int))=false:=by simp;omega
     have abZ:(j == s.size)=false:=by simp;omega
     have HS2:Hid (s.data.toList=(A++D ++ [47])++(E ++ [])):=hid (by rw [HS.out,hTe];simp)
     have hl2:(A++D ++ [47]).length=j+1:=by simp;omega
     have Mx:=hid hden
     have hnn:q.num.natAbs<1000000000:=by omega
     have HNN:=hid hdv
     clear hts hje hden hTe hsl hdv
     go_wp2
     go_loop [2,3,4,5] (fun nv dv bv iv=>nv=.int .i64 (((aT D:Nat):Int))∧bv=.bool false∧∃ i:Nat,j+1≤i∧i-(j+1)≤E.length∧i-(j+1)≤9∧dv=.int .i64 ((aT (E.take (i-(j+1))):Nat):Int)∧iv=.int .i64 (i:Int)) (fun _ _ _ iv=>s.size-(intOf iv).toNat)
     case atStart=>exact ⟨rfl,rfl,j+1,Nat.le_refl _,by simp,by simp,by simp [aT],by go_num⟩
     case round =>
      obtain ⟨rfl,rfl,i,hi1,hiE,hi9,rfl,rfl⟩:=hrel
      have hel:=jO HEG.out (i-(j+1)) hi9
      by_cases hlt2:i-(j+1)<E.length
      ·have his:i<s.size:=by omega
       obtain ⟨hc1,hc2,hc3⟩:=sU HS2.out HEG.out (i-(j+1)) i hlt2 (by omega) his
       have YO:=hid hc3
       clear hc3
       by_cases h9:i-(j+1)=9
       ·have h9':(((i:Int)-((j:Int)+1)) == 9)=true:=by simp;omega
        have Qc:=hid (show ¬ bM q from fun hsh=>by have:=ja.1 hsh.2;rw [HE.out] at hlt2;omega)
        clear h9
        go_wp2
        go_ret3
        exact dV.no Qc.out
       ·have h9':(((i:Int)-((j:Int)+1)) == 9)=false:=by simp;omega
        go_wp2
        go_round
        case rel =>
         refine ⟨rfl,rfl,i+1,by omega,by omega,by omega,?_,by go_num⟩
         rw [show (i+1-(j+1))=i-(j+1)+1 from by omega,YO.out]
        case measure=>simp [intOf];omega
      ·have hie:i-(j+1)=E.length:=by omega
       have hts:E.take (i-(j+1))=E:=by rw [hie];exact List.take_length
       rw [hts]
       rw [hts] at hel
       have hlt3:decide (i<s.size)=false:=by simp;omega
       have hev:=HEV.out
       have hdn:q.den<1000000000:=by omega
       have ab0:=hid hev
       clear hts hie hev
       go_wp2
       go_ret3
       refine dV.yes ?_ ?_ ⟨hnn,hdn⟩
       ·have h1:=HNS.out;rw [HNN.out] at h1;rw [h1]
       ·rw [ab0.out]
theorem dN {s:ByteArray} {q:Rat} (h:gN s q) (hs:bM q):s.size≤21:=by
 have h1:=ja.1 hs.1
 have h2:=ja.1 hs.2
 rw [aO] at h1 h2
 rw [h.size,vW,dS]
 split <;> split <;> omega
theorem bM.neg {q:Rat} (h:bM q):bM (-q):=by
 unfold bM at *
 rw [Rat.neg_num,Rat.neg_den,Int.natAbs_neg]
 exact h
theorem AQ {n:Int} {r:ByteArray} (h:eP r n):r.data.toList=itoa n:=h
theorem oq {n d:Int} {s t:ByteArray} (hs:eP s n) (ht:eP t d) (hd:1<d):(s ++ ⟨#[47]⟩++t).data.toList=dR n d.toNat:=by
 have e:(s++(⟨#[47]⟩ : ByteArray)++t).data.toList=s.data.toList++47 :: t.data.toList:=by simp
 unfold dR
 rw [e,AQ hs,AQ ht,if_neg (by omega),itoa_nonneg (n:=d) (by omega)]
theorem pG (n:Int) (h0:n.natAbs≤4000000000000000000) (w:World) (hw:Good w):Calls Tryz.prog 130 #[.int .i64 n] w fun e w'=>∃ r:ByteArray,e=.returned (.string r)∧eP r n∧r.size≤20∧Below w.heap.size w w':=
 (Tryz.strconv_Itoa n (by omega) (by omega) _ hw.pow).mono fun e w' h=>by
  obtain ⟨rfl,k,os,rfl⟩:=h
  refine ⟨_,rfl,wT n,?_,below_grown _ _ _⟩
  rw [(wT n).size]
  exact itoa_length_le n (k:=19) (by omega) (by omega)
theorem ve {num den x:Int} {G:Nat} (hd:0<den) (hG:G=Int.gcd num den) (hx:x.natAbs=G):(if x<0 then -x else x)=(G:Int)∧0<(G:Int)∧num.tdiv (G:Int)=num/(G:Int)∧den.tdiv (G:Int)=den/(G:Int)∧0<den/(G:Int)∧den/(G:Int)≤den∧(num/(G:Int)).natAbs≤num.natAbs∧(G:Int)≤den:=by
 have hg0:0<G:=by rw [hG];exact Int.gcd_pos_of_ne_zero_right _ (by omega)
 have d1:(G:Int)∣num:=by rw [hG];exact Int.gcd_dvd_left ..
 have d2:(G:Int)∣den:=by rw [hG];exact Int.gcd_dvd_right ..
 refine ⟨by split <;> omega,by omega,wy d1,wy d2,?_,?_,?_,?_⟩
 ·exact Int.ediv_pos_of_pos_of_dvd hd (by omega) d2
 ·exact Int.ediv_le_self _ (by omega)
 ·rw [←wy d1,Int.natAbs_tdiv];exact Nat.div_le_self _ _
 ·exact Int.le_of_dvd hd d2
theorem qX (num den:Int) (hd:0<den) (hn:num.natAbs≤4000000000000000000) (hdl:den≤4000000000000000000) (w:World) (hw:Good w) :
  Calls Tryz.prog 125 #[.int .i64 num,.int .i64 den] w fun e w'=>∃ r:ByteArray,e=.returned (.string r)∧gN r (Rat.divInt num den)∧Below w.heap.size w w':=by
 obtain ⟨G,hG⟩ : ∃ G,G=Int.gcd num den:=⟨_,rfl⟩
 have HT:=hid (mO (n:=num) hd)
 go_enter Tryz.func125,Tryz.ntmps125
 go_wp2
 go_loopw [5,6] (fun xv yv wr=>∃ x y:Int,xv=.int .i64 x∧yv=.int .i64 y∧Nat.gcd x.natAbs y.natAbs=G∧x.natAbs≤4000000000000000000∧y.natAbs≤4000000000000000000∧Below w.heap.size w wr) (fun _ yv _=>(intOf yv).natAbs)
 case atStart=>exact ⟨num,den,rfl,rfl,by rw [hG];exact (Int.gcd_eq_natAbs_gcd_natAbs num den).symm,hn,by omega,Below.refl _ _⟩
 case round =>
  obtain ⟨x,y,rfl,rfl,hg,hxl,hyl,hbr⟩:=hrel
  have HG:=hid hg
  have RL:=hid hG
  clear hg hG
  by_cases hy0:y=0
  ·subst hy0
   have hz:((0:Int) != 0)=false:=rfl
   have hxG:x.natAbs=G:=by have:=HG.out;simpa using this
   obtain ⟨v1,v2,v3,v4,v5,v6,v7,v8⟩:=ve hd RL.out hxG
   have hG0:((G:Int) == 0)=false:=by simp;omega
   have Lt:=hid v3
   have HV4:=hid v4
   have hG9:(G:Int)≤4000000000000000000:=by omega
   clear v1 v3 v4
   rcases Int.lt_or_le x 0 with hx0 | hx0
   ·obtain rfl:x = -(G:Int):=by omega
    clear hxG
    go_wp2_with fail
    go_quiet (fail)
    have hb0:Below w.heap.size w (wr.drewN nq):=⟨hbr.os,hbr.tape,hbr.output,hbr.size,hbr.block⟩
    by_cases h1:den/(G:Int)=1
    ·have h1':(den/(G:Int) == 1)=true:=by simpa using h1
     have H1:=hid h1
     clear h1
     go_wp2_with fail
     rw [Lt.out]
     refine (pG (num/(G:Int)) (by omega) _ (hw.below hb0)).mono ?_
     rintro e w1 ⟨r1,rfl,hr1,hl1,hb1⟩
     go_wp2
     go_ret
     refine ⟨_,rfl,?_,hb0.trans (hb1.mono hb0.size)⟩
     unfold gN
     rw [HT.out,←RL.out,H1.out,AQ hr1]
     rfl
    ·have h1':(den/(G:Int) == 1)=false:=by simpa using h1
     have H1:=hid h1
     clear h1
     go_wp2_with fail
     rw [Lt.out]
     refine (pG (num/(G:Int)) (by omega) _ (hw.below hb0)).mono ?_
     rintro e w1 ⟨r1,rfl,hr1,hl1,hb1⟩
     have jH:=hb0.trans (hb1.mono hb0.size)
     have HR1:=hid hr1
     clear hr1
     go_wp2_with fail
     refine (pG (den/(G:Int)) (by omega) _ (hw.below jH)).mono ?_
     rintro e w2 ⟨r2,rfl,hr2,hl2,hb2⟩
     have HR2:=hid hr2
     clear hr2
     go_wp2
     go_ret
     refine ⟨_,rfl,?_,jH.trans (hb2.mono jH.size)⟩
     have h2:=H1.out
     have h3:=oq HR1.out HR2.out (by omega)
     unfold gN
     rw [HT.out,←RL.out,←h3]
     try simp
   ·obtain rfl:x=(G:Int):=by omega
    clear hxG
    go_wp2_with fail
    go_quiet (fail)
    have hb0:Below w.heap.size w (wr.drewN nq):=⟨hbr.os,hbr.tape,hbr.output,hbr.size,hbr.block⟩
    by_cases h1:den/(G:Int)=1
    ·have h1':(den/(G:Int) == 1)=true:=by simpa using h1
     have H1:=hid h1
     clear h1
     go_wp2_with fail
     rw [Lt.out]
     refine (pG (num/(G:Int)) (by omega) _ (hw.below hb0)).mono ?_
     rintro e w1 ⟨r1,rfl,hr1,hl1,hb1⟩
     go_wp2
     go_ret
     refine ⟨_,rfl,?_,hb0.trans (hb1.mono hb0.size)⟩
     unfold gN
     rw [HT.out,←RL.out,H1.out,AQ hr1]
     rfl
    ·have h1':(den/(G:Int) == 1)=false:=by simpa using h1
     have H1:=hid h1
     clear h1
     go_wp2_with fail
     rw [Lt.out]
     refine (pG (num/(G:Int)) (by omega) _ (hw.below hb0)).mono ?_
     rintro e w1 ⟨r1,rfl,hr1,hl1,hb1⟩
     have jH:=hb0.trans (hb1.mono hb0.size)
     have HR1:=hid hr1
     clear hr1
     go_wp2_with fail
     refine (pG (den/(G:Int)) (by omega) _ (hw.below jH)).mono ?_
     rintro e w2 ⟨r2,rfl,hr2,hl2,hb2⟩
     have HR2:=hid hr2
     clear hr2
     go_wp2
     go_ret
     refine ⟨_,rfl,?_,jH.trans (hb2.mono jH.size)⟩
     have h2:=H1.out
     have h3:=oq HR1.out HR2.out (by omega)
     unfold gN
     rw [HT.out,←RL.out,←h3]
     try simp
  ·have hz:(y != 0)=true:=by simpa using hy0
   have hz2:(y == 0)=false:=by simpa using hy0
   have hs:=Js x y
   have ht:=NV (a:=x) hy0
   have HS:=hid hs
   have HTM:=hid ht
   clear hs ht
   go_wp2_with fail
   go_quiet (fail)
   go_wp2
   exact ⟨⟨y,x.tmod y,rfl,rfl,by rw [HS.out];exact HG.out,hyl,by have:=HTM.out;omega,⟨hbr.os,hbr.tape,hbr.output,hbr.size,hbr.block⟩⟩,by simpa [intOf] using HTM.out⟩
theorem El (A B:List UInt8) (h:∀ c∈A,c≠47):Lib.index (A++47 :: B) [47]=(A.length:Int):=by
 rw [Lib.index_one]
 induction A with
 | nil=>simp [Lib.indexByte]
 | cons c A ih =>
  have h1:=ih (fun x hx=>h x (List.mem_cons_of_mem _ hx))
  have h2:c≠47:=h c (List.mem_cons_self ..)
  simp only [List.cons_append,Lib.indexByte]
  simp [h1,h2]
theorem indexByte_none (A:List UInt8) (h:∀ c∈A,c≠47):Lib.index A [47] = -1:=by
 rw [Lib.index_one]
 induction A with
 | nil=>simp [Lib.indexByte]
 | cons c A ih =>
  have h1:=ih (fun x hx=>h x (List.mem_cons_of_mem _ hx))
  have h2:c≠47:=h c (List.mem_cons_self ..)
  simp only [Lib.indexByte]
  simp [h1,h2]
theorem EP {A B:List UInt8} (h:∀ c∈A,c≠47):Lib.cut (A++47 :: B) [47]=(A,B,true):=by
 unfold Lib.cut
 rw [El A B h,if_pos (by omega)]
 simp [List.drop_append]
theorem JQ {A:List UInt8} (h:∀ c∈A,c≠47):Lib.cut A [47]=(A,[],false):=by
 unfold Lib.cut
 rw [indexByte_none A h,if_neg (by omega)]
theorem below_drewN (w:World) (n:Nat):Below w.heap.size w (w.drewN n):=⟨rfl,rfl,rfl,Nat.le_refl _,fun _ _=>rfl⟩
def Qd (q:Rat) (s:ByteArray) (w:World) (e:Ending) (w':World):Prop:=
 ∃ a b:ByteArray,e=.returned (.tuple #[.string a,.string b])∧eP a q.num∧eP b (q.den:Int)∧a.size≤s.size∧b.size≤s.size∧Below w.heap.size w w'
theorem sV (l:List UInt8):(⟨l.toArray⟩ : ByteArray).size=l.length:=by rw [Lib.size_eq]
theorem qY (s:ByteArray) (q:Rat) (h:gN s q) (hs:s.size≤4000000000) (w:World) (hw:Good w) :
  Calls Tryz.prog 126 #[.string s] w (Qd q s w):=by
 obtain ⟨mm,hmm⟩:=hw.maxLen
 have hpos:=h.pos
 have hlen:=h.size
 have ht:s.data.toList=aX q:=h
 by_cases hd:q.den=1
 ·have hc:Lib.cut s.data.toList [47]=(itoa q.num,[],false):=by
   rw [ht];unfold aX dR;rw [if_pos hd];exact JQ (iZ _)
  have HC:=hid hc
  have HL:=hid hlen
  have HD:=hid hd
  clear hc hlen hd ht
  go_enter Tryz.func126,Tryz.ntmps126
  go_wp2_with fail
  refine (Tryz.strings_Cut s ⟨#[47]⟩ mm _ (by omega) hmm).mono ?_
  rintro e w' ⟨rfl,n,rfl⟩
  have hc2:Lib.cut s.data.toList (⟨#[47]⟩ : ByteArray).data.toList=(itoa q.num,[],false):=HC.out
  rw [hc2]
  clear hc2
  go_wp2
  go_ret2
  refine ⟨_,_,rfl,eP.mk rfl,?_,?_,?_,below_drewN _ _⟩
  ·rw [HD.out];exact NY
  ·rw [sV,HL.out];unfold aX dR;rw [if_pos HD.out];exact Nat.le_refl _
  ·exact hpos
 ·have hc:Lib.cut s.data.toList [47]=(itoa q.num,decDigits q.den,true):=by
   rw [ht];unfold aX dR;rw [if_neg hd];exact EP (iZ _)
  have HC:=hid hc
  have HL:=hid hlen
  have HD:=hid hd
  clear hc hlen hd ht
  go_enter Tryz.func126,Tryz.ntmps126
  go_wp2_with fail
  refine (Tryz.strings_Cut s ⟨#[47]⟩ mm _ (by omega) hmm).mono ?_
  rintro e w' ⟨rfl,n,rfl⟩
  have hc2:Lib.cut s.data.toList (⟨#[47]⟩ : ByteArray).data.toList=(itoa q.num,decDigits q.den,true):=HC.out
  rw [hc2]
  clear hc2
  go_wp2
  go_ret2
  refine ⟨_,_,rfl,eP.mk rfl,eP.mk (fu _).symm,?_,?_,below_drewN _ _⟩
  ·rw [sV,HL.out];unfold aX dR;rw [if_neg HD.out];simp
  ·rw [sV,HL.out];unfold aX dR;rw [if_neg HD.out];simp;omega
theorem mU {s t:ByteArray} {m n:Int} (h:eP s m) (k:eP t n) (hl:n.natAbs≤m.natAbs):t.size≤s.size+1:=by
 rw [h.size,k.size,dS,dS]
 have:=oW hl
 split <;> split <;> omega
theorem jQ (a b:ByteArray) (n d:Int) (ha:eP a n) (hb:eP b d) (hd:0<d) (hsa:a.size≤9000000010) (hsb:b.size≤9000000010) (w:World) :
  Calls Tryz.prog 154 #[.string a,.string b] w fun e w'=>∃ r:ByteArray,e=.returned (.string r)∧r.data.toList=dR n d.toNat∧w=w':=by
 have h1:(b.toList == [49])=decide (d=1):=hb.one
 have HA:=hid ha
 have HB:=hid hb
 clear ha hb
 by_cases hd1:d=1
 ·rw [decide_eq_true hd1] at h1
  have HD:=hid hd1
  clear hd1
  go_enter Tryz.func154,Tryz.ntmps154
  go_wp2
  go_ret
  refine ⟨_,rfl,?_,rfl⟩
  rw [HD.out]
  exact HA.out
 ·rw [decide_eq_false hd1] at h1
  have HD:=hid hd1
  clear hd1
  go_enter Tryz.func154,Tryz.ntmps154
  go_wp2
  go_ret
  refine ⟨_,rfl,?_,rfl⟩
  have h2:=HD.out
  rw [←oq HA.out HB.out (by omega)]
  try simp
theorem Au (a b:ByteArray) (n d:Int) (ha:eP a n) (hb:eP b d) (hn0:0≤n) (hdp:0<d) (hdl:d<1000000000) (hsa:a.size≤17) (hsb:b.size≤17) (w:World) (hw:Good w) :
  Calls Tryz.prog 127 #[.string a,.string b] w fun e w'=>∃ r:ByteArray,e=.returned (.string r)∧gN r (Rat.divInt n d)∧Below w.heap.size w w':=by
 have HA:=hid ha
 have HB:=hid hb
 clear ha hb
 have hbw:=Below.refl w.heap.size w
 have hneg:¬ d<0:=by omega
 have hd:d≠0:=by omega
 have hs1:decide (mK d<0)=false:=by rw [sK (by omega)];rfl
 go_enter Tryz.func127,Tryz.ntmps127
 go_wp2_with fail
 refine (jm b d HB.out _).mono ?_
 rintro e w1 ⟨rfl,rfl⟩
 generalize mK d=sd at hs1 ⊢
 obtain ⟨G,hG⟩ : ∃ G,G=Int.gcd (n) (d):=⟨_,rfl⟩
 have hg0:0<G:=by rw [hG];exact Int.gcd_pos_of_ne_zero_right _ (by omega)
 have d1:(G:Int)∣n:=by rw [hG];exact Int.gcd_dvd_left ..
 have d2:(G:Int)∣d:=by rw [hG];exact Int.gcd_dvd_right ..
 have hq1:((n)/(G:Int)).natAbs≤(n).natAbs:=by rw [←wy d1,Int.natAbs_tdiv];exact Nat.div_le_self _ _
 have hq2:0<(d)/(G:Int):=Int.ediv_pos_of_pos_of_dvd (by omega) (by omega) d2
 have HTX:=hid (mO (n:=n) (d:=d) (by omega))
 have HQ1:=hid hq1
 have HGE:=hid hG
 have hGp:(0:Int)<(G:Int):=by omega
 have hGl:(G:Int)<1000000000:=by have h5:=Int.gcd_le_right (n) (b:=d) (by omega);omega
 rw [←hG] at HTX
 clear d1 d2 hq1 hG
 go_wp2_with fail
 refine (zM a b (n) (d) HA.out HB.out (by omega) (by omega) _ (hw.below hbw)).mono ?_
 rintro e w3 ⟨g,rfl,hg,hb3⟩
 have hgs:g.size≤b.size:=by
  rw [hg.size,(HB.out).size,fu,itoa_nonneg (n:=d) (by omega)]
  rw [aO,aO]
  exact oW (by have:=HGE.out;have h5:=Int.gcd_le_right (n) (b:=d) (by omega);omega)
 rw [←HGE.out] at hg
 have Mw:=(hbw).trans (hb3.mono (hbw).size)
 by_cases hg1:(G:Int)=1
 ·have hone:(g.toList == [49])=true:=by rw [hg.one];simpa using hg1
  have hone':(g.toList != [49])=false:=by simp only [bne,hone];rfl
  have HG1:=hid hg1
  clear hg1 hg
  go_wp2_with fail
  refine (jQ a b (n) (d) HA.out HB.out (by omega) (by omega) (by omega) _).mono ?_
  rintro e w4 ⟨r,rfl,hr,rfl⟩
  have HR:=hid hr
  clear hr
  go_wp2
  go_ret
  refine ⟨_,rfl,?_,Mw⟩
  have h7:=HTX.out
  rw [HG1.out,Int.ediv_one,Int.ediv_one] at h7
  exact HR.out.trans (h7.symm.trans rfl)
 ·have hone:(g.toList == [49])=false:=by rw [hg.one];simpa using hg1
  have hone':(g.toList != [49])=true:=by simp only [bne,hone];rfl
  have HGI:=hid hg
  clear hg1 hg
  go_wp2_with fail
  refine (qW a g (n) (G:Int) HA.out HGI.out hn0 hGp hGl (by omega) (by omega) _ (hw.below Mw)).mono ?_
  rintro e w4 ⟨q4,r4,rfl,hq4,hr4,hb4⟩
  have Tc:=Mw.trans (hb4.mono Mw.size)
  have HQ4:=hid hq4
  have ahg:=mU HA.out hq4 HQ1.out
  clear hq4 hr4
  go_wp2_with fail
  refine (qW b g (d) (G:Int) HB.out HGI.out (by omega) hGp hGl (by omega) (by omega) _ (hw.below Tc)).mono ?_
  rintro e w5 ⟨q5,r5,rfl,hq5,hr5,hb5⟩
  have afN:=Tc.trans (hb5.mono Tc.size)
  have ahh:=mU HB.out hq5 (by have:=Int.ediv_le_self (a:=d) (G:Int) (by omega);omega)
  have HQ5:=hid hq5
  clear hq5 hr5
  go_wp2_with fail
  refine (jQ q4 q5 ((n)/(G:Int)) ((d)/(G:Int)) HQ4.out HQ5.out (by omega) (by omega) (by omega) _).mono ?_
  rintro e w6 ⟨r,rfl,hr,rfl⟩
  have HR:=hid hr
  clear hr
  go_wp2
  go_ret
  refine ⟨_,rfl,?_,afN⟩
  exact HR.out.trans (HTX.out.symm.trans rfl)
theorem bM.mul {p q:Rat} (hp:bM p) (hq:bM q):(p.num*q.den).natAbs≤999999998000000001:=by
 rw [Int.natAbs_mul]
 have:=Nat.mul_le_mul (show p.num.natAbs≤999999999 by have:=hp.1;omega) (show (q.den:Int).natAbs≤999999999 by have:=hq.2;omega)
 omega
theorem bM.Zk {p q:Rat} (hp:bM p) (hq:bM q):-999999998000000001≤p.num*q.den∧p.num*q.den≤999999998000000001:=by
 have:=hp.mul hq;omega
theorem fF (a b:ByteArray) (p q:Rat) (ha:gN a p) (hb:gN b q) (hp:bM p) (hq:bM q) (w:World) (_hw:Good w) :
  Calls Tryz.prog 69 #[.string a,.string b] w fun e w'=>e=.returned (.int .i64 (dx p q))∧Below w.heap.size w w':=by
 have hsa:=dN ha hp
 have hsb:=dN hb hq
 have hbe:=ha.afI hb
 have HA:=hid ha
 have HB:=hid hb
 clear ha hb
 by_cases hpq:p=q
 ·rw [decide_eq_true hpq] at hbe
  have HF:=hid (sJ.2 hpq)
  clear hpq
  go_enter Tryz.func69,Tryz.ntmps69
  go_wp2
  go_ret
  exact ⟨dJ HF.out.symm,Below.refl _ _⟩
 ·rw [decide_eq_false hpq] at hbe
  clear hpq
  go_enter Tryz.func69,Tryz.ntmps69
  go_wp2_with fail
  refine (fE a p HA.out (by omega) _).mono ?_
  rintro e w1 ⟨hq1,-,rfl⟩
  obtain rfl:=hq1 hp
  go_wp2_with fail
  refine (fE b q HB.out (by omega) _).mono ?_
  rintro e w1 ⟨hq2,-,rfl⟩
  obtain rfl:=hq2 hq
  obtain ⟨r1,r2⟩:=hp.Zk hq
  obtain ⟨r3,r4⟩:=hq.Zk hp
  rcases Int.lt_trichotomy (p.num*(q.den:Int)) (q.num*(p.den:Int)) with hlt | hlt | hlt
  ·have e1:decide (p.num*(q.den:Int)<q.num*(p.den:Int))=true:=by simpa using hlt
   have HF:=hid (show dx p q = -1 by unfold dx ek;rw [if_pos hlt])
   clear hlt
   go_wp2
   go_ret
   exact ⟨dJ HF.out.symm,Below.refl _ _⟩
  ·have e1:decide (p.num*(q.den:Int)<q.num*(p.den:Int))=false:=by simp;omega
   have e2:decide (q.num*(p.den:Int)<p.num*(q.den:Int))=false:=by simp;omega
   have HF:=hid (show dx p q=0 by unfold dx ek;rw [if_neg (by omega),if_pos hlt])
   clear hlt
   go_wp2
   go_ret
   exact ⟨dJ HF.out.symm,Below.refl _ _⟩
  ·have e1:decide (p.num*(q.den:Int)<q.num*(p.den:Int))=false:=by simp;omega
   have e2:decide (q.num*(p.den:Int)<p.num*(q.den:Int))=true:=by simpa using hlt
   have HF:=hid (show dx p q=1 by unfold dx ek;rw [if_neg (by omega),if_neg (by omega)])
   clear hlt
   go_wp2
   go_ret
   exact ⟨dJ HF.out.symm,Below.refl _ _⟩
theorem MB (p q:Rat):p+q=Rat.divInt (p.num*q.den+q.num*p.den) ((p.den:Int)*(q.den:Int)):=by
 rw [Sl,←Int.natCast_mul,Rat.divInt_ofNat]
theorem MC (p q:Rat):p*q=Rat.divInt (p.num*q.num) ((p.den:Int)*(q.den:Int)):=by
 rw [Sm,←Int.natCast_mul,Rat.divInt_ofNat]
theorem bM.Zb {p q:Rat} (hp:bM p) (hq:bM q):0<(p.den:Int)*(q.den:Int)∧(p.den:Int)*(q.den:Int)≤999999998000000001:=by
 have h1:=Nat.mul_le_mul (show p.den≤999999999 by have:=hp.2;omega) (show q.den≤999999999 by have:=hq.2;omega)
 have h2:=Nat.mul_pos p.den_pos q.den_pos
 rw [←Int.natCast_mul]
 omega
theorem bM.nums {p q:Rat} (hp:bM p) (hq:bM q):-999999998000000001≤p.num*q.num∧p.num*q.num≤999999998000000001:=by
 have h1:=Nat.mul_le_mul (show p.num.natAbs≤999999999 by have:=hp.1;omega) (show q.num.natAbs≤999999999 by have:=hq.1;omega)
 rw [←Int.natAbs_mul] at h1
 omega
theorem Ob (p q:Rat):(p.den:Int)*(q.den:Int)≠0:=by
 have h2:=Nat.mul_pos p.den_pos q.den_pos
 rw [←Int.natCast_mul]
 omega
theorem pI (a b:ByteArray) (p q:Rat) (ha:gN a p) (hb:gN b q) (hp:bM p) (hq:bM q) (w:World) (hw:Good w) :
  Calls Tryz.prog 55 #[.string a,.string b] w fun e w'=>∃ r:ByteArray,e=.returned (.string r)∧gN r (p+q)∧Below w.heap.size w w':=by
 have hsa:=dN ha hp
 have hsb:=dN hb hq
 have hza:=ha.zero
 have hzb:=hb.zero
 have HA:=hid ha
 have HB:=hid hb
 have HDD:=hid (Ob p q)
 clear ha hb
 by_cases hp0:p=0
 ·rw [decide_eq_true hp0] at hza
  have HP:=hid hp0
  clear hp0
  go_enter Tryz.func55,Tryz.ntmps55
  go_wp2
  go_ret
  exact ⟨_,rfl,by rw [HP.out,Rat.zero_add];exact HB.out,Below.refl _ _⟩
 ·rw [decide_eq_false hp0] at hza
  clear hp0
  by_cases hq0:q=0
  ·rw [decide_eq_true hq0] at hzb
   have HQ:=hid hq0
   clear hq0
   go_enter Tryz.func55,Tryz.ntmps55
   go_wp2
   go_ret
   exact ⟨_,rfl,by rw [HQ.out,Rat.add_zero];exact HA.out,Below.refl _ _⟩
  ·rw [decide_eq_false hq0] at hzb
   clear hq0
   go_enter Tryz.func55,Tryz.ntmps55
   go_wp2_with fail
   refine (fE a p HA.out (by omega) _).mono ?_
   rintro e w1 ⟨hq1,-,rfl⟩
   obtain rfl:=hq1 hp
   go_wp2_with fail
   refine (fE b q HB.out (by omega) _).mono ?_
   rintro e w1 ⟨hq2,-,rfl⟩
   obtain rfl:=hq2 hq
   obtain ⟨r1,r2⟩:=hp.Zk hq
   obtain ⟨r3,r4⟩:=hq.Zk hp
   obtain ⟨r5,r6⟩:=hp.Zb hq
   go_wp2_with fail
   refine (qX _ _ r5 (by omega) (by omega) _ hw).mono ?_
   rintro e w3 ⟨r,rfl,hr,hb3⟩
   have HR:=hid hr
   clear hr
   go_wp2
   go_ret
   exact ⟨_,rfl,by rw [MB];exact HR.out,hb3⟩
theorem kZ (a b:ByteArray) (p q:Rat) (ha:gN a p) (hb:gN b q) (hp:bM p) (hq:bM q) (w:World) (hw:Good w) :
  Calls Tryz.prog 73 #[.string a,.string b] w fun e w'=>∃ r:ByteArray,e=.returned (.string r)∧gN r (p*q)∧Below w.heap.size w w':=by
 have hsa:=dN ha hp
 have hsb:=dN hb hq
 have hza:=ha.zero
 have hzb:=hb.zero
 have hoa:=ha.one
 have vM:=hb.one
 have HA:=hid ha
 have HB:=hid hb
 have HDD:=hid (Ob p q)
 clear ha hb
 by_cases hp0:p=0
 ·rw [decide_eq_true hp0] at hza
  have HP:=hid hp0
  clear hp0 hoa vM hzb
  go_enter Tryz.func73,Tryz.ntmps73
  go_wp2
  go_ret
  exact ⟨_,rfl,by rw [HP.out,Rat.zero_mul];exact Ju,Below.refl _ _⟩
 ·rw [decide_eq_false hp0] at hza
  clear hp0
  by_cases hq0:q=0
  ·rw [decide_eq_true hq0] at hzb
   have HQ:=hid hq0
   clear hq0 hoa vM
   go_enter Tryz.func73,Tryz.ntmps73
   go_wp2
   go_ret
   exact ⟨_,rfl,by rw [HQ.out,Rat.mul_zero];exact Ju,Below.refl _ _⟩
  ·rw [decide_eq_false hq0] at hzb
   clear hq0
   by_cases hp1:p=1
   ·rw [decide_eq_true hp1] at hoa
    have HP:=hid hp1
    clear hp1 vM
    go_enter Tryz.func73,Tryz.ntmps73
    go_wp2
    go_ret
    exact ⟨_,rfl,by rw [HP.out,Rat.one_mul];exact HB.out,Below.refl _ _⟩
   ·rw [decide_eq_false hp1] at hoa
    clear hp1
    by_cases hq1:q=1
    ·rw [decide_eq_true hq1] at vM
     have HQ:=hid hq1
     clear hq1
     go_enter Tryz.func73,Tryz.ntmps73
     go_wp2
     go_ret
     exact ⟨_,rfl,by rw [HQ.out,Rat.mul_one];exact HA.out,Below.refl _ _⟩
    ·rw [decide_eq_false hq1] at vM
     clear hq1
     go_enter Tryz.func73,Tryz.ntmps73
     go_wp2_with fail
     refine (fE a p HA.out (by omega) _).mono ?_
     rintro e w1 ⟨hqa,-,rfl⟩
     obtain rfl:=hqa hp
     go_wp2_with fail
     refine (fE b q HB.out (by omega) _).mono ?_
     rintro e w1 ⟨hq2,-,rfl⟩
     obtain rfl:=hq2 hq
     obtain ⟨r1,r2⟩:=hp.nums hq
     obtain ⟨r5,r6⟩:=hp.Zb hq
     go_wp2_with fail
     refine (qX _ _ r5 (by omega) (by omega) _ hw).mono ?_
     rintro e w3 ⟨r,rfl,hr,hb3⟩
     have HR:=hid hr
     clear hr
     go_wp2
     go_ret
     exact ⟨_,rfl,by rw [MC];exact HR.out,hb3⟩
theorem Oc (q:Rat):(aX q).length=(itoa q.num).length+(if q.den=1 then 0 else nDigits q.den+1):=vW q
theorem Zl (q:Rat):(aX q).length≤(itoa q.num).length+nDigits q.den+1:=by rw [Oc];split <;> omega
theorem zO (n:Int):nDigits n.natAbs≤(itoa n).length∧(itoa n).length≤nDigits n.natAbs+1:=by
 rw [dS];split <;> omega
theorem Ca (n:Int):nDigits n.natAbs≤(itoa n).length:=(zO n).1
theorem Qe (p:Rat):nDigits p.num.natAbs+nDigits p.den≤(aX p).length+1:=by
 have a3:=Ca p.num
 rw [Oc]
 by_cases h:p.den=1
 ·have:nDigits p.den=1:=by rw [h];exact Go.Lib.nDigits_small (by decide)
  rw [if_pos h];omega
 ·rw [if_neg h];omega
def nJ (q:Rat):Int:=mK q.num
theorem fM {q:Rat}:q=0↔q.num=0:=Rat.num_eq_zero.symm
theorem nK (s:ByteArray) (q:Rat) (h:gN s q) (_hs:s.size≤9000000000) (w:World) :
  Calls Tryz.prog 99 #[.string s] w fun e w'=>e=.returned (.int .i64 (nJ q))∧w=w':=by
 have hz:=h.zero
 have hp:=h.pos
 have hp':decide (0<s.size)=true:=by simpa using hp
 have hf:=h.first hp
 clear h
 by_cases h0:q=0
 ·rw [decide_eq_true h0] at hz
  have HF:=hid (show nJ q=0 from wu (fM.1 h0))
  clear h0 hf
  go_enter Tryz.func99,Tryz.ntmps99
  go_wp2
  go_ret
  exact ⟨dJ HF.out.symm,rfl⟩
 ·rw [decide_eq_false h0] at hz
  by_cases h1:q<0
  ·rw [decide_eq_true h1] at hf
   have HF:=hid (show nJ q = -1 from wh (gJ.1 h1))
   clear h0 h1
   go_enter Tryz.func99,Tryz.ntmps99
   go_wp2
   go_ret
   exact ⟨dJ HF.out.symm,rfl⟩
  ·rw [decide_eq_false h1] at hf
   have HF:=hid (show nJ q=1 from sK (by have a:=mt gJ.2 h1;have b:=mt fM.2 h0;omega))
   clear h0 h1
   go_enter Tryz.func99,Tryz.ntmps99
   go_wp2
   go_ret
   exact ⟨dJ HF.out.symm,rfl⟩
theorem GL (s:ByteArray) (q:Rat) (h:gN s q) (hs:s.size≤9000000000) (w:World) :
  Calls Tryz.prog 155 #[.string s] w fun e w'=>∃ r:ByteArray,e=.returned (.string r)∧gN r (-q)∧r.size≤s.size+1∧w=w':=by
 have hz:=h.zero
 have hp:=h.pos
 have hf:=h.first hp
 have H:=hid h
 clear h
 by_cases h0:q=0
 ·rw [decide_eq_true h0] at hz
  have H0:=hid h0
  clear h0 hf
  go_enter Tryz.func155,Tryz.ntmps155
  go_wp2
  go_ret
  exact ⟨_,rfl,by rw [H0.out,Rat.neg_zero];rw [←H0.out];exact H.out,Nat.le_succ _,rfl⟩
 ·rw [decide_eq_false h0] at hz
  by_cases h1:q<0
  ·rw [decide_eq_true h1] at hf
   have hp1:1≤s.size:=hp
   have H1:=hid h1
   clear h0 h1
   go_enter Tryz.func155,Tryz.ntmps155
   go_wp2
   go_ret
   refine ⟨_,rfl,?_,?_,rfl⟩
   ·unfold gN
    have h2:s.data.toList=45 :: aX (-q):=H.out.trans (qL H1.out)
    have h3:s.size=(aX (-q)).length+1:=by rw [Lib.size_eq,h2];rfl
    rw [Lib.extract_data,h2,h3]
    simp
   ·rw [Lib.size_eq,Lib.extract_data];simp;omega
  ·rw [decide_eq_false h1] at hf
   have H1:=hid h1
   have H0:=hid h0
   clear h0 h1
   go_enter Tryz.func155,Tryz.ntmps155
   go_wp2
   go_ret
   refine ⟨_,rfl,?_,?_,rfl⟩
   ·unfold gN
    have e:((⟨#[45]⟩ : ByteArray)++s).data.toList=45 :: s.data.toList:=by simp
    rw [e,EK H0.out H1.out]
    exact congrArg _ H.out
   ·have e:((⟨#[45]⟩ : ByteArray)++s).data.toList=45 :: s.data.toList:=by simp
    rw [Lib.size_eq,e,Lib.size_eq];simp
theorem GM (a b:ByteArray) (p q:Rat) (ha:gN a p) (hb:gN b q) (hp:bM p) (hq:bM q) (w:World) (hw:Good w) :
  Calls Tryz.prog 72 #[.string a,.string b] w fun e w'=>∃ r:ByteArray,e=.returned (.string r)∧gN r (p-q)∧Below w.heap.size w w':=by
 have hsa:=dN ha hp
 have hsb:=dN hb hq
 have HA:=hid ha
 have HB:=hid hb
 clear ha hb
 go_enter Tryz.func72,Tryz.ntmps72
 go_wp2_with fail
 refine (GL b q HB.out (by omega) _).mono ?_
 rintro e w1 ⟨c,rfl,hc,hcs,rfl⟩
 have HC:=hid hc
 clear hc
 go_wp2_with fail
 refine (pI a c p (-q) HA.out HC.out hp hq.neg _ hw).mono ?_
 rintro e w2 ⟨r,rfl,hr,hb2⟩
 have HR:=hid hr
 clear hr
 go_wp2
 go_ret
 exact ⟨_,rfl,by rw [Rat.sub_eq_add_neg];exact HR.out,hb2⟩
theorem Tf:gN ⟨#[49,47,50]⟩ (1/2):=by
 have e:(1/2:Rat)=mkRat 1 2:=by decide +kernel
 unfold gN
 rw [e,D9 (by decide) (by decide)]
 unfold dR
 rw [if_neg (by decide),vU,bB (by decide)]
 rfl
def Tg (x:Rat) (w:World) (e:Ending) (w':World):Prop:=
 ∃ r:ByteArray,e=.returned (.tuple #[.string r,.int .i64 0])∧gN r x∧Below w.heap.size w w'
theorem JR {q:Rat} {r:ByteArray} (h:0<q.num) (hr:r.data.toList=dR (q.den:Int) (q.num).toNat):gN r q⁻¹:=by
 obtain ⟨h1,h2⟩:=o5 h
 unfold gN aX
 rw [hr,h1,←h2];rfl
theorem JS {q:Rat} {r:ByteArray} (h:q.num<0) (hr:r.data.toList=dR (-(q.den:Int)) (-q.num).toNat):gN r q⁻¹:=by
 obtain ⟨h1,h2⟩:=o6 h
 unfold gN aX
 rw [hr,h1,←h2];rfl
theorem xk {s r:ByteArray} {q:Rat} (h:gN s q) (hr:gN r q⁻¹):r.size≤s.size+4:=by
 rw [h.size,hr.size]
 have a1:=Zl q⁻¹
 have a2:=Qe q
 have a3:=(zO q⁻¹.num).2
 by_cases h0:q.num=0
 ·have:q=0:=fM.2 h0
  rw [this,Rat.inv_zero];omega
 ·have h1:q⁻¹.num.natAbs=q.den∧q⁻¹.den=q.num.natAbs:=by
   rcases Int.lt_or_lt_of_ne h0 with h | h
   ·obtain ⟨x,y⟩:=o6 h
    omega
   ·obtain ⟨x,y⟩:=o5 h
    omega
  rw [h1.1] at a3
  rw [h1.2] at a1
  omega
theorem bM.inv {q:Rat} (h:bM q) (h0:q≠0):bM q⁻¹:=by
 have h1:q.num≠0:=mt fM.2 h0
 rcases Int.lt_or_lt_of_ne h1 with k | k
 ·obtain ⟨x,y⟩:=o6 k
  have:=h.1;have:=h.2
  exact ⟨by omega,by omega⟩
 ·obtain ⟨x,y⟩:=o5 k
  have:=h.1;have:=h.2
  exact ⟨by omega,by omega⟩
theorem GN (a b:ByteArray) (p q:Rat) (ha:gN a p) (hb:gN b q) (hq:q≠0) (hsp:bM p) (hsq:bM q) (w:World) (hw:Good w) :
  Calls Tryz.prog 71 #[.string a,.string b] w (Tg (p*q⁻¹) w):=by
 have hsa:=dN ha hsp
 have hsb:=dN hb hsq
 have hsi:=hsq.inv hq
 have hz:=hb.zero
 rw [decide_eq_false hq] at hz
 have hp:=hb.pos
 have hf:=hb.first hp
 have HA:=hid ha
 have HB:=hid hb
 have HQ:=hid (mt fM.2 hq)
 clear ha hb hq
 by_cases h1:q<0
 ·rw [decide_eq_true h1] at hf
  have H1:=hid (gJ.1 h1)
  clear h1
  go_enter Tryz.func71,Tryz.ntmps71
  go_wp2_with fail
  refine (qY b q HB.out (by omega) _ hw).mono ?_
  rintro e w1 ⟨n,d,rfl,hn,hd,hns,hds,hb1⟩
  have HN:=hid hn
  have HD:=hid hd
  clear hn hd
  go_wp2_with fail
  refine (zJ n q.num HN.out _ (by omega)).mono ?_
  rintro e w2 ⟨n2,rfl,hn2,rfl⟩
  have ahi:=mU HN.out hn2 (by omega)
  have HN2:=hid hn2
  clear hn2
  go_wp2_with fail
  refine (zJ d (q.den:Int) HD.out _ (by omega)).mono ?_
  rintro e w2 ⟨d2,rfl,hd2,rfl⟩
  have ahj:=mU HD.out hd2 (by omega)
  have HD2:=hid hd2
  clear hd2
  go_wp2_with fail
  refine (jQ d2 n2 _ _ HD2.out HN2.out (by have:=H1.out;omega) (by omega) (by omega) _).mono ?_
  rintro e w2 ⟨i,rfl,hi,rfl⟩
  have HI:=hid (JS H1.out hi)
  have his:=xk HB.out HI.out
  clear hi
  go_wp2_with fail
  refine (kZ a i p q⁻¹ HA.out HI.out hsp hsi _ (hw.below hb1)).mono ?_
  rintro e w3 ⟨r,rfl,hr,hb3⟩
  have HR:=hid hr
  clear hr
  go_wp2
  go_ret2
  exact ⟨_,rfl,HR.out,hb1.trans (hb3.mono hb1.size)⟩
 ·rw [decide_eq_false h1] at hf
  have H1:=hid (show 0<q.num by have:=mt gJ.2 h1;have:=HQ.out;omega)
  clear h1
  go_enter Tryz.func71,Tryz.ntmps71
  go_wp2_with fail
  refine (qY b q HB.out (by omega) _ hw).mono ?_
  rintro e w1 ⟨n,d,rfl,hn,hd,hns,hds,hb1⟩
  have HN:=hid hn
  have HD:=hid hd
  clear hn hd
  go_wp2_with fail
  refine (jQ d n _ _ HD.out HN.out H1.out (by omega) (by omega) _).mono ?_
  rintro e w2 ⟨i,rfl,hi,rfl⟩
  have HI:=hid (JR H1.out hi)
  have his:=xk HB.out HI.out
  clear hi
  go_wp2_with fail
  refine (kZ a i p q⁻¹ HA.out HI.out hsp hsi _ (hw.below hb1)).mono ?_
  rintro e w3 ⟨r,rfl,hr,hb3⟩
  have HR:=hid hr
  clear hr
  go_wp2
  go_ret2
  exact ⟨_,rfl,HR.out,hb1.trans (hb3.mono hb1.size)⟩
theorem Ti (d:Int):decide (ek d 1≤0)=!decide (1<d):=by
 unfold ek;split
 ·simp;omega
 ·split
  ·simp;omega
  ·simp;omega
theorem Cb (s:ByteArray) (q:Rat) (h:gN s q) (hS:bM q) (w:World) (hw:Good w) :
  Calls Tryz.prog 50 #[.string s] w fun e w'=>e=.returned (.int .i64 0)∧Below w.heap.size w w':=by
 obtain ⟨mm,hmm⟩:=hw.maxLen
 have hs:=dN h hS
 have hd1:=ja.1 hS.1
 have hd2:=ja.1 hS.2
 rw [aO] at hd1 hd2
 have hok:gI (itoa q.num)=true:=(EJ _).2 ⟨q.num,rfl,by omega⟩
 have hbw:=Below.refl w.heap.size w
 have ht:s.data.toList=aX q:=h
 by_cases hd:q.den=1
 ·have hl:s.data.toList=itoa q.num:=by rw [ht];unfold aX dR;rw [if_pos hd]
  have HC:=hid (show Lib.cut s.data.toList [47]=(s.data.toList,[],false) from JQ (by rw [hl];exact iZ _))
  have N7:=hid (show gI s.data.toList=true by rw [hl];exact hok)
  clear hl ht hok hd hd1 hd2
  go_enter Tryz.func50,Tryz.ntmps50
  go_wp2_with fail
  refine (Tryz.strings_Cut s ⟨#[47]⟩ mm _ (by omega) hmm).mono ?_
  rintro e w' ⟨rfl,n,rfl⟩
  have hc2:Lib.cut s.data.toList (⟨#[47]⟩ : ByteArray).data.toList=(s.data.toList,[],false):=HC.out
  rw [hc2]
  clear hc2
  go_wp2_with fail
  refine (nI _ (by rw [sV,←Lib.size_eq];omega) _).mono ?_
  rintro e w' ⟨rfl,rfl⟩
  have hif:(if gI ((⟨s.data.toList.toArray⟩ : ByteArray).data.toList)=true then (0:Int) else 2)=0:=by
   have:(⟨s.data.toList.toArray⟩ : ByteArray).data.toList=s.data.toList:=by simp
   rw [this,N7.out];rfl
  rw [hif]
  go_wp2
  go_ret
  exact ⟨rfl,below_drewN _ _⟩
 ·have hcut:Lib.cut s.data.toList [47]=(itoa q.num,decDigits q.den,true):=by
   rw [ht];unfold aX dR;rw [if_neg hd];exact EP (iZ _)
  have HC:=hid hcut
  have hdp:=q.den_pos
  have h1:1<(q.den:Int):=by omega
  have h0:q.num≠0:=fun e=>by
   have h2:=q.reduced
   rw [e] at h2
   simp at h2
   omega
  have hgc:((Int.gcd q.num (q.den:Int):Nat):Int)=1:=by
   have h2:Nat.gcd q.num.natAbs q.den=1:=q.reduced
   rw [Int.gcd_eq_natAbs_gcd_natAbs,Int.natAbs_natCast,h2]
   rfl
  obtain ⟨a,ha⟩ : ∃ a:ByteArray,a=⟨(itoa q.num).toArray⟩:=⟨_,rfl⟩
  obtain ⟨b,hb⟩ : ∃ b:ByteArray,b=⟨(decDigits q.den).toArray⟩:=⟨_,rfl⟩
  have hal:a.data.toList=itoa q.num:=by rw [ha]
  have hbl:b.data.toList=decDigits q.den:=by rw [hb]
  have has:a.size≤10:=by rw [ha,sV,dS];split <;> omega
  have hbs:b.size≤9:=by rw [hb,sV,aO];omega
  have hia:eP a q.num:=hal
  have hib:eP b (q.den:Int):=by unfold eP;rw [hbl,fu]
  have afO:=hid (show gI b.data.toList=true from (EJ _).2 ⟨(q.den:Int),hib,by rw [Int.natAbs_natCast];omega⟩)
  have N7:=hid (show gI a.data.toList=true by rw [hal];exact hok)
  have hz:=hia.zero
  rw [decide_eq_false h0] at hz
  have HA:=hid ha
  have HB:=hid hb
  have HIA:=hid hia
  have RN:=hid hib
  have HG:=hid hgc
  have hcmp:=Ti (q.den:Int)
  rw [decide_eq_true h1] at hcmp
  have adQ:decide (ek (q.den:Int) 1≤0)=false:=hcmp
  clear ha hb hal hbl hia hib hgc hcmp hcut ht hok h0 h1 hd hd1 hd2 hdp
  go_enter Tryz.func50,Tryz.ntmps50
  go_wp2_with fail
  refine (Tryz.strings_Cut s ⟨#[47]⟩ mm _ (by omega) hmm).mono ?_
  rintro e w' ⟨rfl,nn,rfl⟩
  have hc2:Lib.cut s.data.toList (⟨#[47]⟩ : ByteArray).data.toList=(itoa q.num,decDigits q.den,true):=HC.out
  rw [hc2]
  clear hc2
  simp only [←HA.out,←HB.out]
  go_wp2_with fail
  refine (nI a (by omega) _).mono ?_
  rintro e w' ⟨rfl,rfl⟩
  rw [N7.out]
  go_wp2_with fail
  refine (nI b (by omega) _).mono ?_
  rintro e w' ⟨rfl,rfl⟩
  rw [afO.out]
  go_wp2_with fail
  refine (Ap b _ (q.den:Int) 1 RN.out NY (by omega) (by decide) _).mono ?_
  rintro e w' ⟨rfl,rfl⟩
  generalize ek (q.den:Int) 1=cm at adQ ⊢
  go_wp2_with fail
  refine (zM a b q.num (q.den:Int) HIA.out RN.out (by omega) (by omega) _ (hw.below (below_drewN _ _))).mono ?_
  rintro e w3 ⟨g,rfl,hg,hb3⟩
  rw [HG.out] at hg
  have hone:(g.toList == [49])=true:=by rw [hg.one];rfl
  have hone':(g.toList != [49])=false:=by simp only [bne,hone];rfl
  have hbb:=(below_drewN w nn).trans (hb3.mono (below_drewN w nn).size)
  clear hg
  go_wp2
  go_ret
  exact ⟨rfl,hbb⟩
end Go.Proofs.YtglncfkoohgdaaaGreatDoor
