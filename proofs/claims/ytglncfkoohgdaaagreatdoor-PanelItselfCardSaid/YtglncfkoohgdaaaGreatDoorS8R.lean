import Derived.Test.YtglncfkoohgdaaaGreatDoorTxR
import Derived.Test.YtglncfkoohgdaaaGreatDoorT1R
set_option maxRecDepth 100000
set_option maxHeartbeats 4000000
namespace Go.Proofs.YtglncfkoohgdaaaGreatDoor
open Go.RowKit Go.Shelf Go.Sort
open Go.Lib (decDigits itoa nDigits compareBytes)
open Go.Lib (hid)
def wH (l:List UInt8) (s j:Nat):Nat:=aT ((l.drop s).take (j-s))
theorem aiu (l:List UInt8) (s:Nat):wH l s s=0:=by unfold wH;rw [Nat.sub_self,List.take_zero];rfl
theorem aiF {l:List UInt8} {s j:Nat} (h1:s≤j) (h2:j<l.length):wH l s (j+1)=10*wH l s j+dv l[j]:=by
 unfold wH
 have hl:j-s<(l.drop s).length:=by rw [List.length_drop];omega
 rw [show j+1-s=(j-s)+1 by omega,List.take_succ_eq_append_getElem hl,uT,List.getElem_drop]
 simp only [show s+(j-s)=j by omega]
theorem aiG {s:ByteArray} (hd:∀ c∈s.data.toList,bO c=true) {S j:Nat} (h1:S≤j) (h2:j<s.size) :
  48≤(s[j].toNat:Int)∧(s[j].toNat:Int)≤57∧((wH s.data.toList S (j+1):Nat):Int)=10*((wH s.data.toList S j:Nat):Int)+(s[j].toNat:Int)-48:=by
 have hl:j<s.data.toList.length:=by simpa using h2
 have e:s[j]=s.data.toList[j]:=rfl
 have hc:=hd _ (List.getElem_mem hl)
 have r:=PY hc
 have v:=abT hc
 have n:=aiF h1 hl
 rw [e]
 refine ⟨r.1,r.2,?_⟩
 rw [n]
 omega
theorem ail {l:List UInt8} (hd:∀ c∈l,bO c=true) {j:Nat} (h:j≤17):wH l 0 j<100000000000000000:=by
 unfold wH
 have h1:=vS (l:=(l.drop 0).take (j-0)) (fun c hc=>hd c (List.mem_of_mem_drop (List.mem_of_mem_take hc)))
 have h2:((l.drop 0).take (j-0)).length≤17:=by rw [List.length_take];omega
 exact Nat.lt_of_lt_of_le h1 (Nat.pow_le_pow_right (n:=10) (by decide) h2)
theorem aiQ (l:List UInt8):wH l 0 l.length=aT l:=by
 unfold wH
 rw [List.drop_zero,Nat.sub_zero,List.take_length]
theorem aim {b:Int} (h0:48≤b) (h1:b≤57):(-9223372036854775808+(b-48)).tdiv 10 ≤ -922337203685477579 ∧ -922337203685477580≤(-9223372036854775808+(b-48)).tdiv 10:=by
 rw [show (-9223372036854775808+(b-48)) = -(9223372036854775808-(b-48)) by omega,Int.neg_tdiv,Int.tdiv_eq_ediv_of_nonneg (by omega)]
 omega
theorem ah2 (s:ByteArray) (n:Int) (h:eP s n) (hn:n.natAbs<10 ^ 18) (w:World) :
  Calls Tryz.prog 141 #[.string s] w fun e w'=>e=.returned (.tuple #[.int .i64 n,.bool true])∧Below w.heap.size w w':=by
 have HS:=hid (fun W=>Qz s n h W)
 unfold qi at HS
 have HN:=hid hn
 clear h hn
 go_enter Tryz.func141,Tryz.ntmps141
 go_wp2_with fail
 refine (HS.out _).mono ?_
 rintro e w' ⟨r,rfl,hr,hbr⟩
 have hrl:r.data.toList=decDigits n.natAbs:=by rw [hr,fu]
 have hsz:r.size≤18:=by
  have h1:=hr.size
  rw [fu] at h1
  rw [h1]
  rw [aO];exact gW HN.out (by decide)
 have adO:=hid (show ∀ c∈r.data.toList,bO c=true by rw [hrl];exact bn _)
 have HV:=hid (show wH r.data.toList 0 r.size=n.natAbs by rw [Lib.size_eq,aiQ,hrl];exact bH _)
 have hm:=HN.out
 clear hr hrl
 go_wp2
 go_loop [6,7,8] (fun nv iv _=>∃ j:Nat,j≤r.size∧iv=.int .i64 (j:Int)∧nv=.int .i64 (-((wH r.data.toList 0 j:Nat):Int))) (fun _ iv _=>r.size-(intOf iv).toNat)
 case atStart=>exact ⟨0,Nat.zero_le _,rfl,by rw [aiu];rfl⟩
 case round =>
  obtain ⟨j,hj,rfl,rfl⟩:=hrel
  by_cases hjs:j<r.size
  ·obtain ⟨b1,b2,b3⟩:=aiG adO.out (Nat.zero_le j) hjs
   have hs9:=ail adO.out (j:=j) (by omega)
   obtain ⟨g1,g2⟩:=aim b1 b2
   have HB:=hid b3
   clear b3
   generalize wH r.data.toList 0 j=y at *
   go_wp2
   go_round
   case rel=>exact ⟨j+1,by omega,congrArg (Value.int .i64) (by omega),congrArg (Value.int .i64) (by have:=HB.out;omega)⟩
   case measure =>
    show r.size-((j:Int)+1).toNat<r.size-((j:Int)).toNat
    omega
  ·obtain rfl:j=r.size:=by omega
   have HE:=hid HV.out
   have hv0:=HV.out
   generalize wH r.data.toList 0 r.size=y at *
   subst hv0
   by_cases hneg:n<0
   ·have HD:=hid hneg
    rw [decide_eq_true hneg] at *
    go_wp2
    go_ret2
    exact ⟨by rw [show -((n.natAbs:Nat):Int)=n by have:=HD.out;omega];rfl,hbr⟩
   ·rw [decide_eq_false hneg] at *
    have HD:=hid hneg
    go_wp2
    go_ret2
    exact ⟨by rw [show ((n.natAbs:Nat):Int)=n by have:=HD.out;omega];rfl,hbr⟩
theorem ajq (s:ByteArray) (n:Int) (h:eP s n) (w:World) :
  Calls Tryz.prog 135 #[.string s] w fun e w'=>(e=.returned (.tuple #[.int .i64 n,.bool true])∧n.natAbs<10 ^ 17∨e=.returned (.tuple #[.int .i64 0,.bool false]))∧Below w.heap.size w w':=by
 have HS:=hid (fun W=>Qz s n h W)
 unfold qi at HS
 have HSM:=hid (fun hn W=>ah2 s n h hn W)
 clear h
 go_enter Tryz.func135,Tryz.ntmps135
 go_wp2_with fail
 refine (HS.out _).mono ?_
 rintro e w1 ⟨r,rfl,hr,hbr⟩
 have HR:=hid hr
 clear hr
 by_cases hl:17<r.size
 ·go_wp2
  go_ret2
  exact ⟨.inr rfl,hbr⟩
 ·have HL:=hid (show n.natAbs<10 ^ 17 from bS (n:=(n.natAbs:Int)) (by rw [←HR.out.size];omega))
  go_wp2_with fail
  refine (HSM.out (Nat.lt_of_lt_of_le HL.out (by decide)) _).mono ?_
  rintro e w2 ⟨rfl,hb2⟩
  go_wp2
  go_ret2
  exact ⟨.inl ⟨rfl,HL.out⟩,hbr.trans (hb2.mono hbr.size)⟩
theorem ain {m n:Int} {j k:Nat} (hm:m.natAbs<10 ^ j) (hn:n.natAbs<10 ^ k) (h:j+k≤18):-1000000000000000000<m*n∧m*n<1000000000000000000:=by
 have h1:m.natAbs*n.natAbs<10 ^ j*10 ^ k:=Nat.mul_lt_mul'' hm hn
 rw [←Nat.pow_add] at h1
 have h2:10 ^ (j+k)≤10 ^ 18:=Nat.pow_le_pow_right (by decide) h
 have h3:(m*n).natAbs<10 ^ 18:=by rw [Int.natAbs_mul];omega
 omega
theorem aiv (m n:Int) (hm:m.natAbs<10 ^ 9) (hn:n.natAbs<10 ^ 9) (w:World) (hw:Good w):Calls Tryz.prog 62 #[.string (ix m),.string (ix n)] w (RV (.string (ix (m*n))) w):=by
 have J7:=hid (fun W=>Qz (ix m) m (nL m) W)
 have UL:=hid (fun W=>Qz (ix n) n (nL n) W)
 have HMA:=hid (fun W=>ah2 (ix m) m (nL m) (Nat.lt_of_lt_of_le hm (by decide)) W)
 have HMB:=hid (fun W=>ah2 (ix n) n (nL n) (Nat.lt_of_lt_of_le hn (by decide)) W)
 unfold qi at J7 UL
 have hb:=ain hm hn (by decide)
 have HOF:=hid (fun W hg=>adW (m*n) (by omega) (by omega) W hg)
 have hz:IntKind.i64.wrap (m*n)=m*n:=IntWalk.i64_in _ (by omega)
 have TA:=hid (fun (r:ByteArray) (h:eP r (m.natAbs:Int))=>(show r.size≤9 by rw [h.size,fu,aO];exact gW hm (by decide)))
 have TB:=hid (fun (r:ByteArray) (h:eP r (n.natAbs:Int))=>(show r.size≤9 by rw [h.size,fu,aO];exact gW hn (by decide)))
 have HW:=hid hw
 unfold RV at HOF ⊢
 clear hm hn hb hw
 generalize ix (m*n)=r at *
 generalize ix m=a at *
 generalize ix n=b at *
 generalize decide (m<0)=bm at *
 generalize decide (n<0)=bn at *
 go_enter Tryz.func62,Tryz.ntmps62
 go_wp2_with fail
 refine (J7.out _).mono ?_
 rintro e w3 ⟨s,rfl,hs,hb3⟩
 have hrs:=TA.out s hs
 clear hs
 go_wp2_with fail
 refine (UL.out _).mono ?_
 rintro e w4 ⟨t,rfl,ht,hb4⟩
 have hrt:=TB.out t ht
 have Tc:=hb3.trans (hb4.mono hb3.size)
 clear ht hb4 hb3
 have hl2:(s.size:Int)+(t.size:Int)≤18:=by omega
 go_wp2_with fail
 refine (HMA.out _).mono ?_
 rintro e w5 ⟨rfl,hb5⟩
 have afN:=Tc.trans (hb5.mono Tc.size)
 go_wp2_with fail
 refine (HMB.out _).mono ?_
 rintro e w6 ⟨rfl,hb6⟩
 have ai8:=afN.trans (hb6.mono afN.size)
 go_wp2_with fail
 refine (HOF.out _ (HW.out.below ai8)).mono ?_
 rintro e w7 ⟨rfl,Db⟩
 have ajt:=ai8.trans (Db.mono ai8.size)
 go_wp2
 go_ret
 exact ⟨rfl,ajt⟩
theorem aio (m:Int) (hm:m.natAbs<10 ^ 17) (w:World):Calls Tryz.prog 135 #[.string (ix m)] w (RV (.tuple #[.int .i64 m,.bool true]) w):=by
 have HS:=hid (fun W=>Qz (ix m) m (nL m) W)
 unfold qi at HS
 have HSM:=hid (fun W=>ah2 (ix m) m (nL m) (Nat.lt_of_lt_of_le hm (by decide)) W)
 have TA:=hid (fun (r:ByteArray) (h:eP r (m.natAbs:Int))=>(show r.size≤17 by rw [h.size,fu,aO];exact gW hm (by decide)))
 unfold RV
 clear hm
 generalize ix m=a at *
 generalize decide (m<0)=bm at *
 go_enter Tryz.func135,Tryz.ntmps135
 go_wp2_with fail
 refine (HS.out _).mono ?_
 rintro e w1 ⟨r,rfl,hr,hbr⟩
 have hl:=TA.out r hr
 have hl2:(r.size:Int)≤17:=by omega
 clear hr
 go_wp2_with fail
 refine (HSM.out _).mono ?_
 rintro e w2 ⟨rfl,hb2⟩
 have Ej:=hbr.trans (hb2.mono hbr.size)
 go_wp2
 go_ret2
 exact ⟨rfl,Ej⟩
theorem ai9 (m n:Int) (hm:m.natAbs<10 ^ 17) (hn:n.natAbs<10 ^ 17) (w:World) (hw:Good w):Calls Tryz.prog 61 #[.string (ix m),.string (ix n)] w (RV (.string (ix (m+n))) w):=by
 have H1:=hid (fun W=>aio m hm W)
 have H2:=hid (fun W=>aio n hn W)
 have H3:=hid (fun W hg=>adW (m+n) (by omega) (by omega) W hg)
 have hz:IntKind.i64.wrap (m+n)=m+n:=IntWalk.i64_in _ (by omega)
 unfold RV at H1 H2 H3 ⊢
 clear hm hn
 generalize ix (m+n)=r at *
 generalize ix m=a at *
 generalize ix n=b at *
 go_enter Tryz.func61,Tryz.ntmps61
 go_wp2_with fail
 refine (H1.out _).mono ?_
 rintro e w1 ⟨rfl,hb1⟩
 go_wp2_with fail
 refine (H2.out _).mono ?_
 rintro e w2 ⟨rfl,hb2⟩
 have Ej:=hb1.trans (hb2.mono hb1.size)
 go_wp2_with fail
 refine (H3.out _ (hw.below Ej)).mono ?_
 rintro e w3 ⟨rfl,hb3⟩
 have Mw:=Ej.trans (hb3.mono Ej.size)
 go_wp2
 go_ret
 exact ⟨rfl,Mw⟩
theorem aiB (q:Rat) (hq:(tx q).size≤4000000000) (w:World):Calls Tryz.prog 59 #[.string (tx q)] w (RV (.tuple #[.string (ix q.num),.string (ix (q.den:Int))]) w):=by
 have hsz:=hq
 obtain ⟨s,hs⟩ : ∃ s,s=tx q:=⟨_,rfl⟩
 have ht:s.data.toList=aX q:=by rw [hs]
 rw [←hs] at hsz ⊢
 obtain ⟨A,hA⟩ : ∃ A,A=itoa q.num:=⟨_,rfl⟩
 obtain ⟨a,ha⟩ : ∃ a,a=ix q.num:=⟨_,rfl⟩
 obtain ⟨b,hb⟩ : ∃ b,b=ix (q.den:Int):=⟨_,rfl⟩
 rw [←ha,←hb]
 have had:a.data.toList=A:=by rw [ha,hA]
 have hbd:b.data.toList=decDigits q.den:=by rw [hb,←fu]
 by_cases hd:q.den=1
 ·have hc:Lib.indexByte s.data.toList 47 = -1:=by
   rw [ht];unfold aX dR;rw [if_pos hd];exact ahY _ (iZ _)
  have hsa:s=a:=by
   apply kW
   rw [ht,had,hA];unfold aX dR;rw [if_pos hd]
  have HB:=hid (show (⟨#[49]⟩ : ByteArray)=b by rw [hb,hd];exact ix1.symm)
  subst hsa
  have HC:=hid hc
  clear hs ht hA ha hb had hbd hd hc hq
  go_enter Tryz.func59,Tryz.ntmps59
  go_wp2_with fail
  refine (Tryz.strings_IndexByte s 47 _).mono ?_
  rintro e w' ⟨rfl,rfl⟩
  rw [show (47:Int).toNat.toUInt8=47 from rfl,HC.out]
  go_wp2
  go_ret2
  exact ⟨by rw [HB.out];rfl,Below.refl _ _⟩
 ·have hsp:s.data.toList=A++47 :: decDigits q.den:=by rw [ht,hA];unfold aX dR;rw [if_neg hd]
  have hc:Lib.indexByte s.data.toList 47=(A.length:Int):=by rw [hsp];exact ah1 _ _ (by rw [hA];exact iZ _)
  have HX:=hid (show s.extract 0 A.length=a from kW (by rw [aiD hsp,had]))
  have HY:=hid (show s.extract (A.length+1) s.size=b from kW (by rw [aiM hsp,hbd]))
  have hAl:A.length+1≤s.size:=by rw [Lib.size_eq,hsp];simp
  have HC:=hid hc
  generalize A.length=k at *
  clear hs ht hA ha hb had hbd hd hc hq hsp
  have i1:(k:Int)+1≤(s.size:Int):=by omega
  have i2:((k:Int)+1).toNat=k+1:=by omega
  have i3:¬ (k:Int)<0:=by omega
  go_enter Tryz.func59,Tryz.ntmps59
  go_wp2_with fail
  refine (Tryz.strings_IndexByte s 47 _).mono ?_
  rintro e w' ⟨rfl,rfl⟩
  rw [show (47:Int).toNat.toUInt8=47 from rfl,HC.out]
  go_wp2_with fail
  go_quiet (fail)
  go_wp2
  go_ret2
  exact ⟨by rw [←HX.out,←HY.out];rfl,aiA _ _⟩
theorem aiw (q:Rat) (hq:(tx q).size≤4000000000) (h:¬ (tx q).size≤9) (w:World):Calls Tryz.prog 57 #[.string (tx q)] w (RV (.tuple #[.int .i64 0,.int .i64 0,.bool false]) w):=by
 have i1:(9:Int)<((tx q).size:Int):=by omega
 have i2:(tx q).size≤4000000000:=hq
 clear hq
 generalize tx q=s at *
 go_enter Tryz.func57,Tryz.ntmps57
 go_wp2
 go_ret3
 exact ⟨rfl,Below.refl _ _⟩
def Mid (q:Rat):Prop:=q.num.natAbs≤50000∧q.den≤300
theorem Mid.size {q:Rat} (h:Mid q):(tx q).size≤4000000000:=by
 have h1:=itoa_length_le q.num (k:=6) (by have:=h.1;omega) (by have:=h.1;omega)
 have h2:nDigits q.den≤6:=gW (by have:=h.2;omega) (by decide)
 rw [aiN,Oc]
 split <;> omega
theorem Mid.neg {q:Rat} (h:Mid q):Mid (-q):=⟨by rw [Rat.neg_num,Int.natAbs_neg];exact h.1,by rw [Rat.neg_den];exact h.2⟩
theorem aja (p q:Rat) (hp:Mid p) (hq:Mid q) (h9:(tx q).size≤9) (w:World) (hw:Good w):Calls Tryz.prog 20 #[.string (tx p),.string (tx q)] w (RV (.string (tx (p+q))) w):=by
 by_cases hs:(tx p).size≤9
 ·exact ajj p q hs h9 w hw
 have HBN:=hid (fun w'=>aiw p hp.size hs w')
 have U9:=hid (fun w'=>aiB p hp.size w')
 have HPB:=hid (fun w'=>aiB q hq.size w')
 obtain ⟨p1,p2⟩:=hp
 obtain ⟨q1,q2⟩:=hq
 have m1:(p.num*(q.den:Int)).natAbs≤50000*300:=by rw [Int.natAbs_mul];exact Nat.mul_le_mul p1 q2
 have m2:(q.num*(p.den:Int)).natAbs≤50000*300:=by rw [Int.natAbs_mul];exact Nat.mul_le_mul q1 p2
 have m3:((p.den:Int)*(q.den:Int)).natAbs≤300*300:=by rw [Int.natAbs_mul];exact Nat.mul_le_mul p2 q2
 have M1:=hid (fun w' hg=>aiv p.num (q.den:Int) (by omega) (by omega) w' hg)
 have M2:=hid (fun w' hg=>aiv q.num (p.den:Int) (by omega) (by omega) w' hg)
 have A1:=hid (fun w' hg=>ai9 (p.num*(q.den:Int)) (q.num*(p.den:Int)) (by omega) (by omega) w' hg)
 have M3:=hid (fun w' hg=>aiv (p.den:Int) (q.den:Int) (by omega) (by omega) w' hg)
 have dn:(p.den:Int)*(q.den:Int)≠0:=by
  have a:=p.den_pos
  have b:=q.den_pos
  exact Int.mul_ne_zero (by omega) (by omega)
 have i9:∀ n:Int,n.natAbs≤40000000→Iz 9 n:=fun n h=>by
  unfold Iz
  rw [Cc]
  exact itoa_length_le n (k:=8) (by omega) (by omega)
 have F1:=hid (fun w' hg=>MG (p.num*(q.den:Int)+q.num*(p.den:Int)) ((p.den:Int)*(q.den:Int)) dn (i9 _ (by omega)) (i9 _ (by omega)) w' hg)
 have HRE:=hid (show tx (Rat.divInt (p.num*(q.den:Int)+q.num*(p.den:Int)) ((p.den:Int)*(q.den:Int)))=tx (p+q) by rw [MB p q])
 unfold RV at U9 HPB M1 M2 A1 M3 F1 HBN ⊢
 rw [HRE.out] at F1
 clear HRE m1 m2 m3 p1 p2 q1 q2 dn i9 h9 hs
 generalize tx (p+q)=r at *
 generalize tx p=tp at *
 generalize tx q=tq at *
 go_enter Tryz.func20,Tryz.ntmps20
 go_wp2_with fail
 refine (HBN.out _).mono ?_
 rintro e w1 ⟨rfl,hw1⟩
 have aci:=hw1
 go_wp2_with fail
 refine (U9.out _).mono ?_
 rintro e w2 ⟨rfl,hw2⟩
 have hbw2:=aci.trans (hw2.mono aci.size)
 go_wp2_with fail
 refine (HPB.out _).mono ?_
 rintro e w3 ⟨rfl,hw3⟩
 have agb:=hbw2.trans (hw3.mono hbw2.size)
 go_wp2_with fail
 refine (M1.out _ (hw.below agb)).mono ?_
 rintro e w4 ⟨rfl,hw4⟩
 have U3:=agb.trans (hw4.mono agb.size)
 go_wp2_with fail
 refine (M2.out _ (hw.below U3)).mono ?_
 rintro e w5 ⟨rfl,hw5⟩
 have agc:=U3.trans (hw5.mono U3.size)
 go_wp2_with fail
 refine (A1.out _ (hw.below agc)).mono ?_
 rintro e w6 ⟨rfl,RQ⟩
 have QX:=agc.trans (RQ.mono agc.size)
 go_wp2_with fail
 refine (M3.out _ (hw.below QX)).mono ?_
 rintro e w7 ⟨rfl,hw7⟩
 have agd:=QX.trans (hw7.mono QX.size)
 go_wp2_with fail
 refine (F1.out _ (hw.below agd)).mono ?_
 rintro e w8 ⟨rfl,hw8⟩
 have acK:=agd.trans (hw8.mono agd.size)
 go_wp2
 go_ret
 exact ⟨rfl,acK⟩
theorem ajb (q:Rat) (w:World):Calls Tryz.prog 79 #[.string (tx q)] w (RV (.int .i64 (nJ q)) w):=by
 obtain ⟨s,hs⟩ : ∃ s,s=tx q:=⟨_,rfl⟩
 have h:gN s q:=by rw [hs];exact bU q
 rw [←hs]
 have hz:=h.zero
 have hp:=h.pos
 have hp':decide (0<s.size)=true:=by simpa using hp
 have hf:=h.first hp
 clear h hs
 by_cases h0:q=0
 ·rw [decide_eq_true h0] at hz
  have HF:=hid (show nJ q=0 from wu (fM.1 h0))
  clear h0 hf
  go_enter Tryz.func79,Tryz.ntmps79
  go_wp2
  go_ret
  exact ⟨dJ HF.out.symm,Below.refl _ _⟩
 ·rw [decide_eq_false h0] at hz
  by_cases h1:q<0
  ·rw [decide_eq_true h1] at hf
   have HF:=hid (show nJ q = -1 from wh (gJ.1 h1))
   clear h0 h1
   go_enter Tryz.func79,Tryz.ntmps79
   go_wp2
   go_ret
   exact ⟨dJ HF.out.symm,Below.refl _ _⟩
  ·rw [decide_eq_false h1] at hf
   have HF:=hid (show nJ q=1 from sK (by have a:=mt gJ.2 h1;have b:=mt fM.2 h0;omega))
   clear h0 h1
   go_enter Tryz.func79,Tryz.ntmps79
   go_wp2
   go_ret
   exact ⟨dJ HF.out.symm,Below.refl _ _⟩
theorem ajm (q:Rat) (hq:Mid q) (w:World):Calls Tryz.prog 163 #[.string (tx q)] w (RV (.string (tx (-q))) w):=by
 have hsz:=hq.size
 obtain ⟨s,hs⟩ : ∃ s,s=tx q:=⟨_,rfl⟩
 have h:gN s q:=by rw [hs];exact bU q
 rw [←hs] at hsz ⊢
 have hz:=h.zero
 have hp:=h.pos
 have hf:=h.first hp
 have H:=hid h
 obtain ⟨r,hr⟩ : ∃ r,r=tx (-q):=⟨_,rfl⟩
 have HR:=hid (show ∀ t:ByteArray,t.data.toList=aX (-q)→t=r from fun t ht=>kW (by rw [ht,hr,AR]))
 rw [←hr]
 clear h hs hr hq
 by_cases h0:q=0
 ·rw [decide_eq_true h0] at hz
  have HE:=hid (HR.out s (by rw [h0,Rat.neg_zero];have:=H.out;rw [h0] at this;exact this))
  clear h0 hf
  go_enter Tryz.func163,Tryz.ntmps163
  go_wp2
  go_ret
  exact ⟨jl HE.out,Below.refl _ _⟩
 ·rw [decide_eq_false h0] at hz
  by_cases h1:q<0
  ·rw [decide_eq_true h1] at hf
   have hp1:1≤s.size:=hp
   have HE:=hid (show s.extract 1 s.size=r from HR.out _ (by
    have h2:s.data.toList=45 :: aX (-q):=H.out.trans (qL h1)
    have h3:s.size=(aX (-q)).length+1:=by rw [Lib.size_eq,h2];rfl
    rw [Lib.extract_data,h2,h3]
    simp))
   clear h0 h1
   go_enter Tryz.func163,Tryz.ntmps163
   go_wp2
   go_ret
   exact ⟨jl HE.out,Below.refl _ _⟩
  ·rw [decide_eq_false h1] at hf
   have HE:=hid (show (⟨#[45]⟩ : ByteArray)++s=r from HR.out _ (by
    have e:((⟨#[45]⟩ : ByteArray)++s).data.toList=45 :: s.data.toList:=by simp
    rw [e,EK h0 h1]
    exact congrArg _ H.out))
   clear h0 h1
   go_enter Tryz.func163,Tryz.ntmps163
   go_wp2
   go_ret
   exact ⟨jl HE.out,Below.refl _ _⟩
theorem ajc (p q:Rat) (hp:Mid p) (hq:Mid q) (h9:(tx (-q)).size≤9) (w:World) (hw:Good w) :
  Calls Tryz.prog 80 #[.string (tx p),.string (tx q)] w (RV (.string (tx (p-q))) w):=by
 have H1:=hid (fun w'=>ajm q hq w')
 have H2:=hid (fun w' hg=>aja p (-q) hp hq.neg h9 w' hg)
 unfold RV at H1 H2
 rw [←Rat.sub_eq_add_neg] at H2
 clear hp hq h9
 generalize tx (p-q)=r at *
 generalize tx (-q)=nq at *
 generalize tx p=tp at *
 generalize tx q=tq at *
 go_enter Tryz.func80,Tryz.ntmps80
 go_wp2_with fail
 refine (H1.out _).mono ?_
 rintro e w1 ⟨rfl,hw1⟩
 have aci:=hw1
 go_wp2_with fail
 refine (H2.out _ (hw.below aci)).mono ?_
 rintro e w2 ⟨rfl,hw2⟩
 have hbw2:=aci.trans (hw2.mono aci.size)
 go_wp2
 go_ret
 exact ⟨rfl,hbw2⟩
theorem aiR (p q:Rat) (hp:Mid p) (hq:Mid q) (h9:(tx (-q)).size≤9) (w:World) (hw:Good w) :
  Calls Tryz.prog 26 #[.string (tx p),.string (tx q)] w (RV (.int .i64 (nJ (p-q))) w):=by
 have H1:=hid (fun w' hg=>ajc p q hp hq h9 w' hg)
 have H2:=hid (fun w'=>ajb (p-q) w')
 unfold RV at H1 H2
 clear hp hq h9
 generalize tx (p-q)=r at *
 generalize tx p=tp at *
 generalize tx q=tq at *
 generalize nJ (p-q)=sg at *
 go_enter Tryz.func26,Tryz.ntmps26
 go_wp2_with fail
 refine (H1.out _ hw).mono ?_
 rintro e w1 ⟨rfl,hw1⟩
 have aci:=hw1
 go_wp2_with fail
 refine (H2.out _).mono ?_
 rintro e w2 ⟨rfl,hw2⟩
 have hbw2:=aci.trans (hw2.mono aci.size)
 go_wp2
 go_ret
 exact ⟨rfl,hbw2⟩
theorem aix (a b x:Rat) (ha:Mid a) (hb:Mid b) (hx:Mid x) (ha9:(tx (-a)).size≤9) (Td:(tx (-b)).size≤9) (w:World) (hw:Good w) :
  Calls Tryz.prog 39 #[.string (tx a),.string (tx b),.string (tx x)] w (RV (.bool (aiE a b x)) w):=by
 have C1:=hid (fun w' (hg:Good w')=>aiR x a hx ha ha9 w' hg)
 have C2:=hid (fun w' (hg:Good w')=>aiR x b hx hb Td w' hg)
 unfold RV at C1 C2
 clear ha hb hx ha9 Td
 unfold aiE
 have g1:=ah4 (x-a)
 have g2:=ah4 (x-b)
 generalize nJ (x-a)=g at *
 generalize nJ (x-b)=k at *
 generalize tx a=ta at *
 generalize tx b=tb at *
 generalize tx x=tz at *
 have hz:IntKind.i64.wrap (g*k)=g*k:=IntWalk.i64_in _ (by
  rcases (show g = -1∨g=0∨g=1 by omega) with h | h | h <;> rcases (show k = -1∨k=0∨k=1 by omega) with h' | h' | h' <;> subst h <;> subst h' <;> decide)
 go_enter Tryz.func39,Tryz.ntmps39
 go_wp2_with fail
 refine (C1.out _ hw).mono ?_
 rintro e v1 ⟨rfl,hv1⟩
 have rC:=hv1
 go_wp2_with fail
 refine (C2.out _ (hw.below rC)).mono ?_
 rintro e v2 ⟨rfl,hv2⟩
 have tV:=rC.trans (hv2.mono rC.size)
 go_wp2
 go_ret
 exact ⟨rfl,tV⟩
end Go.Proofs.YtglncfkoohgdaaaGreatDoor
