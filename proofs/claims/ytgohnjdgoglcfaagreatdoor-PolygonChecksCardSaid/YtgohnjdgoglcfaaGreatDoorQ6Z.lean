import Derived.Test.YtgohnjdgoglcfaaGreatDoorQ4Z
set_option maxRecDepth 100000
set_option maxHeartbeats 1000000
namespace Go.Proofs.YtgohnjdgoglcfaaGreatDoor
open Go.Lib (decDigits itoa nDigits compareBytes)
open Go.RowKit Go.Sort
open Go.Lib (hid)
def MadePost (z:Int) (w:World) (e:Ending) (w':World):Prop:=∃ r:ByteArray,e=.returned (.string r)∧IsI r z∧Below w.heap.size w w'
def sgnd (minus:Bool) (n:Nat):Int:=if minus then -(n:Int) else (n:Int)
theorem q_made (minus:Bool) (v:Value) (n:Nat) (hl:(p4 n).length≤100000000) (w:World) (hw:Good w) (hv:N64s w v (p4 n)):Calls Tryz.prog 136 #[.bool minus,v] w (MadePost (sgnd minus n) w):=by
 have HC:=hid (q_cut v (p4 n) (p4_lt n) w hv)
 rw [v4_p4] at HC
 have HG:=hid (fun (u:Value) (h:N64s w u (p4 n))=>q_give u n hl w hw h)
 unfold GivePost at HG
 clear hv
 go_enter Tryz.func136,Tryz.ntmps136
 go_wp2_with fail
 refine HC.out.mono ?_
 rintro e w1 ⟨u,rfl,hu,rfl⟩
 have HU:=hid (HG.out u hu)
 obtain ⟨p,c,rfl,hc,hm⟩:=hu.slice
 have hlz:(p4 n).length=0↔n=0:=by rw [List.length_eq_zero_iff,p4_eq_nil]
 by_cases h0:minus=true∧n≠0
 ·obtain ⟨rfl,hn⟩:=h0
  have hp:decide ((0:Int)<((p4 n).length:Int))=true:=decide_eq_true (by have:¬ (p4 n).length=0:=fun h=>hn (hlz.1 h);omega)
  have hp2:decide (0<(p4 n).length)=true:=decide_eq_true (by have:¬ (p4 n).length=0:=fun h=>hn (hlz.1 h);omega)
  have hp3:0<(p4 n).length:=of_decide_eq_true hp2
  have HN:=hid hn
  have HSZ:=hid (nDigits_drop (n:=n) (j:=0))
  clear hlz hn hu
  go_wp2_with fail
  refine HU.out.mono ?_
  rintro e w2 ⟨r,rfl,hr,hb⟩
  have hrs:r.size≤400000001:=by
   have h1:=hr.size
   have h2:=HSZ.out
   rw [itoa_nat,decDigits_len] at h1
   rw [List.drop_zero,v4_p4] at h2
   omega
  have HR:=hid hr
  clear hr
  go_wp2
  go_ret
  exact ⟨_,rfl,neg_nonneg_text HR.out (by have:=HN.out;omega),hb⟩
 ·have HS:=hid (show sgnd minus n=(n:Int) by
   unfold sgnd
   by_cases hm:minus=true
   ·have:n=0:=by
     by_cases hn:n=0
     ·exact hn
     ·exact absurd ⟨hm,hn⟩ h0
    rw [if_pos hm,this];rfl
   ·rw [if_neg hm])
  cases minus
  ·clear hlz h0 hu
   go_wp2_with fail
   refine HU.out.mono ?_
   rintro e w2 ⟨r,rfl,hr,hb⟩
   have HR:=hid hr
   clear hr
   go_wp2
   go_ret
   exact ⟨_,rfl,by rw [HS.out];exact HR.out,hb⟩
  ·have hn:n=0:=by
    by_cases hn:n=0
    ·exact hn
    ·exact absurd ⟨rfl,hn⟩ h0
   have hp:decide ((0:Int)<((p4 n).length:Int))=false:=decide_eq_false (by have:=hlz.2 hn;omega)
   have hp2:decide (0<(p4 n).length)=false:=decide_eq_false (by have:=hlz.2 hn;omega)
   have hp3:¬ 0<(p4 n).length:=of_decide_eq_false hp2
   clear hlz h0 hn hu
   go_wp2_with fail
   refine HU.out.mono ?_
   rintro e w2 ⟨r,rfl,hr,hb⟩
   have HR:=hid hr
   clear hr
   go_wp2
   go_ret
   exact ⟨_,rfl,by rw [HS.out];exact HR.out,hb⟩
theorem seg4_le_pow {l:List UInt8} (hd:∀ c∈l,isDig c=true) {j:Nat} (h:j≤17):seg4 l 0 j<100000000000000000:=by
 unfold seg4
 have h1:=natOf_lt (l:=(l.drop 0).take (j-0)) (fun c hc=>hd c (List.mem_of_mem_drop (List.mem_of_mem_take hc)))
 have h2:((l.drop 0).take (j-0)).length≤17:=by rw [List.length_take];omega
 exact Nat.lt_of_lt_of_le h1 (Nat.pow_le_pow_right (n:=10) (by decide) h2)
theorem seg4_all (l:List UInt8):seg4 l 0 l.length=natOf l:=by
 unfold seg4
 rw [List.drop_zero,Nat.sub_zero,List.take_length]
theorem small_guard {b:Int} (h0:48≤b) (h1:b≤57):(-9223372036854775808+(b-48)).tdiv 10 ≤ -922337203685477579 ∧ -922337203685477580≤(-9223372036854775808+(b-48)).tdiv 10:=by
 rw [show (-9223372036854775808+(b-48)) = -(9223372036854775808-(b-48)) by omega,Int.neg_tdiv,Int.tdiv_eq_ediv_of_nonneg (by omega)]
 omega
theorem q_Small (s:ByteArray) (n:Int) (h:IsI s n) (hn:n.natAbs<10 ^ 18) (w:World) :
  Calls Tryz.prog 139 #[.string s] w fun e w'=>e=.returned (.tuple #[.int .i64 n,.bool true])∧Below w.heap.size w w':=by
 have HS:=hid (fun W=>q_Split s n h W)
 unfold SplitPost at HS
 have HN:=hid hn
 clear h hn
 go_enter Tryz.func139,Tryz.ntmps139
 go_wp2_with fail
 refine (HS.out _).mono ?_
 rintro e w' ⟨r,rfl,hr,hbr⟩
 have hrl:r.data.toList=decDigits n.natAbs:=by rw [hr,itoa_nat]
 have hsz:r.size≤18:=by
  have h1:=hr.size
  rw [itoa_nat] at h1
  rw [h1]
  rw [decDigits_len];exact nDigits_le_of_lt HN.out (by decide)
 have HDIG:=hid (show ∀ c∈r.data.toList,isDig c=true by rw [hrl];exact decDigits_dig _)
 have HV:=hid (show seg4 r.data.toList 0 r.size=n.natAbs by rw [Lib.size_eq,seg4_all,hrl];exact natOf_decDigits _)
 have hm:=HN.out
 clear hr hrl
 go_wp2
 go_loop [6,7,8] (fun nv iv _=>∃ j:Nat,j≤r.size∧iv=.int .i64 (j:Int)∧nv=.int .i64 (-((seg4 r.data.toList 0 j:Nat):Int))) (fun _ iv _=>r.size-(intOf iv).toNat)
 case atStart=>exact ⟨0,Nat.zero_le _,rfl,by rw [seg4_start];rfl⟩
 case round =>
  obtain ⟨j,hj,rfl,rfl⟩:=hrel
  by_cases hjs:j<r.size
  ·obtain ⟨b1,b2,b3⟩:=seg4_byte HDIG.out (Nat.zero_le j) hjs
   have hs9:=seg4_le_pow HDIG.out (j:=j) (by omega)
   obtain ⟨g1,g2⟩:=small_guard b1 b2
   have HB:=hid b3
   clear b3
   generalize seg4 r.data.toList 0 j=y at *
   go_wp2
   go_round
   case rel=>exact ⟨j+1,by omega,congrArg (Value.int .i64) (by omega),congrArg (Value.int .i64) (by have:=HB.out;omega)⟩
   case measure =>
    show r.size-((j:Int)+1).toNat<r.size-((j:Int)).toNat
    omega
  ·obtain rfl:j=r.size:=by omega
   have HE:=hid HV.out
   have hv0:=HV.out
   generalize seg4 r.data.toList 0 r.size=y at *
   subst hv0
   by_cases hneg:n<0
   ·have HD:=hid hneg
    rw [decide_eq_true hneg] at *
    go_wp2
    go_ret2
    exact ⟨by rw [show -((n.natAbs:Nat):Int)=n by have:=HD.out;omega];rfl,hbr⟩
   ·rw [decide_eq_false hneg] at *
    have HD:=hid hneg
    go_wp2
    go_ret2
    exact ⟨by rw [show ((n.natAbs:Nat):Int)=n by have:=HD.out;omega];rfl,hbr⟩
theorem q_brief (s:ByteArray) (n:Int) (h:IsI s n) (w:World) :
  Calls Tryz.prog 133 #[.string s] w fun e w'=>(e=.returned (.tuple #[.int .i64 n,.bool true])∧n.natAbs<10 ^ 17∨e=.returned (.tuple #[.int .i64 0,.bool false]))∧Below w.heap.size w w':=by
 have HS:=hid (fun W=>q_Split s n h W)
 unfold SplitPost at HS
 have HSM:=hid (fun hn W=>q_Small s n h hn W)
 clear h
 go_enter Tryz.func133,Tryz.ntmps133
 go_wp2_with fail
 refine (HS.out _).mono ?_
 rintro e w1 ⟨r,rfl,hr,hbr⟩
 have HR:=hid hr
 clear hr
 by_cases hl:17<r.size
 ·go_wp2
  go_ret2
  exact ⟨.inr rfl,hbr⟩
 ·have HL:=hid (show n.natAbs<10 ^ 17 from natAbs_lt_of_itoa_length (n:=(n.natAbs:Int)) (by rw [←HR.out.size];omega))
  go_wp2_with fail
  refine (HSM.out (Nat.lt_of_lt_of_le HL.out (by decide)) _).mono ?_
  rintro e w2 ⟨rfl,hb2⟩
  go_wp2
  go_ret2
  exact ⟨.inl ⟨rfl,HL.out⟩,hbr.trans (hb2.mono hbr.size)⟩
end Go.Proofs.YtgohnjdgoglcfaaGreatDoor
