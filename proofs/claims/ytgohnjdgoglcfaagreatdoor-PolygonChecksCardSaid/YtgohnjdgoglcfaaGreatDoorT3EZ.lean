import Derived.Test.YtgohnjdgoglcfaaGreatDoorT3Z
set_option maxRecDepth 100000
set_option maxHeartbeats 4000000
namespace Go.Proofs.YtgohnjdgoglcfaaGreatDoor
open Go.RowKit Go.Shelf
open Go.Lib (decDigits itoa nDigits)
open Go.Lib (hid)
theorem slices_equalP (hT:NeqT 31) (v u:Value) (L M:List Pair) (w:World) (hv:Pairs w v L) (hu:Pairs w u M) :
  Calls Tryz.prog 100 #[v,u] w fun e w'=>e=.returned (.bool (decide (L=M)))∧Below w.heap.size w w':=by
 obtain ⟨p,c,rfl,hc,hm,hx⟩:=hv
 obtain ⟨p',c',rfl,hc',hm',hx'⟩:=hu
 have hmx:L.length≤9223372036854775807:=by unfold maxLen at hm;omega
 by_cases hlen:L.length=M.length
 ·rw [←hlen] at hc' ⊢
  have hst:EqLoop L M 0:=⟨Nat.zero_le _,by simp⟩
  have HLEN:=hid hlen
  have hbw:=Below.refl w.heap.size w
  have hguard:=hT.guard
  clear hlen
  go_enter Tryz.func100,Tryz.ntmps100
  go_wp2_with fail
  go_loopw [13,5,4] (fun iv _ rv wr=>∃ k:Nat,EqLoop L M k∧iv=.int .i64 (k:Int)∧rv=.bool false∧Below w.heap.size w wr) (fun iv _ _ _=>L.length-(intOf iv).toNat)
  case atStart=>exact ⟨0,hst,rfl,rfl,hbw⟩
  case round =>
   obtain ⟨k,hst,rfl,rfl,hbr⟩:=hrel
   by_cases hk:k<L.length
   ·obtain ⟨b,off,rfl,hbl,hcell⟩:=hx (by omega)
    obtain ⟨b',off',rfl,hbl',hcell'⟩:=hx' (by rw [←HLEN.out];omega)
    have hkM:k<M.length:=by rw [←HLEN.out];exact hk
    obtain ⟨c0,c1⟩:=hcell k hk
    obtain ⟨d0,d1⟩:=hcell' k hkM
    rw [←hbr.cell (p:=⟨b,off+k*2,none⟩) hbl] at c0
    rw [←hbr.cell (p:=⟨b,off+k*2+1,none⟩) hbl] at c1
    rw [←hbr.cell (p:=⟨b',off'+k*2,none⟩) hbl'] at d0
    rw [←hbr.cell (p:=⟨b',off'+k*2+1,none⟩) hbl'] at d1
    have hkn:decide ((k:Int)<(L.length:Int))=true:=decide_eq_true (by omega)
    have i1:(0:Int)≤(k:Int):=by omega
    have i2:(k:Int)<(L.length:Int):=by omega
    have HST:=hid hst
    have hneq:=hT.neq L[k] M[k]
    by_cases he:L[k]=M[k]
    ·have hF:EqLoop L M (k+1):=⟨hk,take_eq_succ hk hkM hst.2 he⟩
     have HF:=hid hF
     rw [decide_eq_true he] at hneq
     clear hF he hst
     go_wp2_with fail
     go_quiet (fail)
     go_wp2
     refine ⟨⟨k+1,HF.out,int_succ k,rfl,hbr.trans ((below_drewN wr _).mono hbr.size)⟩,?_⟩
     show L.length-((k:Int)+1).toNat<L.length-((k:Int)).toNat
     omega
    ·have HF:=hid (show decide (L=M)=false from decide_eq_false (ne_of_getElem hk hkM he))
     rw [decide_eq_false he] at hneq
     clear he hst
     go_wp2_with fail
     go_quiet (fail)
     go_wp2
     go_ret
     exact ⟨ret_bool HF.out.symm,hbr.trans ((below_drewN wr _).mono hbr.size)⟩
   ·have hkn:decide ((k:Int)<(L.length:Int))=false:=decide_eq_false (by omega)
    obtain rfl:k=L.length:=by have:=hst.1;omega
    have HF:=hid (show decide (L=M)=true from decide_eq_true (by
     have:=hst.2
     rw [List.take_length,HLEN.out,List.take_length] at this
     exact this))
    clear hst
    go_wp2
    go_ret
    exact ⟨ret_bool HF.out.symm,hbr⟩
 ·have HF:=hid (show decide (L=M)=false from decide_eq_false (fun h=>hlen (by rw [h])))
  have e1:((L.length:Int) != (M.length:Int))=true:=by simpa using (fun h=>hlen (by omega):¬ (L.length:Int)=(M.length:Int))
  have e2:((L.length:Int) == (M.length:Int))=false:=by simpa using (fun h=>hlen (by omega):¬ (L.length:Int)=(M.length:Int))
  clear hx hx'
  generalize L.length=n at hc e1 e2 hlen ⊢
  generalize M.length=m at hc' e1 e2 hlen ⊢
  clear hlen
  go_enter Tryz.func100,Tryz.ntmps100
  go_wp2
  go_ret
  exact ⟨ret_bool HF.out.symm,Below.refl _ _⟩
theorem pg_equal (hT:NeqT 31) (v u:Value) (L M:List Pair) (w:World) (hv:Pairs w v L) (hu:Pairs w u M) :
  Calls Tryz.prog 48 #[v,u] w fun e w'=>e=.returned (.bool (decide (L=M)))∧Below w.heap.size w w':=by
 have h:=slices_equalP hT v u L M w hv hu
 have H:=hid h
 clear h
 go_enter Tryz.func48,Tryz.ntmps48
 go_wp2_with fail
 refine H.out.mono ?_
 rintro e w1 ⟨rfl,hb1⟩
 go_wp2
 go_ret
 exact ⟨rfl,hb1⟩
end Go.Proofs.YtgohnjdgoglcfaaGreatDoor
