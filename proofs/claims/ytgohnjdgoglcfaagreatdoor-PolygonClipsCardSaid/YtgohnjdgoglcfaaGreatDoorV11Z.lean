import Derived.Test.YtgohnjdgoglcfaaGreatDoorV10Z
import Derived.Test.YtgohnjdgoglcfaaGreatDoorV19Z
import Derived.Test.YtgohnjdgoglcfaaGreatDoorU9Z
import Derived.Test.YtgohnjdgoglcfaaGreatDoorV1Z
set_option maxRecDepth 100000
set_option maxHeartbeats 4000000
namespace Go.Proofs.YtgohnjdgoglcfaaGreatDoor
open Go.RowKit Go.Shelf
open Go.Lib (decDigits itoa nDigits)
open Go.Lib (hid)
theorem pg_split_bad (v:Value) (P:List QP) (hP:Poly P) (h60:P.length≤60) (hz:∀ p∈P,OkB p.1∧OkB p.2) (a b c:ByteArray) (hs:a.size≤4000000∧b.size≤4000000∧c.size≤4000000) (hno:lineErr a b c≠0) (w:World) (hw:Good w) (hv:Pts w v P) :
  Calls Tryz.prog 35 #[v,lnV a b c] w (RV (.tuple #[.slice none 0 0,.slice none 0 0,.int .i64 (lineErr a b c)]) w):=by
 have HLE:=hid (fun w' (hg:Good w') (hp:Pts w' v P)=>pg_checkLine v P hP h60 hz a b c hs.1 hs.2.1 hs.2.2 w' hg hp)
 unfold RV at HLE
 have HV:=hid hv
 have hne:(lineErr a b c == 0)=false:=beq_eq_false_iff_ne.2 hno
 have hne2:(lineErr a b c != 0)=true:=by simpa using hno
 clear hv hz hP hs hno
 unfold lnV at *
 generalize lineErr a b c=er at *
 obtain ⟨wA,hwA⟩ : ∃ wA,wA=((w.alloc (lnBox a b c)).alloc (slBox (.slice none 0 0))).alloc (slBox (.slice none 0 0)):=⟨_,rfl⟩
 have HWA:=hid hwA
 obtain ⟨hbA,lA,hlA,hoA,htA⟩:=boxes_split hwA
 unfold lnBox slBox at HWA
 obtain ⟨l0,l1,l2⟩:=three_cells hlA
 clear hwA
 go_enter Tryz.func35,Tryz.ntmps35
 go_upto_region 1 with fail
 rw [←HWA.out]
 go_wp2_with fail
 refine (HLE.out _ (hw.below hbA) (HV.out.below hbA)).mono ?_
 rintro e w1 ⟨rfl,hb1⟩
 have hb1w:=hbA.trans (hb1.mono hbA.size)
 have ho1:=(hb1.block _ (lt_of_blk hoA)).trans hoA
 have ht1:=(hb1.block _ (lt_of_blk htA)).trans htA
 obtain ⟨q0,q1⟩:=one_cell ho1
 obtain ⟨q2,q3⟩:=one_cell ht1
 go_wp2_with fail
 have hoG:(w1.setCell ⟨w.heap.size+1,0,none⟩ (.slice none 0 0)).heap[w.heap.size+1]?=some (slBox (.slice none 0 0)):=set_block _ ho1
 have htG:(w1.setCell ⟨w.heap.size+1,0,none⟩ (.slice none 0 0)).heap[w.heap.size+1+1]?=some (slBox (.slice none 0 0)):=by rw [Below.heap_setCell _ _ _ _ (by show w.heap.size+1+1≠w.heap.size+1;omega)];exact ht1
 have htH:((w1.setCell ⟨w.heap.size+1,0,none⟩ (.slice none 0 0)).setCell ⟨w.heap.size+1+1,0,none⟩ (.slice none 0 0)).heap[w.heap.size+1+1]?=some (slBox (.slice none 0 0)):=set_block _ htG
 have hoH:((w1.setCell ⟨w.heap.size+1,0,none⟩ (.slice none 0 0)).setCell ⟨w.heap.size+1+1,0,none⟩ (.slice none 0 0)).heap[w.heap.size+1]?=some (slBox (.slice none 0 0)):=by rw [Below.heap_setCell _ _ _ _ (by show w.heap.size+1≠w.heap.size+1+1;omega)];exact hoG
 have hbH:=(hb1w.setCell (p:=⟨w.heap.size+1,0,none⟩) (by show w.heap.size≤w.heap.size+1;omega) (.slice none 0 0)).setCell (p:=⟨w.heap.size+1+1,0,none⟩) (by show w.heap.size≤w.heap.size+1+1;omega) (.slice none 0 0)
 clear q0 q1 q2 q3
 obtain ⟨q0,_⟩:=one_cell hoH
 obtain ⟨q2,_⟩:=one_cell htH
 refine bodyPost_ret (v:=.tuple #[.slice none 0 0,.slice none 0 0,.int .i64 er]) (by simp [results,Tryz.results35,go_sem,q0,q2]) rfl ⟨rfl,hbH⟩
theorem law_right (a b c:ByteArray) (hs:a.size≤4000000∧b.size≤4000000∧c.size≤4000000) (w:World) (hw:Good w) :
  Calls Tryz.prog 36 #[lnV a b c] w (RV (.int .i64 (lineErr a b c)) w):=by
 have HA:=hid (fun w' (hg:Good w')=>show Calls _ _ _ _ (RV (.bool (okS a)) w') from r_right a hs.1 w' hg)
 have HB:=hid (fun w' (hg:Good w')=>show Calls _ _ _ _ (RV (.bool (okS b)) w') from r_right b hs.2.1 w' hg)
 have HC:=hid (fun w' (hg:Good w')=>show Calls _ _ _ _ (RV (.bool (okS c)) w') from r_right c hs.2.2 w' hg)
 unfold RV at HA HB HC
 obtain ⟨wA,hwA⟩ : ∃ wA,wA=w.alloc (Obj.cells #[.string a,.string b,.string c] 64):=⟨_,rfl⟩
 have HWA:=hid hwA
 obtain ⟨hb0,hx⟩:=box_any hwA
 have HX:=hid hx
 clear hwA hx
 unfold lnV
 have HL:=hid (show lineErr a b c=if okS a=true∧okS b=true∧okS c=true then (if (a.toList == [48])=true∧(b.toList == [48])=true then 17 else 0) else 2 from rfl)
 generalize lineErr a b c=er at *
 rcases Bool.eq_false_or_eq_true (okS a) with ka | ka
 ·rcases Bool.eq_false_or_eq_true (okS b) with kb | kb
  ·rcases Bool.eq_false_or_eq_true (okS c) with kc | kc
   ·rw [ka] at HA
    rw [kb] at HB
    rw [kc] at HC
    rw [ka,kb,kc] at HL
    rcases Bool.eq_false_or_eq_true (a.toList == [48]) with za | za
    ·rcases Bool.eq_false_or_eq_true (b.toList == [48]) with zb | zb
     ·have HE:=hid (show (17:Int)=er by rw [HL.out,if_pos ⟨rfl,rfl,rfl⟩,if_pos ⟨za,zb⟩])
      clear HL ka kb kc
      go_enter Tryz.func36,Tryz.ntmps36
      go_upto_region 1 with fail
      rw [←HWA.out]
      obtain ⟨l0,l1,l2⟩:=three_cells HX.out
      go_wp2_with fail
      refine (HA.out _ (hw.below hb0)).mono ?_
      rintro e w1 ⟨rfl,g0⟩
      have hb1:=hb0.trans (g0.mono hb0.size)
      replace HX:=hid ((g0.block _ (lt_of_blk HX.out)).trans HX.out)
      clear l0 l1 l2
      obtain ⟨l0,l1,l2⟩:=three_cells HX.out
      go_wp2_with fail
      refine (HB.out _ (hw.below hb1)).mono ?_
      rintro e w2 ⟨rfl,g1⟩
      have hb2:=hb1.trans (g1.mono hb1.size)
      replace HX:=hid ((g1.block _ (lt_of_blk HX.out)).trans HX.out)
      clear l0 l1 l2
      obtain ⟨l0,l1,l2⟩:=three_cells HX.out
      go_wp2_with fail
      refine (HC.out _ (hw.below hb2)).mono ?_
      rintro e w3 ⟨rfl,g2⟩
      have hb3:=hb2.trans (g2.mono hb2.size)
      replace HX:=hid ((g2.block _ (lt_of_blk HX.out)).trans HX.out)
      clear l0 l1 l2
      obtain ⟨l0,l1,l2⟩:=three_cells HX.out
      go_wp2
      go_ret
      exact ⟨ret_int HE.out,hb3⟩
     ·have HE:=hid (show (0:Int)=er by rw [HL.out,if_pos ⟨rfl,rfl,rfl⟩,if_neg (by rw [zb];exact fun h=>Bool.noConfusion h.2)])
      clear HL ka kb kc
      go_enter Tryz.func36,Tryz.ntmps36
      go_upto_region 1 with fail
      rw [←HWA.out]
      obtain ⟨l0,l1,l2⟩:=three_cells HX.out
      go_wp2_with fail
      refine (HA.out _ (hw.below hb0)).mono ?_
      rintro e w1 ⟨rfl,g0⟩
      have hb1:=hb0.trans (g0.mono hb0.size)
      replace HX:=hid ((g0.block _ (lt_of_blk HX.out)).trans HX.out)
      clear l0 l1 l2
      obtain ⟨l0,l1,l2⟩:=three_cells HX.out
      go_wp2_with fail
      refine (HB.out _ (hw.below hb1)).mono ?_
      rintro e w2 ⟨rfl,g1⟩
      have hb2:=hb1.trans (g1.mono hb1.size)
      replace HX:=hid ((g1.block _ (lt_of_blk HX.out)).trans HX.out)
      clear l0 l1 l2
      obtain ⟨l0,l1,l2⟩:=three_cells HX.out
      go_wp2_with fail
      refine (HC.out _ (hw.below hb2)).mono ?_
      rintro e w3 ⟨rfl,g2⟩
      have hb3:=hb2.trans (g2.mono hb2.size)
      replace HX:=hid ((g2.block _ (lt_of_blk HX.out)).trans HX.out)
      clear l0 l1 l2
      obtain ⟨l0,l1,l2⟩:=three_cells HX.out
      go_wp2
      go_ret
      exact ⟨ret_int HE.out,hb3⟩
    ·have HE:=hid (show (0:Int)=er by rw [HL.out,if_pos ⟨rfl,rfl,rfl⟩,if_neg (by rw [za];exact fun h=>Bool.noConfusion h.1)])
     clear HL ka kb kc
     go_enter Tryz.func36,Tryz.ntmps36
     go_upto_region 1 with fail
     rw [←HWA.out]
     obtain ⟨l0,l1,l2⟩:=three_cells HX.out
     go_wp2_with fail
     refine (HA.out _ (hw.below hb0)).mono ?_
     rintro e w1 ⟨rfl,g0⟩
     have hb1:=hb0.trans (g0.mono hb0.size)
     replace HX:=hid ((g0.block _ (lt_of_blk HX.out)).trans HX.out)
     clear l0 l1 l2
     obtain ⟨l0,l1,l2⟩:=three_cells HX.out
     go_wp2_with fail
     refine (HB.out _ (hw.below hb1)).mono ?_
     rintro e w2 ⟨rfl,g1⟩
     have hb2:=hb1.trans (g1.mono hb1.size)
     replace HX:=hid ((g1.block _ (lt_of_blk HX.out)).trans HX.out)
     clear l0 l1 l2
     obtain ⟨l0,l1,l2⟩:=three_cells HX.out
     go_wp2_with fail
     refine (HC.out _ (hw.below hb2)).mono ?_
     rintro e w3 ⟨rfl,g2⟩
     have hb3:=hb2.trans (g2.mono hb2.size)
     replace HX:=hid ((g2.block _ (lt_of_blk HX.out)).trans HX.out)
     clear l0 l1 l2
     obtain ⟨l0,l1,l2⟩:=three_cells HX.out
     go_wp2
     go_ret
     exact ⟨ret_int HE.out,hb3⟩
   ·have HE:=hid (show (2:Int)=er by rw [HL.out,if_neg (by rw [kc];exact fun h=>Bool.noConfusion h.2.2)])
    rw [ka] at HA
    rw [kb] at HB
    rw [kc] at HC
    clear HL ka kb kc
    go_enter Tryz.func36,Tryz.ntmps36
    go_upto_region 1 with fail
    rw [←HWA.out]
    obtain ⟨l0,l1,l2⟩:=three_cells HX.out
    go_wp2_with fail
    refine (HA.out _ (hw.below hb0)).mono ?_
    rintro e w1 ⟨rfl,g0⟩
    have hb1:=hb0.trans (g0.mono hb0.size)
    replace HX:=hid ((g0.block _ (lt_of_blk HX.out)).trans HX.out)
    clear l0 l1 l2
    obtain ⟨l0,l1,l2⟩:=three_cells HX.out
    go_wp2_with fail
    refine (HB.out _ (hw.below hb1)).mono ?_
    rintro e w2 ⟨rfl,g1⟩
    have hb2:=hb1.trans (g1.mono hb1.size)
    replace HX:=hid ((g1.block _ (lt_of_blk HX.out)).trans HX.out)
    clear l0 l1 l2
    obtain ⟨l0,l1,l2⟩:=three_cells HX.out
    go_wp2_with fail
    refine (HC.out _ (hw.below hb2)).mono ?_
    rintro e w3 ⟨rfl,g2⟩
    have hb3:=hb2.trans (g2.mono hb2.size)
    replace HX:=hid ((g2.block _ (lt_of_blk HX.out)).trans HX.out)
    clear l0 l1 l2
    obtain ⟨l0,l1,l2⟩:=three_cells HX.out
    go_wp2
    go_ret
    exact ⟨ret_int HE.out,hb3⟩
  ·have HE:=hid (show (2:Int)=er by rw [HL.out,if_neg (by rw [kb];exact fun h=>Bool.noConfusion h.2.1)])
   rw [ka] at HA
   rw [kb] at HB
   clear HL ka kb
   go_enter Tryz.func36,Tryz.ntmps36
   go_upto_region 1 with fail
   rw [←HWA.out]
   obtain ⟨l0,l1,l2⟩:=three_cells HX.out
   go_wp2_with fail
   refine (HA.out _ (hw.below hb0)).mono ?_
   rintro e w1 ⟨rfl,g0⟩
   have hb1:=hb0.trans (g0.mono hb0.size)
   replace HX:=hid ((g0.block _ (lt_of_blk HX.out)).trans HX.out)
   clear l0 l1 l2
   obtain ⟨l0,l1,l2⟩:=three_cells HX.out
   go_wp2_with fail
   refine (HB.out _ (hw.below hb1)).mono ?_
   rintro e w2 ⟨rfl,g1⟩
   have hb2:=hb1.trans (g1.mono hb1.size)
   replace HX:=hid ((g1.block _ (lt_of_blk HX.out)).trans HX.out)
   clear l0 l1 l2
   obtain ⟨l0,l1,l2⟩:=three_cells HX.out
   go_wp2
   go_ret
   exact ⟨ret_int HE.out,hb2⟩
 ·have HE:=hid (show (2:Int)=er by rw [HL.out,if_neg (by rw [ka];exact fun h=>Bool.noConfusion h.1)])
  rw [ka] at HA
  clear HL ka
  go_enter Tryz.func36,Tryz.ntmps36
  go_upto_region 1 with fail
  rw [←HWA.out]
  obtain ⟨l0,l1,l2⟩:=three_cells HX.out
  go_wp2_with fail
  refine (HA.out _ (hw.below hb0)).mono ?_
  rintro e w1 ⟨rfl,g0⟩
  have hb1:=hb0.trans (g0.mono hb0.size)
  replace HX:=hid ((g0.block _ (lt_of_blk HX.out)).trans HX.out)
  clear l0 l1 l2
  obtain ⟨l0,l1,l2⟩:=three_cells HX.out
  go_wp2
  go_ret
  exact ⟨ret_int HE.out,hb1⟩
end Go.Proofs.YtgohnjdgoglcfaaGreatDoor
