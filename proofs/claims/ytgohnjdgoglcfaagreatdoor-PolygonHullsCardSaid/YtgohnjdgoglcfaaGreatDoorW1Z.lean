import Derived.Test.YtgohnjdgoglcfaaGreatDoorV2Z
import Derived.Test.YtgohnjdgoglcfaaGreatDoorV3Z
import Derived.Test.YtgohnjdgoglcfaaGreatDoorV4Z
import Derived.Test.YtgohnjdgoglcfaaGreatDoorV5Z
namespace Go.Proofs.YtgohnjdgoglcfaaGreatDoor
open Go.RowKit Go.Shelf
open Go.Lib (decDigits itoa nDigits)
theorem pairs_empty (w:World) (p:Option Addr) (c:Nat) (hc:c≤maxLen):Pairs w (.slice p 0 c) []:=⟨p,c,rfl,Nat.zero_le _,hc,fun h=>absurd h (Nat.lt_irrefl _)⟩
theorem pairs_take {w:World} {b off n c k:Nat} {L:List Pair} (h:Pairs w (.slice (some ⟨b,off,none⟩) n c) L) (h0:0<L.length) (hk:k≤L.length):Pairs w (.slice (some ⟨b,off,none⟩) k c) (L.take k):=by
 obtain ⟨p,c',h1,h2,h3,h4⟩:=h
 cases h1
 obtain ⟨b',off',e1,e2,e3⟩:=h4 h0
 cases e1
 refine ⟨some ⟨b,off,none⟩,c,by simp;omega,by simp;omega,h3,fun _=>⟨b,off,rfl,e2,fun i hi=>?_⟩⟩
 have hi':i<L.length:=by simp at hi;omega
 rw [List.getElem_take]
 exact e3 i hi'
theorem pairs_drop {w:World} {b off n c k:Nat} {L:List Pair} (h:Pairs w (.slice (some ⟨b,off,none⟩) n c) L) (h0:0<L.length) (hk:k≤L.length):Pairs w (.slice (some ⟨b,off+k*2,none⟩) (L.length-k) (c-k)) (L.drop k):=by
 obtain ⟨p,c',h1,h2,h3,h4⟩:=h
 cases h1
 obtain ⟨b',off',e1,e2,e3⟩:=h4 h0
 cases e1
 refine ⟨some ⟨b,off+k*2,none⟩,c-k,by simp,by simp;omega,by omega,fun _=>⟨b,off+k*2,rfl,e2,fun i hi=>?_⟩⟩
 have hi':k+i<L.length:=by simp at hi;omega
 rw [List.getElem_drop]
 have:=e3 (k+i) hi'
 rw [show off+(k+i)*2=off+k*2+i*2 by omega] at this
 exact this
theorem right_pts {L:List Pair} (h:∀ p∈L,okPr p=true):∃ M:List QP,L=M.map textP∧∀ p∈M,OkB p.1∧OkB p.2:=by
 refine ⟨L.map (fun p=>(ratV p.1,ratV p.2)),?_,?_⟩
 ·rw [List.map_map]
  conv=>lhs;rw [←List.map_id L]
  refine List.map_congr_left fun p hp=>?_
  have:=h p hp
  unfold okPr okS at this
  rw [Bool.and_eq_true] at this
  exact Prod.ext ((ratV_isR this.1).unique (isR_mk _)) ((ratV_isR this.2).unique (isR_mk _))
 ·intro q hq
  obtain ⟨p,hp,rfl⟩:=List.mem_map.1 hq
  have:=h p hp
  unfold okPr okS at this
  rw [Bool.and_eq_true] at this
  have e1:p.1=tx (ratV p.1):=(ratV_isR this.1).unique (isR_mk _)
  have e2:p.2=tx (ratV p.2):=(ratV_isR this.2).unique (isR_mk _)
  exact ⟨by unfold OkB;rw [←e1];exact this.1,by unfold OkB;rw [←e2];exact this.2⟩
theorem short_of_parts {L:List Pair} {k:Nat} (h1:fewB (L.take k)=true) (h2:fewB (L.drop k)=true):∀ p∈L,shortP p:=fun p hp=>by
 rw [←List.take_append_drop k L] at hp
 rcases List.mem_append.1 hp with hp | hp
 ·exact (fewB_true.1 h1).2 p hp
 ·exact (fewB_true.1 h2).2 p hp
theorem rightpoint (a b:ByteArray) (ha:a.size≤4000000) (hb:b.size≤4000000) (w:World) (hw:Good w):Calls Tryz.prog 15 #[.agg #[.string a,.string b]] w (RV (.bool (okPr (a,b))) w):=r5_rightpoint a b ha hb w hw
theorem mk201 (w:World):(Instr.makeSlice 22 (.int .i64 201) (.int .i64 201)).run Tryz.prog w=.ok (.slice (some ⟨w.heap.size,0,none⟩) 201 201) (w.alloc (.cells (Builtin.zeroCells #[Value.string ⟨#[]⟩,.string ⟨#[]⟩] 201) 31)):=by kernel_rfl
theorem Pairs.cap {w:World} {p:Option Addr} {n c:Nat} {L:List Pair} (h:Pairs w (.slice p n c) L):L.length≤c∧c≤maxLen:=by
 obtain ⟨p',c',h1,h2,h3,_⟩:=h
 cases h1
 exact ⟨h2,h3⟩
theorem Pairs.block {w:World} {B off n c:Nat} {L:List Pair} (h:Pairs w (.slice (some ⟨B,off,none⟩) n c) L) (h0:0<L.length):B<w.heap.size∧∀ i (h:i<L.length),w.cell? ⟨B,off+i*2,none⟩=some (.string L[i].1)∧w.cell? ⟨B,off+i*2+1,none⟩=some (.string L[i].2):=by
 obtain ⟨p',c',h1,h2,h3,h4⟩:=h
 cases h1
 obtain ⟨b,o,e1,e2,e3⟩:=h4 h0
 cases e1
 exact ⟨e2,e3⟩
set_option maxRecDepth 100000 in
set_option maxHeartbeats 4000000 in
theorem hulls_many (p:Option Addr) (n c:Nat) (hn:8<n) (w:World) (hw:Good w):Calls Tryz.prog 3 #[.slice p n c] w (RV (.bool true) w):=by
 have HKN:=Lib.hid law_known
 unfold RV at HKN
 go_enter Tryz.func3,Tryz.ntmps3
 go_wp2_with fail
 refine (HKN.out w hw).mono ?_
 rintro e w1 ⟨rfl,hb1⟩
 go_wp2_with fail
 refine (HKN.out w1 (hw.below hb1)).mono ?_
 rintro e w2 ⟨rfl,hb2⟩
 go_wp2
 go_ret
 exact ⟨rfl,hb1.trans (hb2.mono hb1.size)⟩
set_option maxRecDepth 100000 in
set_option maxHeartbeats 4000000 in
theorem hulls_none (p:Option Addr) (c:Nat) (hc:c≤maxLen) (w:World) (hw:Good w):Calls Tryz.prog 3 #[.slice p 0 c] w (RV (.bool true) w):=by
 have HKN:=Lib.hid law_known
 unfold RV at HKN
 have HF1:=Lib.hid (fun w'=>law_few (.slice p 0 c) [] w' (pairs_empty w' p c hc))
 rw [fewB_true.2 ⟨.inl (by decide),fun p hp=>by cases hp⟩] at HF1
 have hmin:min (6:Int) 0=0:=by decide
 unfold maxLen at hc
 go_enter Tryz.func3,Tryz.ntmps3
 go_wp2_with fail
 refine (HKN.out w hw).mono ?_
 rintro e w1 ⟨rfl,hb1⟩
 go_wp2_with fail
 refine (HF1.out w1).mono ?_
 rintro e w2 ⟨rfl,rfl⟩
 go_wp2_with fail
 refine (HF1.out w1).mono ?_
 rintro e w2 ⟨rfl,rfl⟩
 go_wp2_with fail
 refine (pg_hull_none p c w1).mono ?_
 rintro e w2 ⟨rfl,hb2⟩
 have hbw2:=hb1.trans (hb2.mono hb1.size)
 have hmk:=mk201
 go_wp2_with fail
 obtain ⟨w3,hw3⟩ : ∃ w3,w3=w2.alloc (.cells (Builtin.zeroCells #[Value.string ⟨#[]⟩,.string ⟨#[]⟩] 201) 31):=⟨_,rfl⟩
 obtain ⟨hb3,_⟩:=box_any hw3
 have hbw3:=hbw2.trans (hb3.mono hbw2.size)
 rw [←hw3]
 clear hw3 hmk
 refine (pg_hull_much _ 201 201 (by decide) w3).mono ?_
 rintro e w4 ⟨rfl,rfl⟩
 go_wp2_with fail
 refine wp_loop_rounds 1 ?_
 rw [rounds_succ]
 go_wp2_with fail
 refine (r9_hull_none p c w3).mono ?_
 rintro e w4 ⟨rfl,rfl⟩
 go_wp2
 go_ret
 exact ⟨rfl,hbw3⟩
set_option maxRecDepth 100000 in
set_option maxHeartbeats 4000000 in
theorem hulls_few1 (B off c m:Nat) (L:List Pair) (hm:min (6:Int) (L.length:Int)=(m:Int)) (hm1:m≤L.length) (hm2:m≤6) (hn8:L.length≤8) (hnp:0<L.length) (w:World) (hw:Good w) (hv:Pairs w (.slice (some ⟨B,off,none⟩) L.length c) L) (h1:fewB (L.take m)=false):Calls Tryz.prog 3 #[.slice (some ⟨B,off,none⟩) L.length c] w (RV (.bool true) w):=by
 have HKN:=Lib.hid law_known
 unfold RV at HKN
 have HV:=Lib.hid hv
 have hcl:L.length≤c:=hv.cap.1
 have q8:decide ((8:Int)<(L.length:Int))=false:=decide_eq_false (by omega)
 have q9:decide ((L.length:Int)>8)=false:=decide_eq_false (by omega)
 have hcm:c≤9223372036854775807:=by have:=hv.cap.2;unfold maxLen at this;omega
 have HF1:=Lib.hid (fun w' (hb:Below w.heap.size w w')=>law_few _ (L.take m) w' (pairs_take (HV.out.below hb) (by omega) hm1))
 rw [h1] at HF1
 clear h1 hv
 go_enter Tryz.func3,Tryz.ntmps3
 go_wp2_with fail
 refine (HKN.out w hw).mono ?_
 rintro e w1 ⟨rfl,hb1⟩
 go_wp2_with fail
 refine (HF1.out w1 hb1).mono ?_
 rintro e w2 ⟨rfl,rfl⟩
 go_wp2_with fail
 refine (HKN.out w1 (hw.below hb1)).mono ?_
 rintro e w2 ⟨rfl,hb2⟩
 go_wp2
 go_ret
 exact ⟨rfl,hb1.trans (hb2.mono hb1.size)⟩
set_option maxRecDepth 100000 in
set_option maxHeartbeats 4000000 in
theorem hulls_few2_eq (B off c m:Nat) (L:List Pair) (hm:min (6:Int) (L.length:Int)=(m:Int)) (hm1:m≤L.length) (hm2:m≤6) (hn8:L.length≤8) (hnp:0<L.length) (w:World) (hw:Good w) (hv:Pairs w (.slice (some ⟨B,off,none⟩) L.length c) L) (hmc:m=c) (h1:fewB (L.take m)=true) (h2:fewB (L.drop m)=false):Calls Tryz.prog 3 #[.slice (some ⟨B,off,none⟩) L.length c] w (RV (.bool true) w):=by
 have HKN:=Lib.hid law_known
 unfold RV at HKN
 have HV:=Lib.hid hv
 have hcl:L.length≤c:=hv.cap.1
 have q8:decide ((8:Int)<(L.length:Int))=false:=decide_eq_false (by omega)
 have q9:decide ((L.length:Int)>8)=false:=decide_eq_false (by omega)
 have hcm:c≤9223372036854775807:=by have:=hv.cap.2;unfold maxLen at this;omega
 have HF1:=Lib.hid (fun w' (hb:Below w.heap.size w w')=>law_few _ (L.take m) w' (pairs_take (HV.out.below hb) (by omega) hm1))
 subst hmc
 have HF2:=Lib.hid (fun w' (_:Below w.heap.size w w')=>law_few (.slice (some ⟨B,off,none⟩) 0 0) (L.drop m) w' (by rw [List.drop_of_length_le (by omega)];exact pairs_empty _ _ _ (by decide)))
 rw [h1] at HF1
 rw [h2] at HF2
 clear h1 h2 hv
 go_enter Tryz.func3,Tryz.ntmps3
 go_wp2_with fail
 refine (HKN.out w hw).mono ?_
 rintro e w1 ⟨rfl,hb1⟩
 go_wp2_with fail
 refine (HF1.out w1 hb1).mono ?_
 rintro e w2 ⟨rfl,rfl⟩
 go_wp2_with fail
 refine (HF2.out w1 hb1).mono ?_
 rintro e w2 ⟨rfl,rfl⟩
 go_wp2_with fail
 refine (HKN.out w1 (hw.below hb1)).mono ?_
 rintro e w2 ⟨rfl,hb2⟩
 go_wp2
 go_ret
 exact ⟨rfl,hb1.trans (hb2.mono hb1.size)⟩
set_option maxRecDepth 100000 in
set_option maxHeartbeats 4000000 in
theorem hulls_right_eq (B off c m:Nat) (L:List Pair) (hm:min (6:Int) (L.length:Int)=(m:Int)) (hm1:m≤L.length) (hm2:m≤6) (hn8:L.length≤8) (hnp:0<L.length) (w:World) (hw:Good w) (hv:Pairs w (.slice (some ⟨B,off,none⟩) L.length c) L) (hmc:m=c) (h1:fewB (L.take m)=true) (h2:fewB (L.drop m)=true) (hok:∀ p∈L,okPr p=true):Calls Tryz.prog 3 #[.slice (some ⟨B,off,none⟩) L.length c] w (RV (.bool true) w):=by
 have HKN:=Lib.hid law_known
 unfold RV at HKN
 have HV:=Lib.hid hv
 have hcl:L.length≤c:=hv.cap.1
 have q8:decide ((8:Int)<(L.length:Int))=false:=decide_eq_false (by omega)
 have q9:decide ((L.length:Int)>8)=false:=decide_eq_false (by omega)
 have hcm:c≤9223372036854775807:=by have:=hv.cap.2;unfold maxLen at this;omega
 have HF1:=Lib.hid (fun w' (hb:Below w.heap.size w w')=>law_few _ (L.take m) w' (pairs_take (HV.out.below hb) (by omega) hm1))
 subst hmc
 have HF2:=Lib.hid (fun w' (_:Below w.heap.size w w')=>law_few (.slice (some ⟨B,off,none⟩) 0 0) (L.drop m) w' (by rw [List.drop_of_length_le (by omega)];exact pairs_empty _ _ _ (by decide)))
 have HSH:=Lib.hid (short_of_parts (L:=L) (k:=m) h1 h2)
 obtain ⟨hbl,hcell⟩:=hv.block (by omega)
 have HZS:=Lib.hid (fun i (hi:i<L.length)=>And.intro (Nat.le_trans (HSH.out _ (List.getElem_mem hi)).1 (show 40≤4000000 by decide)) (Nat.le_trans (HSH.out _ (List.getElem_mem hi)).2 (show 40≤4000000 by decide)))
 have HCL:=Lib.hid (fun i (hi:i<L.length) wx (h:Below w.heap.size w wx)=>And.intro ((h.cell (p:=⟨B,off+i*2,none⟩) hbl).trans (hcell i hi).1) ((h.cell (p:=⟨B,off+i*2+1,none⟩) hbl).trans (hcell i hi).2))
 rw [h1] at HF1
 rw [h2] at HF2
 clear h1 h2 hcell hv
 obtain ⟨M,hLM,hMok⟩:=right_pts hok
 have hml:M.length=L.length:=by rw [hLM,List.length_map]
 have HPM:=Lib.hid (fun w' (hb:Below w.heap.size w w')=>show Pts w' (.slice (some ⟨B,off,none⟩) L.length m) M by show Pairs w' _ (M.map textP);rw [←hLM];exact HV.out.below hb)
 have HMO:=Lib.hid hMok
 have HHU:=Lib.hid (fun w' (hg:Good w') hb=>pg_hull _ M (by omega) (by omega) HMO.out w' hg (HPM.out w' hb))
 have HRH:=Lib.hid (fun w' (hg:Good w') hb=>r9_hull _ M (by omega) (by omega) (fun p hp=>(okP_sz (HMO.out p hp)).mono (by decide)) w' hg (HPM.out w' hb))
 unfold PHullPost at HHU
 unfold HullPost at HRH
 have HML:=Lib.hid hml
 have HOK:=Lib.hid hok
 clear hLM hMok hok hml
 go_enter Tryz.func3,Tryz.ntmps3
 go_wp2_with fail
 refine (HKN.out w hw).mono ?_
 rintro e w1 ⟨rfl,hb1⟩
 go_wp2_with fail
 refine (HF1.out w1 hb1).mono ?_
 rintro e w2 ⟨rfl,rfl⟩
 go_wp2_with fail
 refine (HF2.out w1 hb1).mono ?_
 rintro e w2 ⟨rfl,rfl⟩
 go_wp2_with fail
 refine (HHU.out w1 (hw.below hb1) hb1).mono ?_
 rintro e w2 ⟨hor,hb2⟩
 rcases hor with ⟨rfl,hfew⟩ | ⟨r,P,rfl,hW,hP3,hPr⟩
 ·have HFW:=Lib.hid hfew
  clear hfew
  have hbw2:=hb1.trans (hb2.mono hb1.size)
  have hmk:=mk201
  go_wp2_with fail
  obtain ⟨w3,hw3⟩ : ∃ w3,w3=w2.alloc (.cells (Builtin.zeroCells #[Value.string ⟨#[]⟩,.string ⟨#[]⟩] 201) 31):=⟨_,rfl⟩
  obtain ⟨hb3,_⟩:=box_any hw3
  have hbw3:=hbw2.trans (hb3.mono hbw2.size)
  rw [←hw3]
  clear hw3 hmk
  refine (pg_hull_much _ 201 201 (by decide) w3).mono ?_
  rintro e w4 ⟨rfl,rfl⟩
  have HRP:=Lib.hid (fun i (hi:i<L.length) w' (hg:Good w')=>rightpoint L[i].1 L[i].2 (HZS.out i hi).1 (HZS.out i hi).2 w' hg)
  unfold RV at HRP
  go_wp2_with fail
  go_loopw [2,7] (fun rv iv wr=>∃ k:Nat,OkTo L k∧rv=.bool false∧iv=.int .i64 (k:Int)∧Below w3.heap.size w3 wr) (fun _ iv _=>L.length-(intOf iv).toNat)
  case atStart=>exact ⟨0,⟨Nat.zero_le _,fun i _ h=>absurd h (Nat.not_lt_zero _)⟩,rfl,rfl,Below.refl _ _⟩
  case round =>
   obtain ⟨k,hkl,rfl,rfl,hbr3⟩:=hrel
   have hkl':=hkl.1
   have HK:=Lib.hid hkl
   clear hkl
   have hbr:=hbw3.trans (hbr3.mono hbw3.size)
   by_cases hk:k<L.length
   ·have hkn:decide ((k:Int)<(L.length:Int))=true:=decide_eq_true (by omega)
    have i1:(0:Int)≤(k:Int):=by omega
    have i2:(k:Int)<(L.length:Int):=by omega
    obtain ⟨c0,c1⟩:=HCL.out k hk wr hbr
    have H1:=Lib.hid (HRP.out k hk)
    have HSP:=Lib.hid (fun h=>HK.out.step hk h)
    have HOKP:=Lib.hid (show okPr (L[k].1,L[k].2)=true from HOK.out _ (List.getElem_mem hk))
    generalize hokb:okPr (L[k].1,L[k].2)=okb at *
    have HOKB:=Lib.hid hokb
    clear hokb
    generalize L[k].1=p1 at *
    generalize L[k].2=p2 at *
    go_wp2_with fail
    refine (H1.out _ (hw.below hbr)).mono ?_
    rintro e w5 ⟨rfl,hb5⟩
    cases okb with
    | true =>
     go_wp2
     refine ⟨⟨k+1,HSP.out (by first | exact rfl | exact trivial),rfl,int_succ k,hbr3.trans (hb5.mono hbr3.size)⟩,?_⟩
     show L.length-((k:Int)+1).toNat<L.length-((k:Int)).toNat
     omega
    | false =>
     exact absurd HOKP.out (by decide)
   ·have hkn:decide ((k:Int)<(L.length:Int))=false:=decide_eq_false (by omega)
    have HALL:=Lib.hid (show ∀ p∈L,okPr p=true by have:=HK.out;rw [show k=L.length by omega] at this;exact this.all)
    go_wp2_with fail
    refine (HRH.out _ (hw.below hbr) hbr).mono ?_
    rintro e w6 ⟨r6,P6,rfl,hW6,hP6,hb6⟩
    have hlt:=HFW.out P6 hW6
    rw [if_pos hlt] at hP6
    obtain ⟨p6,c6,rfl,_,_⟩:=hP6.slice
    clear hP6 hW6
    go_wp2
    go_ret
    exact ⟨rfl,hbr.trans (hb6.mono hbr.size)⟩
 ·have HW:=Lib.hid hW
  have HPR:=Lib.hid hPr
  clear hW hPr
  obtain ⟨pr,cr,rfl,hcr1,hcr2⟩:=HPR.out.slice
  have hbw2:=hb1.trans (hb2.mono hb1.size)
  have hmk:=mk201
  go_wp2_with fail
  obtain ⟨w3,hw3⟩ : ∃ w3,w3=w2.alloc (.cells (Builtin.zeroCells #[Value.string ⟨#[]⟩,.string ⟨#[]⟩] 201) 31):=⟨_,rfl⟩
  obtain ⟨hb3,_⟩:=box_any hw3
  have hbw3:=hbw2.trans (hb3.mono hbw2.size)
  rw [←hw3]
  clear hw3 hmk
  refine (pg_hull_much _ 201 201 (by decide) w3).mono ?_
  rintro e w4 ⟨rfl,rfl⟩
  have HRP:=Lib.hid (fun i (hi:i<L.length) w' (hg:Good w')=>rightpoint L[i].1 L[i].2 (HZS.out i hi).1 (HZS.out i hi).2 w' hg)
  unfold RV at HRP
  go_wp2_with fail
  go_loopw [2,7] (fun rv iv wr=>∃ k:Nat,OkTo L k∧rv=.bool false∧iv=.int .i64 (k:Int)∧Below w3.heap.size w3 wr) (fun _ iv _=>L.length-(intOf iv).toNat)
  case atStart=>exact ⟨0,⟨Nat.zero_le _,fun i _ h=>absurd h (Nat.not_lt_zero _)⟩,rfl,rfl,Below.refl _ _⟩
  case round =>
   obtain ⟨k,hkl,rfl,rfl,hbr3⟩:=hrel
   have hkl':=hkl.1
   have HK:=Lib.hid hkl
   clear hkl
   have hbr:=hbw3.trans (hbr3.mono hbw3.size)
   by_cases hk:k<L.length
   ·have hkn:decide ((k:Int)<(L.length:Int))=true:=decide_eq_true (by omega)
    have i1:(0:Int)≤(k:Int):=by omega
    have i2:(k:Int)<(L.length:Int):=by omega
    obtain ⟨c0,c1⟩:=HCL.out k hk wr hbr
    have H1:=Lib.hid (HRP.out k hk)
    have HSP:=Lib.hid (fun h=>HK.out.step hk h)
    have HOKP:=Lib.hid (show okPr (L[k].1,L[k].2)=true from HOK.out _ (List.getElem_mem hk))
    generalize hokb:okPr (L[k].1,L[k].2)=okb at *
    have HOKB:=Lib.hid hokb
    clear hokb
    generalize L[k].1=p1 at *
    generalize L[k].2=p2 at *
    go_wp2_with fail
    refine (H1.out _ (hw.below hbr)).mono ?_
    rintro e w5 ⟨rfl,hb5⟩
    cases okb with
    | true =>
     go_wp2
     refine ⟨⟨k+1,HSP.out (by first | exact rfl | exact trivial),rfl,int_succ k,hbr3.trans (hb5.mono hbr3.size)⟩,?_⟩
     show L.length-((k:Int)+1).toNat<L.length-((k:Int)).toNat
     omega
    | false =>
     exact absurd HOKP.out (by decide)
   ·have hkn:decide ((k:Int)<(L.length:Int))=false:=decide_eq_false (by omega)
    have HALL:=Lib.hid (show ∀ p∈L,okPr p=true by have:=HK.out;rw [show k=L.length by omega] at this;exact this.all)
    go_wp2_with fail
    refine (HRH.out _ (hw.below hbr) hbr).mono ?_
    rintro e w6 ⟨r6,P6,rfl,hW6,hP6,hb6⟩
    obtain rfl:=hW6.unique HW.out
    rw [if_neg (by omega)] at hP6
    obtain ⟨p6,c6,rfl,_,_⟩:=hP6.slice
    have HP6:=Lib.hid hP6
    have hbr6:=hbr.trans (hb6.mono hbr.size)
    have hb36:=hbr3.trans (hb6.mono hbr3.size)
    have HPR6:=Lib.hid ((HPR.out.below hb3).below hb36)
    have HEQ:=Lib.hid (r9_equal pointNeq _ _ _ _ w6 HPR6.out HP6.out)
    have HCK:=Lib.hid (fun w' (hg:Good w') hb=>pg_checkP (.slice pr P6.length cr) P6 hP3 (Nat.le_trans HW.out.toPart.len (by have:=HML.out;omega)) (fun p hp=>HMO.out p (HW.out.mem p hp)) w' hg (HPR6.out.below hb))
    rw [polyC_poly (HW.out.poly hP3)] at HCK
    rw [decide_eq_true rfl] at HEQ
    have e0:((P6.length:Int) == 0)=false:=beq_eq_false_iff_ne.2 (by omega)
    unfold RV at HCK
    clear hP6 hW6
    go_wp2_with fail
    refine HEQ.out.mono ?_
    rintro e w7 ⟨rfl,hb7⟩
    have hbr7:=hbr6.trans (hb7.mono hbr6.size)
    go_wp2_with fail
    refine (HCK.out w7 (hw.below hbr7) hb7).mono ?_
    rintro e w8 ⟨rfl,hb8⟩
    go_wp2
    go_ret
    exact ⟨rfl,hbr7.trans (hb8.mono hbr7.size)⟩
set_option maxRecDepth 100000 in
set_option maxHeartbeats 4000000 in
theorem hulls_wrong_eq (B off c m:Nat) (L:List Pair) (hm:min (6:Int) (L.length:Int)=(m:Int)) (hm1:m≤L.length) (hm2:m≤6) (hn8:L.length≤8) (hnp:0<L.length) (w:World) (hw:Good w) (hv:Pairs w (.slice (some ⟨B,off,none⟩) L.length c) L) (hmc:m=c) (h1:fewB (L.take m)=true) (h2:fewB (L.drop m)=true) (hok:¬ ∀ p∈L,okPr p=true):Calls Tryz.prog 3 #[.slice (some ⟨B,off,none⟩) L.length c] w (RV (.bool true) w):=by
 have HKN:=Lib.hid law_known
 unfold RV at HKN
 have HV:=Lib.hid hv
 have hcl:L.length≤c:=hv.cap.1
 have q8:decide ((8:Int)<(L.length:Int))=false:=decide_eq_false (by omega)
 have q9:decide ((L.length:Int)>8)=false:=decide_eq_false (by omega)
 have hcm:c≤9223372036854775807:=by have:=hv.cap.2;unfold maxLen at this;omega
 have HF1:=Lib.hid (fun w' (hb:Below w.heap.size w w')=>law_few _ (L.take m) w' (pairs_take (HV.out.below hb) (by omega) hm1))
 subst hmc
 have HF2:=Lib.hid (fun w' (_:Below w.heap.size w w')=>law_few (.slice (some ⟨B,off,none⟩) 0 0) (L.drop m) w' (by rw [List.drop_of_length_le (by omega)];exact pairs_empty _ _ _ (by decide)))
 have HSH:=Lib.hid (short_of_parts (L:=L) (k:=m) h1 h2)
 obtain ⟨hbl,hcell⟩:=hv.block (by omega)
 have HZS:=Lib.hid (fun i (hi:i<L.length)=>And.intro (Nat.le_trans (HSH.out _ (List.getElem_mem hi)).1 (show 40≤4000000 by decide)) (Nat.le_trans (HSH.out _ (List.getElem_mem hi)).2 (show 40≤4000000 by decide)))
 have HCL:=Lib.hid (fun i (hi:i<L.length) wx (h:Below w.heap.size w wx)=>And.intro ((h.cell (p:=⟨B,off+i*2,none⟩) hbl).trans (hcell i hi).1) ((h.cell (p:=⟨B,off+i*2+1,none⟩) hbl).trans (hcell i hi).2))
 rw [h1] at HF1
 rw [h2] at HF2
 clear h1 h2 hcell hv
 have HNO:=Lib.hid hok
 have HHU:=Lib.hid (fun w' (hg:Good w') hb=>pg_hull_wrong _ L (by omega) (fun p hp=>⟨Nat.le_trans (HSH.out p hp).1 (by decide),Nat.le_trans (HSH.out p hp).2 (by decide)⟩) HNO.out w' hg (HV.out.below hb))
 unfold RV at HHU
 clear hok
 go_enter Tryz.func3,Tryz.ntmps3
 go_wp2_with fail
 refine (HKN.out w hw).mono ?_
 rintro e w1 ⟨rfl,hb1⟩
 go_wp2_with fail
 refine (HF1.out w1 hb1).mono ?_
 rintro e w2 ⟨rfl,rfl⟩
 go_wp2_with fail
 refine (HF2.out w1 hb1).mono ?_
 rintro e w2 ⟨rfl,rfl⟩
 go_wp2_with fail
 refine (HHU.out w1 (hw.below hb1) hb1).mono ?_
 rintro e w2 ⟨rfl,hb2⟩
 have hbw2:=hb1.trans (hb2.mono hb1.size)
 have hmk:=mk201
 go_wp2_with fail
 obtain ⟨w3,hw3⟩ : ∃ w3,w3=w2.alloc (.cells (Builtin.zeroCells #[Value.string ⟨#[]⟩,.string ⟨#[]⟩] 201) 31):=⟨_,rfl⟩
 obtain ⟨hb3,_⟩:=box_any hw3
 have hbw3:=hbw2.trans (hb3.mono hbw2.size)
 rw [←hw3]
 clear hw3 hmk
 refine (pg_hull_much _ 201 201 (by decide) w3).mono ?_
 rintro e w4 ⟨rfl,rfl⟩
 have HRP:=Lib.hid (fun i (hi:i<L.length) w' (hg:Good w')=>rightpoint L[i].1 L[i].2 (HZS.out i hi).1 (HZS.out i hi).2 w' hg)
 unfold RV at HRP
 go_wp2_with fail
 go_loopw [2,7] (fun rv iv wr=>∃ k:Nat,OkTo L k∧rv=.bool false∧iv=.int .i64 (k:Int)∧Below w3.heap.size w3 wr) (fun _ iv _=>L.length-(intOf iv).toNat)
 case atStart=>exact ⟨0,⟨Nat.zero_le _,fun i _ h=>absurd h (Nat.not_lt_zero _)⟩,rfl,rfl,Below.refl _ _⟩
 case round =>
  obtain ⟨k,hkl,rfl,rfl,hbr3⟩:=hrel
  have hkl':=hkl.1
  have HK:=Lib.hid hkl
  clear hkl
  have hbr:=hbw3.trans (hbr3.mono hbw3.size)
  by_cases hk:k<L.length
  ·have hkn:decide ((k:Int)<(L.length:Int))=true:=decide_eq_true (by omega)
   have i1:(0:Int)≤(k:Int):=by omega
   have i2:(k:Int)<(L.length:Int):=by omega
   obtain ⟨c0,c1⟩:=HCL.out k hk wr hbr
   have H1:=Lib.hid (HRP.out k hk)
   have HSP:=Lib.hid (fun h=>HK.out.step hk h)
   generalize hokb:okPr (L[k].1,L[k].2)=okb at *
   have HOKB:=Lib.hid hokb
   clear hokb
   generalize L[k].1=p1 at *
   generalize L[k].2=p2 at *
   go_wp2_with fail
   refine (H1.out _ (hw.below hbr)).mono ?_
   rintro e w5 ⟨rfl,hb5⟩
   cases okb with
   | true =>
    go_wp2
    refine ⟨⟨k+1,HSP.out (by first | exact rfl | exact trivial),rfl,int_succ k,hbr3.trans (hb5.mono hbr3.size)⟩,?_⟩
    show L.length-((k:Int)+1).toNat<L.length-((k:Int)).toNat
    omega
   | false =>
    go_wp2
    go_ret
    exact ⟨rfl,hbr.trans (hb5.mono hbr.size)⟩
  ·have hkn:decide ((k:Int)<(L.length:Int))=false:=decide_eq_false (by omega)
   have HALL:=Lib.hid (show ∀ p∈L,okPr p=true by have:=HK.out;rw [show k=L.length by omega] at this;exact this.all)
   exact absurd HALL.out HNO.out
set_option maxRecDepth 100000 in
set_option maxHeartbeats 4000000 in
theorem hulls_few2_ne (B off c m:Nat) (L:List Pair) (hm:min (6:Int) (L.length:Int)=(m:Int)) (hm1:m≤L.length) (hm2:m≤6) (hn8:L.length≤8) (hnp:0<L.length) (w:World) (hw:Good w) (hv:Pairs w (.slice (some ⟨B,off,none⟩) L.length c) L) (hmc:¬ m=c) (h1:fewB (L.take m)=true) (h2:fewB (L.drop m)=false):Calls Tryz.prog 3 #[.slice (some ⟨B,off,none⟩) L.length c] w (RV (.bool true) w):=by
 have HKN:=Lib.hid law_known
 unfold RV at HKN
 have HV:=Lib.hid hv
 have hcl:L.length≤c:=hv.cap.1
 have q8:decide ((8:Int)<(L.length:Int))=false:=decide_eq_false (by omega)
 have q9:decide ((L.length:Int)>8)=false:=decide_eq_false (by omega)
 have hcm:c≤9223372036854775807:=by have:=hv.cap.2;unfold maxLen at this;omega
 have HF1:=Lib.hid (fun w' (hb:Below w.heap.size w w')=>law_few _ (L.take m) w' (pairs_take (HV.out.below hb) (by omega) hm1))
 have HF2:=Lib.hid (fun w' (hb:Below w.heap.size w w')=>law_few _ (L.drop m) w' (pairs_drop (HV.out.below hb) (by omega) hm1))
 rw [h1] at HF1
 rw [h2] at HF2
 clear h1 h2 hv
 go_enter Tryz.func3,Tryz.ntmps3
 go_wp2_with fail
 refine (HKN.out w hw).mono ?_
 rintro e w1 ⟨rfl,hb1⟩
 go_wp2_with fail
 refine (HF1.out w1 hb1).mono ?_
 rintro e w2 ⟨rfl,rfl⟩
 go_wp2_with fail
 refine (HF2.out w1 hb1).mono ?_
 rintro e w2 ⟨rfl,rfl⟩
 go_wp2_with fail
 refine (HKN.out w1 (hw.below hb1)).mono ?_
 rintro e w2 ⟨rfl,hb2⟩
 go_wp2
 go_ret
 exact ⟨rfl,hb1.trans (hb2.mono hb1.size)⟩
set_option maxRecDepth 100000 in
set_option maxHeartbeats 4000000 in
theorem hulls_right_ne (B off c m:Nat) (L:List Pair) (hm:min (6:Int) (L.length:Int)=(m:Int)) (hm1:m≤L.length) (hm2:m≤6) (hn8:L.length≤8) (hnp:0<L.length) (w:World) (hw:Good w) (hv:Pairs w (.slice (some ⟨B,off,none⟩) L.length c) L) (hmc:¬ m=c) (h1:fewB (L.take m)=true) (h2:fewB (L.drop m)=true) (hok:∀ p∈L,okPr p=true):Calls Tryz.prog 3 #[.slice (some ⟨B,off,none⟩) L.length c] w (RV (.bool true) w):=by
 have HKN:=Lib.hid law_known
 unfold RV at HKN
 have HV:=Lib.hid hv
 have hcl:L.length≤c:=hv.cap.1
 have q8:decide ((8:Int)<(L.length:Int))=false:=decide_eq_false (by omega)
 have q9:decide ((L.length:Int)>8)=false:=decide_eq_false (by omega)
 have hcm:c≤9223372036854775807:=by have:=hv.cap.2;unfold maxLen at this;omega
 have HF1:=Lib.hid (fun w' (hb:Below w.heap.size w w')=>law_few _ (L.take m) w' (pairs_take (HV.out.below hb) (by omega) hm1))
 have HF2:=Lib.hid (fun w' (hb:Below w.heap.size w w')=>law_few _ (L.drop m) w' (pairs_drop (HV.out.below hb) (by omega) hm1))
 have HSH:=Lib.hid (short_of_parts (L:=L) (k:=m) h1 h2)
 obtain ⟨hbl,hcell⟩:=hv.block (by omega)
 have HZS:=Lib.hid (fun i (hi:i<L.length)=>And.intro (Nat.le_trans (HSH.out _ (List.getElem_mem hi)).1 (show 40≤4000000 by decide)) (Nat.le_trans (HSH.out _ (List.getElem_mem hi)).2 (show 40≤4000000 by decide)))
 have HCL:=Lib.hid (fun i (hi:i<L.length) wx (h:Below w.heap.size w wx)=>And.intro ((h.cell (p:=⟨B,off+i*2,none⟩) hbl).trans (hcell i hi).1) ((h.cell (p:=⟨B,off+i*2+1,none⟩) hbl).trans (hcell i hi).2))
 rw [h1] at HF1
 rw [h2] at HF2
 clear h1 h2 hcell hv
 obtain ⟨M,hLM,hMok⟩:=right_pts hok
 have hml:M.length=L.length:=by rw [hLM,List.length_map]
 have HPM:=Lib.hid (fun w' (hb:Below w.heap.size w w')=>show Pts w' (.slice (some ⟨B,off,none⟩) L.length c) M by show Pairs w' _ (M.map textP);rw [←hLM];exact HV.out.below hb)
 have HMO:=Lib.hid hMok
 have HHU:=Lib.hid (fun w' (hg:Good w') hb=>pg_hull _ M (by omega) (by omega) HMO.out w' hg (HPM.out w' hb))
 have HRH:=Lib.hid (fun w' (hg:Good w') hb=>r9_hull _ M (by omega) (by omega) (fun p hp=>(okP_sz (HMO.out p hp)).mono (by decide)) w' hg (HPM.out w' hb))
 unfold PHullPost at HHU
 unfold HullPost at HRH
 have HML:=Lib.hid hml
 have HOK:=Lib.hid hok
 clear hLM hMok hok hml
 go_enter Tryz.func3,Tryz.ntmps3
 go_wp2_with fail
 refine (HKN.out w hw).mono ?_
 rintro e w1 ⟨rfl,hb1⟩
 go_wp2_with fail
 refine (HF1.out w1 hb1).mono ?_
 rintro e w2 ⟨rfl,rfl⟩
 go_wp2_with fail
 refine (HF2.out w1 hb1).mono ?_
 rintro e w2 ⟨rfl,rfl⟩
 go_wp2_with fail
 refine (HHU.out w1 (hw.below hb1) hb1).mono ?_
 rintro e w2 ⟨hor,hb2⟩
 rcases hor with ⟨rfl,hfew⟩ | ⟨r,P,rfl,hW,hP3,hPr⟩
 ·have HFW:=Lib.hid hfew
  clear hfew
  have hbw2:=hb1.trans (hb2.mono hb1.size)
  have hmk:=mk201
  go_wp2_with fail
  obtain ⟨w3,hw3⟩ : ∃ w3,w3=w2.alloc (.cells (Builtin.zeroCells #[Value.string ⟨#[]⟩,.string ⟨#[]⟩] 201) 31):=⟨_,rfl⟩
  obtain ⟨hb3,_⟩:=box_any hw3
  have hbw3:=hbw2.trans (hb3.mono hbw2.size)
  rw [←hw3]
  clear hw3 hmk
  refine (pg_hull_much _ 201 201 (by decide) w3).mono ?_
  rintro e w4 ⟨rfl,rfl⟩
  have HRP:=Lib.hid (fun i (hi:i<L.length) w' (hg:Good w')=>rightpoint L[i].1 L[i].2 (HZS.out i hi).1 (HZS.out i hi).2 w' hg)
  unfold RV at HRP
  go_wp2_with fail
  go_loopw [2,7] (fun rv iv wr=>∃ k:Nat,OkTo L k∧rv=.bool false∧iv=.int .i64 (k:Int)∧Below w3.heap.size w3 wr) (fun _ iv _=>L.length-(intOf iv).toNat)
  case atStart=>exact ⟨0,⟨Nat.zero_le _,fun i _ h=>absurd h (Nat.not_lt_zero _)⟩,rfl,rfl,Below.refl _ _⟩
  case round =>
   obtain ⟨k,hkl,rfl,rfl,hbr3⟩:=hrel
   have hkl':=hkl.1
   have HK:=Lib.hid hkl
   clear hkl
   have hbr:=hbw3.trans (hbr3.mono hbw3.size)
   by_cases hk:k<L.length
   ·have hkn:decide ((k:Int)<(L.length:Int))=true:=decide_eq_true (by omega)
    have i1:(0:Int)≤(k:Int):=by omega
    have i2:(k:Int)<(L.length:Int):=by omega
    obtain ⟨c0,c1⟩:=HCL.out k hk wr hbr
    have H1:=Lib.hid (HRP.out k hk)
    have HSP:=Lib.hid (fun h=>HK.out.step hk h)
    have HOKP:=Lib.hid (show okPr (L[k].1,L[k].2)=true from HOK.out _ (List.getElem_mem hk))
    generalize hokb:okPr (L[k].1,L[k].2)=okb at *
    have HOKB:=Lib.hid hokb
    clear hokb
    generalize L[k].1=p1 at *
    generalize L[k].2=p2 at *
    go_wp2_with fail
    refine (H1.out _ (hw.below hbr)).mono ?_
    rintro e w5 ⟨rfl,hb5⟩
    cases okb with
    | true =>
     go_wp2
     refine ⟨⟨k+1,HSP.out (by first | exact rfl | exact trivial),rfl,int_succ k,hbr3.trans (hb5.mono hbr3.size)⟩,?_⟩
     show L.length-((k:Int)+1).toNat<L.length-((k:Int)).toNat
     omega
    | false =>
     exact absurd HOKP.out (by decide)
   ·have hkn:decide ((k:Int)<(L.length:Int))=false:=decide_eq_false (by omega)
    have HALL:=Lib.hid (show ∀ p∈L,okPr p=true by have:=HK.out;rw [show k=L.length by omega] at this;exact this.all)
    go_wp2_with fail
    refine (HRH.out _ (hw.below hbr) hbr).mono ?_
    rintro e w6 ⟨r6,P6,rfl,hW6,hP6,hb6⟩
    have hlt:=HFW.out P6 hW6
    rw [if_pos hlt] at hP6
    obtain ⟨p6,c6,rfl,_,_⟩:=hP6.slice
    clear hP6 hW6
    go_wp2
    go_ret
    exact ⟨rfl,hbr.trans (hb6.mono hbr.size)⟩
 ·have HW:=Lib.hid hW
  have HPR:=Lib.hid hPr
  clear hW hPr
  obtain ⟨pr,cr,rfl,hcr1,hcr2⟩:=HPR.out.slice
  have hbw2:=hb1.trans (hb2.mono hb1.size)
  have hmk:=mk201
  go_wp2_with fail
  obtain ⟨w3,hw3⟩ : ∃ w3,w3=w2.alloc (.cells (Builtin.zeroCells #[Value.string ⟨#[]⟩,.string ⟨#[]⟩] 201) 31):=⟨_,rfl⟩
  obtain ⟨hb3,_⟩:=box_any hw3
  have hbw3:=hbw2.trans (hb3.mono hbw2.size)
  rw [←hw3]
  clear hw3 hmk
  refine (pg_hull_much _ 201 201 (by decide) w3).mono ?_
  rintro e w4 ⟨rfl,rfl⟩
  have HRP:=Lib.hid (fun i (hi:i<L.length) w' (hg:Good w')=>rightpoint L[i].1 L[i].2 (HZS.out i hi).1 (HZS.out i hi).2 w' hg)
  unfold RV at HRP
  go_wp2_with fail
  go_loopw [2,7] (fun rv iv wr=>∃ k:Nat,OkTo L k∧rv=.bool false∧iv=.int .i64 (k:Int)∧Below w3.heap.size w3 wr) (fun _ iv _=>L.length-(intOf iv).toNat)
  case atStart=>exact ⟨0,⟨Nat.zero_le _,fun i _ h=>absurd h (Nat.not_lt_zero _)⟩,rfl,rfl,Below.refl _ _⟩
  case round =>
   obtain ⟨k,hkl,rfl,rfl,hbr3⟩:=hrel
   have hkl':=hkl.1
   have HK:=Lib.hid hkl
   clear hkl
   have hbr:=hbw3.trans (hbr3.mono hbw3.size)
   by_cases hk:k<L.length
   ·have hkn:decide ((k:Int)<(L.length:Int))=true:=decide_eq_true (by omega)
    have i1:(0:Int)≤(k:Int):=by omega
    have i2:(k:Int)<(L.length:Int):=by omega
    obtain ⟨c0,c1⟩:=HCL.out k hk wr hbr
    have H1:=Lib.hid (HRP.out k hk)
    have HSP:=Lib.hid (fun h=>HK.out.step hk h)
    have HOKP:=Lib.hid (show okPr (L[k].1,L[k].2)=true from HOK.out _ (List.getElem_mem hk))
    generalize hokb:okPr (L[k].1,L[k].2)=okb at *
    have HOKB:=Lib.hid hokb
    clear hokb
    generalize L[k].1=p1 at *
    generalize L[k].2=p2 at *
    go_wp2_with fail
    refine (H1.out _ (hw.below hbr)).mono ?_
    rintro e w5 ⟨rfl,hb5⟩
    cases okb with
    | true =>
     go_wp2
     refine ⟨⟨k+1,HSP.out (by first | exact rfl | exact trivial),rfl,int_succ k,hbr3.trans (hb5.mono hbr3.size)⟩,?_⟩
     show L.length-((k:Int)+1).toNat<L.length-((k:Int)).toNat
     omega
    | false =>
     exact absurd HOKP.out (by decide)
   ·have hkn:decide ((k:Int)<(L.length:Int))=false:=decide_eq_false (by omega)
    have HALL:=Lib.hid (show ∀ p∈L,okPr p=true by have:=HK.out;rw [show k=L.length by omega] at this;exact this.all)
    go_wp2_with fail
    refine (HRH.out _ (hw.below hbr) hbr).mono ?_
    rintro e w6 ⟨r6,P6,rfl,hW6,hP6,hb6⟩
    obtain rfl:=hW6.unique HW.out
    rw [if_neg (by omega)] at hP6
    obtain ⟨p6,c6,rfl,_,_⟩:=hP6.slice
    have HP6:=Lib.hid hP6
    have hbr6:=hbr.trans (hb6.mono hbr.size)
    have hb36:=hbr3.trans (hb6.mono hbr3.size)
    have HPR6:=Lib.hid ((HPR.out.below hb3).below hb36)
    have HEQ:=Lib.hid (r9_equal pointNeq _ _ _ _ w6 HPR6.out HP6.out)
    have HCK:=Lib.hid (fun w' (hg:Good w') hb=>pg_checkP (.slice pr P6.length cr) P6 hP3 (Nat.le_trans HW.out.toPart.len (by have:=HML.out;omega)) (fun p hp=>HMO.out p (HW.out.mem p hp)) w' hg (HPR6.out.below hb))
    rw [polyC_poly (HW.out.poly hP3)] at HCK
    rw [decide_eq_true rfl] at HEQ
    have e0:((P6.length:Int) == 0)=false:=beq_eq_false_iff_ne.2 (by omega)
    unfold RV at HCK
    clear hP6 hW6
    go_wp2_with fail
    refine HEQ.out.mono ?_
    rintro e w7 ⟨rfl,hb7⟩
    have hbr7:=hbr6.trans (hb7.mono hbr6.size)
    go_wp2_with fail
    refine (HCK.out w7 (hw.below hbr7) hb7).mono ?_
    rintro e w8 ⟨rfl,hb8⟩
    go_wp2
    go_ret
    exact ⟨rfl,hbr7.trans (hb8.mono hbr7.size)⟩
set_option maxRecDepth 100000 in
set_option maxHeartbeats 4000000 in
theorem hulls_wrong_ne (B off c m:Nat) (L:List Pair) (hm:min (6:Int) (L.length:Int)=(m:Int)) (hm1:m≤L.length) (hm2:m≤6) (hn8:L.length≤8) (hnp:0<L.length) (w:World) (hw:Good w) (hv:Pairs w (.slice (some ⟨B,off,none⟩) L.length c) L) (hmc:¬ m=c) (h1:fewB (L.take m)=true) (h2:fewB (L.drop m)=true) (hok:¬ ∀ p∈L,okPr p=true):Calls Tryz.prog 3 #[.slice (some ⟨B,off,none⟩) L.length c] w (RV (.bool true) w):=by
 have HKN:=Lib.hid law_known
 unfold RV at HKN
 have HV:=Lib.hid hv
 have hcl:L.length≤c:=hv.cap.1
 have q8:decide ((8:Int)<(L.length:Int))=false:=decide_eq_false (by omega)
 have q9:decide ((L.length:Int)>8)=false:=decide_eq_false (by omega)
 have hcm:c≤9223372036854775807:=by have:=hv.cap.2;unfold maxLen at this;omega
 have HF1:=Lib.hid (fun w' (hb:Below w.heap.size w w')=>law_few _ (L.take m) w' (pairs_take (HV.out.below hb) (by omega) hm1))
 have HF2:=Lib.hid (fun w' (hb:Below w.heap.size w w')=>law_few _ (L.drop m) w' (pairs_drop (HV.out.below hb) (by omega) hm1))
 have HSH:=Lib.hid (short_of_parts (L:=L) (k:=m) h1 h2)
 obtain ⟨hbl,hcell⟩:=hv.block (by omega)
 have HZS:=Lib.hid (fun i (hi:i<L.length)=>And.intro (Nat.le_trans (HSH.out _ (List.getElem_mem hi)).1 (show 40≤4000000 by decide)) (Nat.le_trans (HSH.out _ (List.getElem_mem hi)).2 (show 40≤4000000 by decide)))
 have HCL:=Lib.hid (fun i (hi:i<L.length) wx (h:Below w.heap.size w wx)=>And.intro ((h.cell (p:=⟨B,off+i*2,none⟩) hbl).trans (hcell i hi).1) ((h.cell (p:=⟨B,off+i*2+1,none⟩) hbl).trans (hcell i hi).2))
 rw [h1] at HF1
 rw [h2] at HF2
 clear h1 h2 hcell hv
 have HNO:=Lib.hid hok
 have HHU:=Lib.hid (fun w' (hg:Good w') hb=>pg_hull_wrong _ L (by omega) (fun p hp=>⟨Nat.le_trans (HSH.out p hp).1 (by decide),Nat.le_trans (HSH.out p hp).2 (by decide)⟩) HNO.out w' hg (HV.out.below hb))
 unfold RV at HHU
 clear hok
 go_enter Tryz.func3,Tryz.ntmps3
 go_wp2_with fail
 refine (HKN.out w hw).mono ?_
 rintro e w1 ⟨rfl,hb1⟩
 go_wp2_with fail
 refine (HF1.out w1 hb1).mono ?_
 rintro e w2 ⟨rfl,rfl⟩
 go_wp2_with fail
 refine (HF2.out w1 hb1).mono ?_
 rintro e w2 ⟨rfl,rfl⟩
 go_wp2_with fail
 refine (HHU.out w1 (hw.below hb1) hb1).mono ?_
 rintro e w2 ⟨rfl,hb2⟩
 have hbw2:=hb1.trans (hb2.mono hb1.size)
 have hmk:=mk201
 go_wp2_with fail
 obtain ⟨w3,hw3⟩ : ∃ w3,w3=w2.alloc (.cells (Builtin.zeroCells #[Value.string ⟨#[]⟩,.string ⟨#[]⟩] 201) 31):=⟨_,rfl⟩
 obtain ⟨hb3,_⟩:=box_any hw3
 have hbw3:=hbw2.trans (hb3.mono hbw2.size)
 rw [←hw3]
 clear hw3 hmk
 refine (pg_hull_much _ 201 201 (by decide) w3).mono ?_
 rintro e w4 ⟨rfl,rfl⟩
 have HRP:=Lib.hid (fun i (hi:i<L.length) w' (hg:Good w')=>rightpoint L[i].1 L[i].2 (HZS.out i hi).1 (HZS.out i hi).2 w' hg)
 unfold RV at HRP
 go_wp2_with fail
 go_loopw [2,7] (fun rv iv wr=>∃ k:Nat,OkTo L k∧rv=.bool false∧iv=.int .i64 (k:Int)∧Below w3.heap.size w3 wr) (fun _ iv _=>L.length-(intOf iv).toNat)
 case atStart=>exact ⟨0,⟨Nat.zero_le _,fun i _ h=>absurd h (Nat.not_lt_zero _)⟩,rfl,rfl,Below.refl _ _⟩
 case round =>
  obtain ⟨k,hkl,rfl,rfl,hbr3⟩:=hrel
  have hkl':=hkl.1
  have HK:=Lib.hid hkl
  clear hkl
  have hbr:=hbw3.trans (hbr3.mono hbw3.size)
  by_cases hk:k<L.length
  ·have hkn:decide ((k:Int)<(L.length:Int))=true:=decide_eq_true (by omega)
   have i1:(0:Int)≤(k:Int):=by omega
   have i2:(k:Int)<(L.length:Int):=by omega
   obtain ⟨c0,c1⟩:=HCL.out k hk wr hbr
   have H1:=Lib.hid (HRP.out k hk)
   have HSP:=Lib.hid (fun h=>HK.out.step hk h)
   generalize hokb:okPr (L[k].1,L[k].2)=okb at *
   have HOKB:=Lib.hid hokb
   clear hokb
   generalize L[k].1=p1 at *
   generalize L[k].2=p2 at *
   go_wp2_with fail
   refine (H1.out _ (hw.below hbr)).mono ?_
   rintro e w5 ⟨rfl,hb5⟩
   cases okb with
   | true =>
    go_wp2
    refine ⟨⟨k+1,HSP.out (by first | exact rfl | exact trivial),rfl,int_succ k,hbr3.trans (hb5.mono hbr3.size)⟩,?_⟩
    show L.length-((k:Int)+1).toNat<L.length-((k:Int)).toNat
    omega
   | false =>
    go_wp2
    go_ret
    exact ⟨rfl,hbr.trans (hb5.mono hbr.size)⟩
  ·have hkn:decide ((k:Int)<(L.length:Int))=false:=decide_eq_false (by omega)
   have HALL:=Lib.hid (show ∀ p∈L,okPr p=true by have:=HK.out;rw [show k=L.length by omega] at this;exact this.all)
   exact absurd HALL.out HNO.out
theorem law_PolygonHulls (v:Value) (L:List Pair) (w:World) (hw:Good w) (hv:Pairs w v L):Calls Tryz.prog 3 #[v] w (RV (.bool true) w):=by
 have hv0:=hv
 obtain ⟨p,c,rfl,hcl,hcm,hblk⟩:=hv
 by_cases h8:8<L.length
 ·exact hulls_many p _ c h8 w hw
 ·by_cases h0:L.length=0
  ·rw [h0]
   exact hulls_none p c hcm w hw
  ·obtain ⟨B,off,rfl,_⟩:=hblk (by omega)
   obtain ⟨m,hm,hm1,hm2⟩ : ∃ m:Nat,min (6:Int) (L.length:Int)=(m:Int)∧m≤L.length∧m≤6:=⟨min 6 L.length,by omega,by omega,by omega⟩
   rcases Bool.eq_false_or_eq_true (fewB (L.take m)) with h1 | h1
   ·rcases Bool.eq_false_or_eq_true (fewB (L.drop m)) with h2 | h2
    ·by_cases hok:∀ p∈L,okPr p=true
     ·by_cases hmc:m=c
      ·exact hulls_right_eq B off c m L hm hm1 hm2 (by omega) (by omega) w hw hv0 hmc h1 h2 hok
      ·exact hulls_right_ne B off c m L hm hm1 hm2 (by omega) (by omega) w hw hv0 hmc h1 h2 hok
     ·by_cases hmc:m=c
      ·exact hulls_wrong_eq B off c m L hm hm1 hm2 (by omega) (by omega) w hw hv0 hmc h1 h2 hok
      ·exact hulls_wrong_ne B off c m L hm hm1 hm2 (by omega) (by omega) w hw hv0 hmc h1 h2 hok
    ·by_cases hmc:m=c
     ·exact hulls_few2_eq B off c m L hm hm1 hm2 (by omega) (by omega) w hw hv0 hmc h1 h2
     ·exact hulls_few2_ne B off c m L hm hm1 hm2 (by omega) (by omega) w hw hv0 hmc h1 h2
   ·exact hulls_few1 B off c m L hm hm1 hm2 (by omega) (by omega) w hw hv0 h1
end Go.Proofs.YtgohnjdgoglcfaaGreatDoor
