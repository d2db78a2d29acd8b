import Derived.Test.YtogdahbbogimcaaGreatDoorGcdZ
import Derived.Test.YtogdahbbogimcaaGreatDoorB1Z
set_option maxRecDepth 100000
set_option maxHeartbeats 1000000
namespace Go.Proofs.YtogdahbbogimcaaGreatDoor
open Go.RowKit
open Go.Lib (hid)
theorem pcs_base (K:Nat):pcs (1000000000 ^ K)=List.replicate K 0 ++ [1]:=by
 have h:=pcs_val (List.replicate K 0 ++ [1]) (by
  intro x hx
  rcases List.mem_append.1 hx with hx | hx
  ·rw [List.mem_replicate] at hx;omega
  ·simp at hx;omega) (by intro _;simp)
 rw [val_snoc,val_replicate_zero,List.length_replicate,Nat.zero_add,Nat.mul_one] at h
 exact h
theorem base_ge {r:Nat}:r≤1000000000 ^ (((pcs (r*r)).length+1)/2):=by
 rcases Nat.lt_or_ge (1000000000 ^ (((pcs (r*r)).length+1)/2)) r with h | h
 ·exfalso
  have h1:=lt_of_pcs_len (r*r)
  have h2:1000000000 ^ (pcs (r*r)).length≤1000000000 ^ (((pcs (r*r)).length+1)/2+((pcs (r*r)).length+1)/2):=Nat.pow_le_pow_right (by decide) (by omega)
  rw [Nat.pow_add] at h2
  have h3:=Nat.mul_lt_mul'' h h
  omega
 ·exact h
theorem two_owned {w:World}:U64s (w.alloc (Obj.cells #[Value.int .u64 2] 144)) (.slice (some ⟨w.heap.size,0,none⟩) 1 1) (pcs 2):=by
 have h2:pcs 2=[2]:=by rw [pcs_pos (by decide),show 2/1000000000=0 from rfl,pcs_zero]
 rw [h2]
 refine U64s.of_owns (base:=w.heap.size) (n:=1) ?_ rfl
 exact ⟨rfl,.inr ⟨w.heap.size,1,#[Value.int .u64 2],rfl,Nat.le_refl _,World.alloc_heap_new w _,Nat.le_refl _,by unfold maxLen;omega,rfl,rfl⟩⟩
theorem integer_Root (a:ByteArray) (r:Nat) (ha:IsI a ((r*r:Nat):Int)) (hsa:a.size≤9000000000) (w:World) (hw:Good w) :
  Calls Tryz.prog 107 #[.string a] w fun e w'=>∃ s:ByteArray,e=.returned (.tuple #[.string s,.int .i64 0])∧IsI s (r:Int)∧Below w.heap.size w w':=by
 have hfld:=number_field
 have HA:=hid ha
 have hln:(pcs (r*r)).length≤9000000000:=Nat.le_trans (pcs_len_size ha) hsa
 clear ha
 have hs0:decide (sgn ((r*r:Nat):Int)<0)=false:=decide_eq_false (by
  rcases sgn_cases ((r*r:Nat):Int) with ⟨h,k⟩ | ⟨h,k⟩ | ⟨h,k⟩ <;> omega)
 have HBG:=hid (base_ge (r:=r))
 have HN:=hid (Int.natAbs_natCast (r*r))
 obtain ⟨N,hN⟩ : ∃ N,N=r*r:=⟨_,rfl⟩
 rw [←hN] at HA hln hs0 HBG HN
 have HNE:=hid hN
 have HOP:=hid (fun w'=>integer_open a (N:Int) HA.out hsa w')
 rw [HN.out] at HOP
 generalize hsg:sgn (N:Int)=sg at *
 have HSG:=hid (fun w'=>integer_Sign a (N:Int) HA.out w')
 rw [hsg] at HSG
 generalize decide ((N:Int)<0)=ng at *
 clear hN hsg HN
 obtain ⟨i0,hi,hz0,hz1,hz2⟩:=info_parts sl64.info
 by_cases hr0:N=0
 ·have hl0:(pcs N).length=0:=by rw [hr0,pcs_zero];rfl
  have e0:(((pcs N).length:Int) == 0)=true:=by rw [hl0];rfl
  have HR0:=hid (show (r:Int)=0 by
   have:=HNE.out
   rw [hr0] at this
   have:=Nat.mul_eq_zero.1 this.symm
   omega)
  clear hr0 hl0
  go_enter Tryz.func107,Tryz.ntmps107
  go_wp2_with fail
  refine (HSG.out _).mono ?_
  rintro e w1 ⟨rfl,rfl⟩
  go_wp2_with fail
  refine (HOP.out _).mono ?_
  rintro e w2 ⟨p,rfl,hp2,hb2⟩
  obtain ⟨p,cp,rfl,_,_⟩:=hp2.slice
  clear hp2
  go_wp2
  go_ret2
  exact ⟨_,rfl,by rw [HR0.out];exact isI_zero,hb2⟩
 ·have hlp:=pcs_length_pos hr0
  have e0:(((pcs N).length:Int) == 0)=false:=by simp only [beq_eq_false_iff_ne];omega
  have e1:((pcs N).length == 0)=false:=by simp only [beq_eq_false_iff_ne];omega
  have HR0:=hid (show 0<r by
   rcases Nat.eq_zero_or_pos r with h | h
   ·exact absurd (by rw [HNE.out,h]) hr0
   ·exact h)
  clear hr0
  go_enter Tryz.func107,Tryz.ntmps107
  go_wp2_with fail
  refine (HSG.out _).mono ?_
  rintro e w1 ⟨rfl,rfl⟩
  go_wp2_with fail
  refine (HOP.out _).mono ?_
  rintro e w2 ⟨p,rfl,hp2,hb2⟩
  obtain ⟨p,cp,rfl,_,_⟩:=hp2.slice
  obtain ⟨K,hK⟩ : ∃ K,K=((pcs N).length+1)/2:=⟨_,rfl⟩
  obtain ⟨w3,hmk,hown,hgr⟩:=run_make_full (P:=Tryz.prog) w2 w2.heap.size 112 144 i0 (.int .u64 0) 1 Tryz.underlying112 hi hz0 hz1 .i64 .i64 K (by rw [hz2];omega) (by unfold maxLen;omega) (Nat.le_refl _)
  have hkq:Int.tdiv (((pcs N).length:Int)+1) 2=(K:Int):=by
   rw [Int.tdiv_eq_ediv_of_nonneg (by omega)];omega
  have hkq':(((pcs N).length:Int)+1)/2=(K:Int):=by omega
  rw [madeCells_u64] at hown
  have hb3:Below w2.heap.size w2 w3:=(Below.refl _ _).grown hgr (Nat.le_refl _) (fun k h=>by simp at h)
  have hb23:=hb2.trans (hb3.mono hb2.size)
  have HP2:=hid hp2
  have HB3:=hid hb3
  have HB2:=hid hb2
  have HO3:=hid hown
  have HS3:=hid hb3.size
  rw [←hK] at HBG
  have HPB:=hid (pcs_base K)
  have hKl:K≤4500000001:=by omega
  have HKp:=hid (Nat.pow_pos (n:=K) (show 0<1000000000 by decide))
  have hk8:(K+1)*8≤140737488355328:=by omega
  have HX:=hid (show (1:Int)=((1:Nat):Int) from rfl)
  clear hgr hown hp2 hb3 hK
  go_wp2_with (at_builtin;refine app_new sl64 rfl _ _ rfl w2.heap.size _ K _ rfl HO3.out 1 1 _ rfl rfl oneCell_int hk8 (by decide) HS3.out _ (snoc_u64 HX.out) ?_;intro v1 w4 hown4 hb4;have HO4:=hid hown4;clear hown4)
  have hX4:U64s w4 v1 (pcs (1000000000 ^ K)):=by rw [HPB.out];exact U64s.of_owns HO4.out (by simp)
  have HX4:=hid hX4
  have hb4':=HB3.out.trans hb4
  have HP4:=hid (HP2.out.below hb4')
  have hbs:=HB2.out.trans (hb4'.mono HB2.out.size)
  have HSQ:=hid HNE.out
  have HL4:=hid (show (pcs (1000000000 ^ K)).length≤4500000002 by rw [HPB.out];simp;omega)
  clear hX4 hb4 hb4'
  go_wp2_with fail
  go_loopg [2,3,5] (1000000000 ^ K) (fun k _ _ xv wr=>U64s wr xv (pcs k)∧U64s wr (.slice p (pcs N).length cp) (pcs N)∧r≤k∧(pcs k).length≤4500000002∧Below w.heap.size w wr)
  case atStart=>exact ⟨HX4.out,HP4.out,HBG.out,HL4.out,hbs⟩
  case round =>
   clear HX4 HP4 HBG HL4 hbs HO4 HO3 HP2 HB3 HS3 HPB HB2
   obtain ⟨hX,hP,hrk,hkl,hbr⟩:=hrel
   have HX:=hid hX
   have HP:=hid hP
   have HRK:=hid hrk
   have hg0:gk≠0:=by have:=HR0.out;omega
   obtain ⟨px,cx,rfl,_,_⟩:=hX.slice
   obtain ⟨Y,hY⟩ : ∃ Y,Y=(gk+N/gk)/2:=⟨_,rfl⟩
   have HYE:=hid hY
   have HGE:=hid (show r≤Y by rw [hY,HSQ.out];exact newton_ge (by omega))
   have hql:(pcs (N/gk)).length≤9000000000:=Nat.le_trans (pcs_len_mono (Nat.div_le_self _ _)) (by omega)
   have hsl:(pcs (gk+N/gk)).length≤13500000003:=by have:=pcs_len_add gk (N/gk);omega
   clear hX hP hrk hY
   go_wp2_with fail
   refine (integer_divide _ _ N gk _ hg0 (by omega) HP.out HX.out).mono ?_
   rintro e w5 ⟨q,rm,rfl,hq,hrm,hb5,-⟩
   obtain ⟨pq,cq,rfl,_,_⟩:=hq.slice
   obtain ⟨pr,cr,rfl,_,_⟩:=hrm.slice
   have HX5:=hid (HX.out.below hb5)
   have HP5:=hid (HP.out.below hb5)
   have HQ5:=hid hq
   clear hq hrm
   have hb05:=hbr.trans (hb5.mono hbr.size)
   go_wp2_with fail
   refine (integer_plus _ _ gk (N/gk) _ (by omega) (by omega) HX5.out HQ5.out).mono ?_
   rintro e w6 ⟨s,rfl,hs,hb6⟩
   obtain ⟨ps,cs,rfl,_,_⟩:=hs.slice
   obtain ⟨w7,hw7⟩ : ∃ q,q=w6.alloc (Obj.cells #[Value.int .u64 2] 144):=⟨_,rfl⟩
   have hb7:Below w6.heap.size w6 w7:=by rw [hw7];exact (Below.refl _ _).alloc (Nat.le_refl _) _
   have HT7:=hid (show U64s w7 (.slice (some ⟨w6.heap.size,0,none⟩) 1 1) (pcs 2) by rw [hw7];exact two_owned)
   have hb57:=hb6.trans (hb7.mono hb6.size)
   have HX7:=hid (HX5.out.below hb57)
   have HP7:=hid (HP5.out.below hb57)
   have HS7:=hid (hs.below hb7)
   have hb07:=hb05.trans (hb57.mono hb05.size)
   have HW7:=hid hw7
   clear hs hb5 hb6 hb7 hb57 hw7 HX5 HP5 HQ5 HX HP
   go_wp2_with fail
   rw [←HW7.out]
   have HDV:=hid (integer_divide _ _ (gk+N/gk) 2 w7 (by decide) (by omega) HS7.out HT7.out)
   unfold DivPost at HDV
   rw [←HYE.out] at HDV
   refine (HDV.out).mono ?_
   rintro e w8 ⟨y,r2,rfl,hy,hr2,hb8,-⟩
   obtain ⟨py,cy,rfl,_,_⟩:=hy.slice
   obtain ⟨pz,cz,rfl,_,_⟩:=hr2.slice
   have HY8:=hid hy
   have HX8:=hid (HX7.out.below hb8)
   have HP8:=hid (HP7.out.below hb8)
   have hb08:=hb07.trans (hb8.mono hb07.size)
   clear hy hr2 hb8 hb07 HX7 HP7 HS7 HT7
   go_wp2_with fail
   refine (integer_order _ _ Y gk _ HY8.out HX8.out).mono ?_
   rintro e w9 ⟨rfl,hb9⟩
   have hb09:=hb08.trans (hb9.mono hb08.size)
   obtain ⟨cv,hcv⟩ : ∃ q,q=cmpI (Y:Int) (gk:Int):=⟨_,rfl⟩
   rw [←hcv]
   have HCV:=hid hcv
   clear hcv
   by_cases hst:gk≤Y
   ·have hc0:decide (0≤cv)=true:=decide_eq_true (by
     rw [HCV.out];unfold cmpI;split
     ·omega
     ·split <;> omega)
    have HE:=hid (newton_stop (r:=r) (x:=gk) (by omega) HRK.out (by rw [←HSQ.out,←HYE.out];exact hst))
    go_wp2_with fail
    refine (integer_close false _ gk (by omega) _ (hw.below hb09) (HX8.out.below hb9)).mono ?_
    rintro e w10 ⟨z,rfl,hz,hb10⟩
    go_wp2
    go_ret2
    refine ⟨_,rfl,?_,hb09.trans (hb10.mono hb09.size)⟩
    rw [←HE.out]
    simpa [signedOf] using hz
   ·have hc0:decide (0≤cv)=false:=decide_eq_false (by
     rw [HCV.out];unfold cmpI;rw [if_pos (by omega)];omega)
    have HLT:=hid (show Y<gk by omega)
    have HYL:=hid (pcs_len_mono (m:=Y) (n:=gk) (by omega))
    clear hst
    go_wp2
    go_roundg Y
    case rel=>exact ⟨HY8.out.below hb9,HP8.out.below hb9,HGE.out,Nat.le_trans HYL.out hkl,hb09⟩
    case measure=>exact HLT.out
end Go.Proofs.YtogdahbbogimcaaGreatDoor
