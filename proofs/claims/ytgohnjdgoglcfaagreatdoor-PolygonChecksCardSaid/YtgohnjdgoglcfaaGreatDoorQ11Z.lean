import Derived.Test.YtgohnjdgoglcfaaGreatDoorQ8Z
set_option maxRecDepth 100000
set_option maxHeartbeats 2000000
namespace Go.Proofs.YtgohnjdgoglcfaaGreatDoor
open Go.Lib (decDigits itoa nDigits compareBytes)
open Go.RowKit Go.Sort
open Go.Lib (hid)
theorem madeCells_int (L:Nat):(madeCells (Value.int IntKind.i64 0).cells (L*1)).toList=(List.replicate L (0:Int)).map pcI:=by
 show (madeCells #[Value.int IntKind.i64 0] (L*1)).toList=_
 rw [Nat.mul_one,toList_madeCells_one]
 simp [pcI]
theorem vz_replicate_zero (L:Nat):vz (List.replicate L 0)=0:=by
 induction L with
 | zero=>rfl
 | succ L ih=>rw [List.replicate_succ,vz_cons,ih];rfl
structure TmsO (ps qs:List Nat) (i:Nat) (zs:List Int):Prop where
 len:zs.length=ps.length+qs.length
 val:vz zs=((v4 (ps.take i)*v4 qs:Nat):Int)
 bnd:∀ x∈zs,0≤x∧x≤100000000*(i:Int)
structure TmsI (ps qs:List Nat) (i P k:Nat) (zs:List Int):Prop where
 len:zs.length=ps.length+qs.length
 val:vz zs=((v4 (ps.take i)*v4 qs+10000 ^ i*(P*v4 (qs.take k)):Nat):Int)
 bnd:∀ x∈zs,0≤x∧x≤100000000*(i:Int)+100000000
 top:∀ t (h:t<zs.length),i+k≤t→zs[t]≤100000000*(i:Int)
theorem TmsO.start (ps qs:List Nat):TmsO ps qs 0 (List.replicate (ps.length+qs.length) 0):=by
 refine ⟨by simp,by rw [vz_replicate_zero];simp,fun x hx=>?_⟩
 rw [List.mem_replicate] at hx
 omega
theorem TmsO.row {ps qs:List Nat} {i:Nat} {zs:List Int} (h:TmsO ps qs i zs) (P:Nat):TmsI ps qs i P 0 zs:=by
 refine ⟨h.len,by rw [h.val];simp,fun x hx=>?_,fun t ht _=>(h.bnd _ (List.getElem_mem ht)).2⟩
 have:=h.bnd x hx
 omega
theorem TmsI.done {ps qs:List Nat} {i:Nat} {zs:List Int} (hi:i<ps.length) (h:TmsI ps qs i ps[i] qs.length zs):TmsO ps qs (i+1) zs:=by
 refine ⟨h.len,?_,fun x hx=>?_⟩
 ·rw [h.val,List.take_length,v4_take_succ hi,Nat.add_mul,Nat.mul_assoc]
 ·have:=h.bnd x hx
  omega
theorem prod4 {x y:Nat} (hx:x<10000) (hy:y<10000):0≤(x:Int)*(y:Int)∧(x:Int)*(y:Int)≤100000000:=by
 have h:x*y≤10000*10000:=Nat.mul_le_mul (by omega) (by omega)
 rw [←Int.natCast_mul]
 omega
theorem TmsI.lay {ps qs:List Nat} {i P k:Nat} {zs:List Int} (h:TmsI ps qs i P k zs) (hP:P<10000) (hq:∀ x∈qs,x<10000) (hk:k<qs.length) (hz:i+k<zs.length):TmsI ps qs i P (k+1) (zs.set (i+k) (zs[i+k]+(P:Int)*(qs[k]:Int))):=by
 have ht:=h.top (i+k) hz (Nat.le_refl _)
 have h0:=(h.bnd _ (List.getElem_mem hz)).1
 have hp:=prod4 hP (hq _ (List.getElem_mem hk))
 refine ⟨by rw [List.length_set];exact h.len,?_,fun x hx=>?_,fun t hi hji=>?_⟩
 ·have e:v4 (ps.take i)*v4 qs+10000 ^ i*(P*(v4 (qs.take k)+10000 ^ k*qs[k]))=(v4 (ps.take i)*v4 qs+10000 ^ i*(P*v4 (qs.take k)))+10000 ^ (i+k)*(P*qs[k]):=by
   rw [Nat.mul_add P,Nat.mul_add (10000 ^ i),Nat.pow_add,Nat.mul_left_comm P,←Nat.mul_assoc (10000 ^ i) (10000 ^ k),←Nat.add_assoc]
  rw [vz_set,h.val,v4_take_succ hk,e,Int.natCast_add (v4 (ps.take i)*v4 qs+10000 ^ i*(P*v4 (qs.take k))),Int.natCast_mul (10000 ^ (i+k)),Int.natCast_pow,Int.natCast_mul P]
  rfl
 ·rcases List.mem_or_eq_of_mem_set hx with h' | h'
  ·exact h.bnd x h'
  ·omega
 ·rw [List.length_set] at hi
  rw [List.getElem_set_ne (by omega)]
  exact h.top t hi (by omega)
theorem q_times (vp vq:Value) (m n:Nat) (hlp:(p4 m).length≤9000000) (hlq:(p4 n).length≤9000000) (w:World) (hvp:N64s w vp (p4 m)) (hvq:N64s w vq (p4 n)) :
  Calls Tryz.prog 140 #[vp,vq] w (TakePost (m*n) w):=by
 have HPL:=hid (p4_lt m)
 have HQL:=hid (p4_lt n)
 have HVV:=hid (show v4 (p4 m)*v4 (p4 n)=m*n by rw [v4_p4,v4_p4])
 generalize p4 m=ps at *
 generalize p4 n=qs at *
 obtain ⟨pa,pc,rfl,hpc,hpm⟩:=hvp.slice
 obtain ⟨qa,qc,rfl,hqc,hqm⟩:=hvq.slice
 obtain ⟨i0,hi,hz0,hz1,hz2⟩:=info_parts slI.info
 unfold maxLen at hpm hqm
 obtain ⟨w1,hmk,hown,hgr⟩:=run_make_full (P:=Tryz.prog) w w.heap.size 151 3 i0 (.int .i64 0) 1 Tryz.underlying151 hi hz0 hz1 .i64 .i64 (ps.length+qs.length) (by rw [hz2];omega) (by unfold maxLen;omega) (Nat.le_refl _)
 rw [show ((ps.length+qs.length:Nat):Int)=(ps.length:Int)+(qs.length:Int) from by omega] at hmk
 rw [madeCells_int] at hown
 have hb1:Below w.heap.size w w1:=(Below.refl _ _).grown hgr (Nat.le_refl _) (fun k h=>by simp at h)
 have HP:=hid hvp
 have HQ:=hid hvq
 have HO1:=hid hown
 clear hgr hvp hvq hown hi hz0 hz1 hz2
 go_enter Tryz.func140,Tryz.ntmps140
 go_wp2
 go_loopw [6,7] (fun iv _ wr=>∃ (i:Nat) (zs:List Int),i≤ps.length∧iv=.int .i64 (i:Int)∧TmsO ps qs i zs∧wr.ownsRow w.heap.size 3 1 (.slice (some ⟨w.heap.size,0,none⟩) (ps.length+qs.length) (ps.length+qs.length)) (ps.length+qs.length) (zs.map pcI)∧Below w.heap.size w wr) (fun iv _ _=>ps.length-(intOf iv).toNat)
 case atStart=>exact ⟨0,_,Nat.zero_le _,rfl,TmsO.start ps qs,HO1.out,hb1⟩
 case round =>
  obtain ⟨i,zs,hi,rfl,hT,hown,hbr⟩:=hrel
  have HT:=hid hT
  have HO:=hid hown
  clear hT hown
  by_cases him:i<ps.length
  ·obtain ⟨b,off,rfl,hb,hcell⟩:=(HP.out.below hbr).cells (by omega)
   have hcp:=hcell i him
   clear hcell
   have hP:=HPL.out _ (List.getElem_mem him)
   have HDN:=hid (fun zs (h:TmsI ps qs i ps[i] qs.length zs)=>h.done him)
   have HRW:=hid (HT.out.row ps[i])
   have HPC:=hid (show ∀ W:World,Below w.heap.size w W→W.cell? ⟨b,off+i,none⟩=some (.int .i64 (ps[i]:Int)) from fun W hW=>by
    obtain ⟨b',off',e,_,hc⟩:=(HP.out.below hW).cells (by omega)
    cases e
    exact hc i him)
   generalize ps[i]=P at *
   go_wp2_with fail
   go_loopw [7] (fun kv wr=>∃ (k:Nat) (ys:List Int),k≤qs.length∧kv=.int .i64 (k:Int)∧TmsI ps qs i P k ys∧wr.ownsRow w.heap.size 3 1 (.slice (some ⟨w.heap.size,0,none⟩) (ps.length+qs.length) (ps.length+qs.length)) (ps.length+qs.length) (ys.map pcI)∧Below w.heap.size w wr) (fun kv _=>qs.length-(intOf kv).toNat)
   case atStart=>exact ⟨0,zs,Nat.zero_le _,rfl,HRW.out,HO.out,hbr⟩
   case round =>
    obtain ⟨k,ys,hk,rfl,hT2,hown2,hbr2⟩:=hrel
    have HT2:=hid hT2
    have HO2:=hid hown2
    clear hT2 hown2
    by_cases hkn:k<qs.length
    ·have hlen:=HT2.out.len
     obtain ⟨J,hJ⟩ : ∃ J,J=i+k:=⟨_,rfl⟩
     have hJy:J<ys.length:=by omega
     have HL:=hid (HT2.out.lay hP HQL.out hkn (by omega))
     obtain ⟨b',off',rfl,hb',hcell'⟩:=(HQ.out.below hbr2).cells (by omega)
     have hcq:=hcell' k hkn
     clear hcell'
     have hco:=HO2.out.cellAt J (by omega)
     rw [List.getElem?_map,List.getElem?_eq_getElem hJy,Option.map_some] at hco
     unfold pcI at hco
     have hqk:=HQL.out _ (List.getElem_mem hkn)
     have hyb:=HT2.out.bnd _ (List.getElem_mem hJy)
     obtain ⟨hm1,hm2⟩:=prod4 hP hqk
     subst hJ
     generalize hx1:ys[i+k]=x at *
     generalize hq1:qs[k]=q at *
     clear hx1 hq1
     obtain ⟨M,hM⟩ : ∃ M,(P:Int)*(q:Int)=M:=⟨_,rfl⟩
     obtain ⟨T,hT⟩ : ∃ T,x+M=T:=⟨_,rfl⟩
     rw [hM] at hm1 hm2
     rw [hM,hT] at HL
     obtain ⟨J,hJ⟩ : ∃ J,J=i+k:=⟨_,rfl⟩
     rw [←hJ] at HL hco hJy
     have HJ:=hid hJ
     have z1:IntKind.i64.wrap ((i:Int)+(k:Int))=(J:Int):=(IntWalk.i64_in _ (by omega)).trans (by omega)
     have z2:IntKind.i64.wrap ((P:Int)*(q:Int))=M:=(IntWalk.i64_in _ (by omega)).trans (by omega)
     have z3:IntKind.i64.wrap (x+M)=T:=(IntWalk.i64_in _ (by omega)).trans (by omega)
     have hJL:J<ps.length+qs.length:=by omega
     have hJL2:(J:Int)<(ps.length:Int)+(qs.length:Int):=by omega
     have hJL3:(J:Int)<((ps.length+qs.length:Nat):Int):=by omega
     have hcp2:=HPC.out _ hbr2
     clear hM hT hJ hm1 hm2 hyb
     go_wp2_with fail
     go_still_tail 17,(by kernel_rfl)
     change wpList _ _ _ _ _ wr.drew
     have hbd:Below w.heap.size w wr.drew:=hbr2.trans ⟨rfl,rfl,rfl,Nat.le_refl _,fun _ _=>rfl⟩
     have hco2:wr.drew.cell? ⟨w.heap.size,J,none⟩=some (.int .i64 x):=hco
     have hfo2:=World.ownsRow.frozenAt (w:=wr.drew) HO2.out J
     have HS2:=hid (show (wr.drew.setCell ⟨w.heap.size,J,none⟩ (.int .i64 T)).ownsRow w.heap.size 3 1 (.slice (some ⟨w.heap.size,0,none⟩) (ps.length+qs.length) (ps.length+qs.length)) (ps.length+qs.length) ((ys.set J T).map pcI) from storedI (w:=wr.drew) HO2.out J T)
     clear hco hcq hcp2 hb'
     generalize wr.drew=wd at *
     go_wp2
     refine ⟨⟨k+1,ys.set J T,by omega,congrArg (Value.int .i64) (by omega),HL.out,HS2.out,hbd.setCell (Nat.le_refl _) _⟩,?_⟩
     show qs.length-((k:Int)+1).toNat<qs.length-((k:Int)).toNat
     omega
    ·obtain rfl:k=qs.length:=by omega
     go_wp2
     refine ⟨⟨i+1,ys,by omega,congrArg (Value.int .i64) (by omega),HDN.out _ HT2.out,HO2.out,hbr2⟩,?_⟩
     show ps.length-((i:Int)+1).toNat<ps.length-((i:Int)).toNat
     omega
  ·obtain rfl:i=ps.length:=by omega
   have HE:=hid (show vz zs=((m*n:Nat):Int) by rw [HT.out.val,List.take_length,HVV.out])
   have HX:=hid (show ∀ x∈zs,-1000000000000000≤x∧x≤1000000000000000 from fun x hx=>by have:=HT.out.bnd x hx;omega)
   have HLN:=hid HT.out.len
   go_wp2_with fail
   refine (q_carry _ zs (m*n) HE.out HX.out (by have:=HLN.out;omega) _ (I64s.of_owns HO.out HLN.out.symm)).mono ?_
   rintro e w2 ⟨v',rfl,hv',hb'⟩
   have HV':=hid hv'
   clear hv'
   go_wp2
   go_ret
   exact ⟨_,rfl,HV'.out,hbr.trans (hb'.mono hbr.size)⟩
theorem sgnd_mul (m n:Int):sgnd (decide (m<0) != decide (n<0)) (m.natAbs*n.natAbs)=m*n:=by
 unfold sgnd
 rw [Int.natCast_mul]
 by_cases hm:m<0
 ·by_cases hn:n<0
  ·rw [decide_eq_true hm,decide_eq_true hn,if_neg (by decide),show ((m.natAbs:Nat):Int) = -m by omega,show ((n.natAbs:Nat):Int) = -n by omega,Int.neg_mul_neg]
  ·rw [decide_eq_true hm,decide_eq_false hn,if_pos (by decide),show ((m.natAbs:Nat):Int) = -m by omega,show ((n.natAbs:Nat):Int)=n by omega,Int.neg_mul,Int.neg_neg]
 ·by_cases hn:n<0
  ·rw [decide_eq_false hm,decide_eq_true hn,if_pos (by decide),show ((m.natAbs:Nat):Int)=m by omega,show ((n.natAbs:Nat):Int) = -n by omega,Int.mul_neg,Int.neg_neg]
  ·rw [decide_eq_false hm,decide_eq_false hn,if_neg (by decide),show ((m.natAbs:Nat):Int)=m by omega,show ((n.natAbs:Nat):Int)=n by omega]
theorem p4_mul_len (m n:Nat):(p4 (m*n)).length≤(p4 m).length+(p4 n).length:=by
 apply p4_len_lt
 rw [Nat.pow_add]
 exact Nat.mul_lt_mul'' (lt_of_p4_len m) (lt_of_p4_len n)
theorem mul_small18 {m n:Int} {j k:Nat} (hm:m.natAbs<10 ^ j) (hn:n.natAbs<10 ^ k) (h:j+k≤18):-1000000000000000000<m*n∧m*n<1000000000000000000:=by
 have h1:m.natAbs*n.natAbs<10 ^ j*10 ^ k:=Nat.mul_lt_mul'' hm hn
 rw [←Nat.pow_add] at h1
 have h2:10 ^ (j+k)≤10 ^ 18:=Nat.pow_le_pow_right (by decide) h
 have h3:(m*n).natAbs<10 ^ 18:=by rw [Int.natAbs_mul];omega
 omega
theorem q_Mul (a b:ByteArray) (m n:Int) (ha:IsI a m) (hb:IsI b n) (hsa:a.size≤9000000) (hsb:b.size≤9000000) (w:World) (hw:Good w) :
  Calls Tryz.prog 95 #[.string a,.string b] w (MadePost (m*n) w):=by
 have HSA:=hid (fun W=>q_Split a m ha W)
 have HSB:=hid (fun W=>q_Split b n hb W)
 have HMA:=hid (fun h W=>q_Small a m ha h W)
 have HMB:=hid (fun h W=>q_Small b n hb h W)
 unfold SplitPost at HSA HSB
 have lm:=ha.p4_len
 have ln:=hb.p4_len
 have TA:=hid (fun (r:ByteArray) (h:IsI r (m.natAbs:Int))=>(⟨h.mag_take,by have:=mag_size_le ha h;omega,natAbs_lt_of_itoa_length (n:=(m.natAbs:Int)) (k:=r.size) (by rw [←h.size];exact Nat.le_refl _),h.pos⟩ : r.data.toList=decDigits m.natAbs∧r.size≤9000000∧((m.natAbs:Nat):Int).natAbs<10 ^ r.size∧0<r.size))
 have TB:=hid (fun (r:ByteArray) (h:IsI r (n.natAbs:Int))=>(⟨h.mag_take,by have:=mag_size_le hb h;omega,natAbs_lt_of_itoa_length (n:=(n.natAbs:Int)) (k:=r.size) (by rw [←h.size];exact Nat.le_refl _),h.pos⟩ : r.data.toList=decDigits n.natAbs∧r.size≤9000000∧((n.natAbs:Nat):Int).natAbs<10 ^ r.size∧0<r.size))
 have HS:=hid (sgnd_mul m n)
 have HM18:=hid (fun (j k:Nat) (h1:m.natAbs<10 ^ j) (h2:n.natAbs<10 ^ k) (h:j+k≤18)=>mul_small18 h1 h2 h)
 have HW:=hid hw
 clear ha hb hw
 obtain ⟨bm,hbm⟩ : ∃ bm,decide (m<0)=bm:=⟨_,rfl⟩
 obtain ⟨bn,hbn⟩ : ∃ bn,decide (n<0)=bn:=⟨_,rfl⟩
 rw [hbm] at HSA HS
 rw [hbn] at HSB HS
 clear hbm hbn
 go_enter Tryz.func95,Tryz.ntmps95
 go_wp2_with fail
 refine (HSA.out _).mono ?_
 rintro e w3 ⟨r,rfl,hr,hb3⟩
 have HR:=hid (TA.out r hr)
 have hrs:=HR.out.2.1
 clear hr
 go_wp2_with fail
 refine (HSB.out _).mono ?_
 rintro e w4 ⟨s,rfl,hs,hb4⟩
 have HT:=hid (TB.out s hs)
 have hss:=HT.out.2.1
 have hb14:=hb3.trans (hb4.mono hb3.size)
 clear hs hb4 hb3
 by_cases hl:r.size+s.size≤18
 ·have hl2:(r.size:Int)+(s.size:Int)≤18:=by omega
  have hmr:m.natAbs<10 ^ r.size:=HR.out.2.2.1
  have hnr:n.natAbs<10 ^ s.size:=HT.out.2.2.1
  have HBD:=hid (HM18.out _ _ hmr hnr hl)
  have HM9:=hid (Nat.lt_of_lt_of_le hmr (Nat.pow_le_pow_right (n:=10) (j:=18) (by decide) (by omega)))
  have HN9:=hid (Nat.lt_of_lt_of_le hnr (Nat.pow_le_pow_right (n:=10) (j:=18) (by decide) (by omega)))
  clear hmr hnr
  go_wp2_with fail
  refine (HMA.out HM9.out _).mono ?_
  rintro e w5 ⟨rfl,hb5⟩
  have hb15:=hb14.trans (hb5.mono hb14.size)
  clear hb5 hb14
  go_wp2_with fail
  refine (HMB.out HN9.out _).mono ?_
  rintro e w6 ⟨rfl,hb6⟩
  have hb16:=hb15.trans (hb6.mono hb15.size)
  clear hb6 hb15
  have hp1:=HBD.out.1
  have hp2:=HBD.out.2
  have HOF:=hid (q_Of (m*n) (by omega) (by omega) _ (HW.out.below hb16))
  have hz:IntKind.i64.wrap (m*n)=m*n:=IntWalk.i64_in _ (by omega)
  go_wp2_with fail
  refine HOF.out.mono ?_
  rintro e w7 ⟨t,rfl,ht,hb7⟩
  have HR7:=hid ht
  clear ht
  go_wp2
  go_ret
  exact ⟨_,rfl,HR7.out,hb16.trans (hb7.mono hb16.size)⟩
 ·have hl2:18<(r.size:Int)+(s.size:Int):=by omega
  have lp:=p4_mul_len m.natAbs n.natAbs
  generalize m.natAbs=M at *
  generalize n.natAbs=N at *
  go_wp2_with fail
  refine (q_take r M HR.out.1 (by omega) _).mono ?_
  rintro e w5 ⟨v5,rfl,hv5,hb5⟩
  have HV5:=hid hv5
  have hb15:=hb14.trans (hb5.mono hb14.size)
  clear hv5 hb5 hb14
  go_wp2_with fail
  refine (q_take s N HT.out.1 (by omega) _).mono ?_
  rintro e w6 ⟨v6,rfl,hv6,hb6⟩
  have HP5:=hid (HV5.out.below hb6)
  have HP6:=hid hv6
  have hb16:=hb15.trans (hb6.mono hb15.size)
  clear hv6 hb6 hb15 HV5
  go_wp2_with fail
  refine (q_times _ _ M N (by omega) (by omega) _ HP5.out HP6.out).mono ?_
  rintro e w7 ⟨v7,rfl,hv7,hb7⟩
  have HP7:=hid hv7
  have hb17:=hb16.trans (hb7.mono hb16.size)
  clear hv7 hb7 hb16
  go_wp2_with fail
  refine (q_made _ _ (M*N) (by omega) _ (HW.out.below hb17) HP7.out).mono ?_
  rintro e w8 ⟨r8,rfl,hr8,hb8⟩
  have HR8:=hid hr8
  clear hr8
  go_wp2
  go_ret
  exact ⟨_,rfl,by rw [←HS.out];exact HR8.out,hb17.trans (hb8.mono hb17.size)⟩
end Go.Proofs.YtgohnjdgoglcfaaGreatDoor
