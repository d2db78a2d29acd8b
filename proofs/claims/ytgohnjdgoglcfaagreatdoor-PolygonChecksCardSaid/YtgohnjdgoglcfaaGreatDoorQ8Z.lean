import Derived.Test.YtgohnjdgoglcfaaGreatDoorQ6Z
import Derived.Laws.AppendOwnNone
import Derived.StillTailTactics
import Derived.RangeFuncRecord
set_option maxRecDepth 100000
set_option maxHeartbeats 2000000
namespace Go.Proofs.YtgohnjdgoglcfaaGreatDoor
open Go.Lib (decDigits itoa nDigits compareBytes)
open Go.RowKit Go.Sort
open Go.Lib (hid)
theorem pcI_one {xs:List Int}:∀ u∈xs.map pcI,u.oneCell'=true:=by
 intro u hu
 obtain ⟨x,_,rfl⟩:=List.mem_map.1 hu
 rfl
theorem app_srcI {ops:Array Oper} {rest:List Oper} {o:Oper} {a:Act} {Q:Exit→Act→World→Prop} {w:World}
  (hgd:o.guard=none) (s x:Operand) (ho:o.op=.call { callee:=.builtin .append,args:=#[s,x],argTypes:=#[151,151] })
  (base:Nat) (v:Value) (n:Nat) (xs:List Value) (hs:a.eval s=v) (hown:w.ownsRow base 3 1 v n xs)
  (sv:Value) (ys:List Int) (hx:a.eval x=sv) (hr:I64s w sv ys)
  (hn:(n+ys.length)*8≤140737488355328) (hbase:base≤w.heap.size)
  (h:∀ v' w',w'.ownsRow base 3 1 v' (n+ys.length) (xs++ys.map pcI)→Below base w w'→wpList Tryz.prog ops Q rest (a.put o.dst v') w'):wpList Tryz.prog ops Q (o :: rest) a w:=by
 obtain ⟨i,hi,hz0,hz1,hz2⟩:=info_parts slI.info
 have hnil:=hr.2
 obtain ⟨p,c,rfl,hc,hm⟩:=hr.slice
 cases p with
 | none =>
  obtain ⟨h1,h2⟩:=hnil _ _ rfl
  have hy:ys=[]:=List.eq_nil_of_length_eq_zero h1
  subst hy h2
  refine wpList_append_own_none hgd s x _ ho base _ i 1 slI.ht hi v n xs hs hown hx ?_
  exact h v w (by simpa using hown) (Below.refl _ _)
 | some ad =>
  refine wpList_append_own _ hgd s x _ ho base _ i (.int .i64 0) 1 8 slI.ht hi hz0 hz1 hz2 rfl (by decide) v n xs hs hown ad ys.length c (ys.map pcI) hx (by simp) ?_ pcI_one (by unfold maxLen;omega) hn hbase ?_
  ·intro j u hj
   have hjl:j<ys.length:=by
    have:=(List.getElem?_eq_some_iff.1 hj).1
    simpa using this
   obtain ⟨b,off,e,hb,hcell⟩:=hr.cells (by omega)
   cases e
   rw [List.getElem?_map,List.getElem?_eq_getElem hjl,Option.map_some] at hj
   have:=hcell j hjl
   have e2:(⟨b,off,none⟩ : Addr).add j=⟨b,off+j,none⟩:=by
    unfold Addr.add;split
    ·rename_i h;rw [h];rfl
    ·rfl
   rw [e2,this]
   exact hj
  ·intro v' w' h2 h3 _
   exact h v' w' h2 ((Below.refl _ _).grown h3 hbase (fun k hk=>(hown.lt k hk).1))
theorem storedI {w:World} {base g n cap:Nat} {ps:List Int} (h:w.ownsRow base 3 1 (.slice (some ⟨g,0,none⟩) n cap) n (ps.map pcI)) (j:Nat) (X:Int) :
  (w.setCell ⟨g,j,none⟩ (.int .i64 X)).ownsRow base 3 1 (.slice (some ⟨g,0,none⟩) n cap) n ((ps.set j X).map pcI):=by
 rw [List.map_set];exact (h.stored j _).1
structure Jnd (ps qs:List Nat) (k:Int) (j:Nat) (zs:List Int):Prop where
 jle:j≤qs.length
 val:vz zs=(v4 ps:Int)+k*(v4 (qs.take j):Int)
 len:zs.length≤ps.length+qs.length
 bnd:∀ x∈zs,-100000000≤x∧x≤100010000
 top:∀ i (h:i<zs.length),j≤i→0≤zs[i]∧zs[i]<10000
theorem Jnd.start {ps qs:List Nat} {k:Int} (hp:∀ x∈ps,x<10000):Jnd ps qs k 0 (zz ps):=by
 have hz:∀ x∈zz ps,0≤x∧x<10000:=by
  intro x hx
  obtain ⟨n,hn,rfl⟩:=List.mem_map.1 hx
  have:=hp n hn
  omega
 refine ⟨Nat.zero_le _,?_,?_,fun x hx=>?_,fun i h _=>hz _ (List.getElem_mem h)⟩
 ·rw [vz_zz,List.take_zero];simp
 ·rw [zz_len];omega
 ·have:=hz x hx;omega
theorem Jnd.push {ps qs:List Nat} {k:Int} {j:Nat} {zs:List Int} (h:Jnd ps qs k j zs) (hl:zs.length≤j) (hj:j<qs.length):Jnd ps qs k j (zs ++ [0]):=by
 refine ⟨h.jle,?_,?_,fun x hx=>?_,fun i hi hji=>?_⟩
 ·rw [vz_snoc,h.val];simp
 ·rw [List.length_append,List.length_singleton];omega
 ·rcases List.mem_append.1 hx with h1 | h1
  ·exact h.bnd x h1
  ·simp only [List.mem_singleton] at h1;omega
 ·rw [List.length_append,List.length_singleton] at hi
  rw [List.getElem_append_right (by omega)]
  simp
theorem kprod {k:Int} {q:Nat} (h1:-9999≤k) (h2:k≤9999) (hq:q<10000):-100000000≤k*(q:Int)∧k*(q:Int)≤100000000:=by
 have a:=Int.mul_le_mul_of_nonneg_right h2 (show (0:Int)≤(q:Int) by omega)
 have b:=Int.mul_le_mul_of_nonneg_right h1 (show (0:Int)≤(q:Int) by omega)
 omega
theorem Jnd.lay {ps qs:List Nat} {k:Int} {j:Nat} {zs:List Int} (h:Jnd ps qs k j zs) (hk:-9999≤k∧k≤9999) (hq:∀ x∈qs,x<10000) (hj:j<qs.length) (hz:j<zs.length):Jnd ps qs k (j+1) (zs.set j (zs[j]+k*(qs[j]:Int))):=by
 have ht:=h.top j hz (Nat.le_refl _)
 have hqj:=hq _ (List.getElem_mem hj)
 refine ⟨hj,?_,?_,fun x hx=>?_,fun i hi hji=>?_⟩
 ·rw [vz_set,h.val,v4_take_succ hj]
  rw [Int.natCast_add,Int.natCast_mul,Int.natCast_pow,Int.mul_add]
  rw [Int.mul_left_comm k,Int.add_assoc]
  rfl
 ·rw [List.length_set];exact h.len
 ·rcases List.mem_or_eq_of_mem_set hx with h' | h'
  ·exact h.bnd x h'
  ·have:=kprod hk.1 hk.2 hqj
   omega
 ·rw [List.length_set] at hi
  rw [List.getElem_set_ne (by omega)]
  exact h.top i hi (by omega)
theorem q_joined (vp vq:Value) (ps qs:List Nat) (k:Int) (V:Nat) (hk:-9999≤k∧k≤9999) (hV:(v4 ps:Int)+k*(v4 qs:Int)=(V:Int)) (hp:∀ x∈ps,x<10000) (hq:∀ x∈qs,x<10000)
  (hlp:ps.length≤100000000) (hlq:qs.length≤100000000) (w:World) (hvp:N64s w vp ps) (hvq:N64s w vq qs) :
  Calls Tryz.prog 137 #[vp,vq,.int .i64 k,.int .i64 0] w (TakePost V w):=by
 obtain ⟨pa,pc,rfl,hpc,hpm⟩:=hvp.slice
 obtain ⟨qa,qc,rfl,hqc,hqm⟩:=hvq.slice
 unfold maxLen at hpm hqm
 have HP:=hid hvp
 have HQ:=hid hvq
 have HV:=hid hV
 have HK:=hid hk
 have hk1:-9999≤k:=hk.1
 have hk2:k≤9999:=hk.2
 have HJ0:=hid (Jnd.start (qs:=qs) (k:=k) hp)
 have HQL:=hid hq
 have hzl:=zz_len ps
 clear hvp hvq hV hk hp hq
 go_enter Tryz.func137,Tryz.ntmps137
 have hown0:(w.alloc (Obj.cells #[] 3)).ownsRow w.heap.size 3 1 (.slice (some ⟨w.heap.size,0,none⟩) 0 0) 0 []:=
  ⟨rfl,.inr ⟨w.heap.size,0,#[],rfl,Nat.le_refl _,World.alloc_heap_new w _,Nat.le_refl _,by unfold maxLen;omega,rfl,rfl⟩⟩
 have hb0:Below w.heap.size w (w.alloc (Obj.cells #[] 3)):=(Below.refl _ _).alloc (Nat.le_refl _) _
 have HO0:=hid hown0
 clear hown0
 go_wp2_with (at_builtin;refine app_srcI rfl _ _ rfl w.heap.size _ 0 _ rfl HO0.out _ (zz ps) rfl (HP.out.below hb0) (by omega) hb0.size ?_;intro v1 w1 hown1 hb1;have HO1:=hid hown1;clear hown1)
 have HB1:=hid (hb0.trans (hb1.mono (Nat.le_refl _)))
 clear hb0 hb1
 go_loopw [9,10] (fun ov iv wr=>∃ (j:Nat) (zs:List Int),iv=.int .i64 (j:Int)∧Jnd ps qs k j zs∧wr.ownsRow w.heap.size 3 1 ov zs.length (zs.map pcI)∧Below w.heap.size w wr) (fun _ iv _=>qs.length-(intOf iv).toNat)
 case atStart=>exact ⟨0,zz ps,rfl,HJ0.out,by simpa using HO1.out,HB1.out⟩
 case round =>
  obtain ⟨j,zs,rfl,hJ,hown,hbr⟩:=hrel
  have HJ:=hid hJ
  have HO:=hid hown
  have hjle:=hJ.jle
  have hlen:=hJ.len
  clear hJ hown
  by_cases hj:j<qs.length
  ·go_wp2_with fail
   go_loopw [9] (fun ov wr=>∃ zs:List Int,Jnd ps qs k j zs∧wr.ownsRow w.heap.size 3 1 ov zs.length (zs.map pcI)∧Below w.heap.size w wr) (fun ov _=>j+1-lenOf ov)
   case atStart=>exact ⟨zs,HJ.out,HO.out,hbr⟩
   case round =>
    obtain ⟨ys,hJ2,hown2,hbr2⟩:=hrel
    have HJ2:=hid hJ2
    have HO2:=hid hown2
    have hlen2:=hJ2.len
    obtain ⟨p2,c2,hv2,hc2,hm2⟩:=(I64s.of_owns hown2 rfl).slice
    subst hv2
    have hk8:(ys.length+1)*8≤140737488355328:=by omega
    clear hJ2 hown2
    by_cases hyj:ys.length≤j
    ·go_wp2_with (at_builtin;refine app_new slI rfl _ _ rfl w.heap.size _ ys.length _ rfl HO2.out 1 1 _ rfl rfl oneCell_int hk8 (by decide) hbr2.size ((ys ++ [0]).map pcI) (by simp [pcI]) ?_;intro v3 w3 hown3 hb3;have HO3:=hid hown3;clear hown3)
     refine ⟨⟨ys ++ [0],HJ2.out.push hyj hj,by rw [List.length_append,List.length_singleton];exact HO3.out,hbr2.trans hb3⟩,?_⟩
     obtain ⟨p3,c3,hv3,hc3,hm3⟩:=(I64s.of_owns HO3.out (by rw [List.length_append,List.length_singleton])).slice
     subst hv3
     show j+1-lenOf (.slice p3 (ys ++ [0]).length c3)<j+1-lenOf (.slice p2 ys.length c2)
     simp [lenOf]
     omega
    ·have hjy:j<ys.length:=by omega
     obtain ⟨b,off,rfl,hb,hcell⟩:=(HQ.out.below hbr2).cells (by omega)
     have hcq:=hcell j hj
     clear hcell
     obtain ⟨g,cap,hgv,hgb⟩ : ∃ g cap,Value.slice p2 ys.length c2=.slice (some ⟨g,0,none⟩) ys.length cap∧w.heap.size≤g:=by
      obtain ⟨_,h | ⟨g,cap,cur,hv',hgb,_⟩⟩:=HO2.out
      ·exfalso;have:=h.2;omega
      ·exact ⟨g,cap,hv',hgb⟩
     simp only [Value.slice.injEq,true_and] at hgv
     obtain ⟨rfl,rfl⟩:=hgv
     have hco:=HO2.out.cellAt j (by omega)
     rw [List.getElem?_map,List.getElem?_eq_getElem hjy,Option.map_some] at hco
     have hfo:=HO2.out.frozenAt j
     unfold pcI at hco
     have hqj:=HQL.out _ (List.getElem_mem hj)
     have hyb:=HJ2.out.bnd _ (List.getElem_mem hjy)
     have HL:=hid (HJ2.out.lay HK.out HQL.out hj hjy)
     have HS:=hid (fun X=>storedI HO2.out j X)
     generalize hx1:ys[j]=x at *
     generalize hq1:qs[j]=q at *
     clear hx1 hq1
     obtain ⟨M,hM⟩ : ∃ M,k*(q:Int)=M:=⟨_,rfl⟩
     obtain ⟨T,hT⟩ : ∃ T,x+M=T:=⟨_,rfl⟩
     rw [hM,hT] at HL
     have hMb:-100000000≤M∧M≤100000000:=by rw [←hM];exact kprod hk1 hk2 hqj
     have z1:IntKind.i64.wrap (j:Int)=(j:Int):=IntWalk.i64_in _ (by omega)
     have z2:IntKind.i64.wrap (k*(q:Int))=M:=(IntWalk.i64_in _ (by omega)).trans (by omega)
     have z3:IntKind.i64.wrap (x+M)=T:=(IntWalk.i64_in _ (by omega)).trans (by omega)
     have z4:IntKind.i64.wrap ((j:Int)+0)=(j:Int):=by rw [Int.add_zero];exact z1
     clear hM hT
     go_wp2_with fail
     go_still_tail 14,(by kernel_rfl)
     change wpList _ _ _ _ _ wr.drew
     have hbd:Below w.heap.size w wr.drew:=hbr2.trans ⟨rfl,rfl,rfl,Nat.le_refl _,fun _ _=>rfl⟩
     have hco2:wr.drew.cell? ⟨g,j,none⟩=some (.int .i64 x):=hco
     have hfo2:=World.ownsRow.frozenAt (w:=wr.drew) HO2.out j
     have HS2:=hid (show (wr.drew.setCell ⟨g,j,none⟩ (.int .i64 T)).ownsRow w.heap.size 3 1 (.slice (some ⟨g,0,none⟩) ys.length c2) ys.length ((ys.set j T).map pcI) from storedI (w:=wr.drew) HO2.out j T)
     clear HS hco hfo hcq hb
     generalize wr.drew=wd at *
     go_wp2
     refine ⟨⟨j+1,ys.set j T,congrArg (Value.int .i64) (by omega),HL.out,by rw [List.length_set];exact HS2.out,hbd.setCell hgb _⟩,?_⟩
     show qs.length-((j:Int)+1).toNat<qs.length-((j:Int)).toNat
     omega
  ·obtain rfl:j=qs.length:=by omega
   have HE:=hid (show vz zs=(V:Int) by rw [HJ.out.val,List.take_length];exact HV.out)
   have HX:=hid (show ∀ x∈zs,-1000000000000000≤x∧x≤1000000000000000 from fun x hx=>by have:=HJ.out.bnd x hx;omega)
   go_wp2_with fail
   refine (q_carry _ zs V HE.out HX.out (by omega) _ (I64s.of_owns HO.out rfl)).mono ?_
   rintro e w2 ⟨v',rfl,hv',hb'⟩
   have HV':=hid hv'
   clear hv'
   go_wp2
   go_ret
   exact ⟨_,rfl,HV'.out,hbr.trans (hb'.mono hbr.size)⟩
theorem p4_len_digits (n:Nat):(p4 n).length≤nDigits n:=
 p4_len_lt (Nat.lt_of_lt_of_le (Go.Lib.lt_pow_nDigits n) (Nat.pow_le_pow_left (by decide) _))
theorem p4_add_len {m n k:Nat} (hm:(p4 m).length≤k) (hn:(p4 n).length≤k):(p4 (m+n)).length≤k+1:=by
 apply p4_len_lt
 have h1:=Nat.lt_of_lt_of_le (lt_of_p4_len m) (Nat.pow_le_pow_right (by decide) hm)
 have h2:=Nat.lt_of_lt_of_le (lt_of_p4_len n) (Nat.pow_le_pow_right (by decide) hn)
 rw [Nat.pow_succ]
 omega
theorem IsI.p4_len {s:ByteArray} {n:Int} (h:IsI s n):(p4 n.natAbs).length≤s.size:=by
 have h1:=p4_len_digits n.natAbs
 have h2:=h.size
 rw [itoa_length] at h2
 omega
theorem IsI.mag_take {s:ByteArray} {n:Int} (h:IsI s (n.natAbs:Int)):s.data.toList=decDigits n.natAbs:=by rw [h,itoa_nat]
theorem sgnd_same {m n:Int} (h:decide (m<0)=decide (n<0)):sgnd (decide (m<0)) (m.natAbs+n.natAbs)=m+n:=by
 unfold sgnd
 by_cases hm:m<0
 ·rw [decide_eq_true hm] at h
  have hn:n<0:=of_decide_eq_true h.symm
  rw [if_pos (decide_eq_true hm)];omega
 ·rw [decide_eq_false hm] at h
  have hn:¬ n<0:=of_decide_eq_false h.symm
  rw [decide_eq_false hm,if_neg (by decide)];omega
theorem sgnd_less {m n:Int} (h:decide (m<0)≠decide (n<0)) (hl:m.natAbs<n.natAbs):sgnd (decide (n<0)) (n.natAbs-m.natAbs)=m+n:=by
 unfold sgnd
 by_cases hn:n<0
 ·have hm:¬ m<0:=fun hm=>h (by rw [decide_eq_true hm,decide_eq_true hn])
  rw [if_pos (decide_eq_true hn)];omega
 ·have hm:m<0:=by
   by_cases hm:m<0
   ·exact hm
   ·exact absurd (by rw [decide_eq_false hm,decide_eq_false hn]) h
  rw [decide_eq_false hn,if_neg (by decide)];omega
theorem sgnd_more {m n:Int} (h:decide (m<0)≠decide (n<0)) (hl:¬ m.natAbs<n.natAbs):sgnd (decide (m<0)) (m.natAbs-n.natAbs)=m+n:=by
 have:=sgnd_less (m:=n) (n:=m) (fun e=>h e.symm)
 unfold sgnd
 by_cases hm:m<0
 ·have hn:¬ n<0:=fun hn=>h (by rw [decide_eq_true hm,decide_eq_true hn])
  rw [if_pos (decide_eq_true hm)];omega
 ·have hn:n<0:=by
   by_cases hn:n<0
   ·exact hn
   ·exact absurd (by rw [decide_eq_false hm,decide_eq_false hn]) h
  rw [decide_eq_false hm,if_neg (by decide)];omega
theorem q_Add (a b:ByteArray) (m n:Int) (ha:IsI a m) (hb:IsI b n) (hsa:a.size≤90000000) (hsb:b.size≤90000000) (w:World) (hw:Good w) :
  Calls Tryz.prog 94 #[.string a,.string b] w (MadePost (m+n) w):=by
 have HBA:=hid (fun W=>q_brief a m ha W)
 have HBB:=hid (fun W=>q_brief b n hb W)
 have HSA:=hid (fun W=>q_Split a m ha W)
 have HSB:=hid (fun W=>q_Split b n hb W)
 unfold SplitPost at HSA HSB
 have lm:=ha.p4_len
 have ln:=hb.p4_len
 have TA:=hid (fun (r:ByteArray) (h:IsI r (m.natAbs:Int))=>(⟨h.mag_take,by have:=mag_size_le ha h;omega⟩ : r.data.toList=decDigits m.natAbs∧r.size≤100000000))
 have TB:=hid (fun (r:ByteArray) (h:IsI r (n.natAbs:Int))=>(⟨h.mag_take,by have:=mag_size_le hb h;omega⟩ : r.data.toList=decDigits n.natAbs∧r.size≤100000000))
 have S1:=hid (@sgnd_same m n)
 have S2:=hid (@sgnd_less m n)
 have S3:=hid (@sgnd_more m n)
 have HW:=hid hw
 clear ha hb hw
 obtain ⟨M,hM⟩ : ∃ M,m.natAbs=M:=⟨_,rfl⟩
 obtain ⟨N,hN⟩ : ∃ N,n.natAbs=N:=⟨_,rfl⟩
 obtain ⟨bm,hbm⟩ : ∃ bm,decide (m<0)=bm:=⟨_,rfl⟩
 obtain ⟨bn,hbn⟩ : ∃ bn,decide (n<0)=bn:=⟨_,rfl⟩
 rw [hM] at HBA HSA TA S1 S2 S3 lm
 rw [hN] at HBB HSB TB S1 S2 S3 ln
 rw [hbm] at HSA S1 S2 S3
 rw [hbn] at HSB S1 S2 S3
 have HMN:=hid (And.intro hM hN)
 clear hM hN hbm hbn
 go_enter Tryz.func94,Tryz.ntmps94
 go_wp2_with fail
 refine (HBA.out w).mono ?_
 rintro e w1 ⟨(⟨rfl,hm⟩ | rfl),hb1⟩
 all_goals
  go_wp2_with fail
  refine (HBB.out w1).mono ?_
  rintro e w2 ⟨(⟨rfl,hn⟩ | rfl),hb2⟩
 all_goals
  have hb12:=hb1.trans (hb2.mono hb1.size)
  clear hb2
 ·have h1:-200000000000000000≤m+n∧m+n≤200000000000000000:=by
   obtain ⟨e1,e2⟩:=HMN.out
   omega
  have hg:=HW.out.below hb12
  go_wp2_with fail
  refine (q_Of (m+n) (by omega) (by omega) _ hg).mono ?_
  rintro e w3 ⟨r,rfl,hr,hb3⟩
  have HR:=hid hr
  clear hr
  go_wp2
  go_ret
  exact ⟨_,rfl,HR.out,hb12.trans (hb3.mono hb12.size)⟩
 all_goals
  go_wp2_with fail
  refine (HSA.out _).mono ?_
  rintro e w3 ⟨r,rfl,hr,hb3⟩
  have HR:=hid (TA.out r hr)
  have hb13:=hb12.trans (hb3.mono hb12.size)
  clear hr hb3 hb12
  go_wp2_with fail
  refine (HSB.out _).mono ?_
  rintro e w4 ⟨s,rfl,hs,hb4⟩
  have HT:=hid (TB.out s hs)
  have hb14:=hb13.trans (hb4.mono hb13.size)
  clear hs hb4 hb13
  go_wp2_with fail
  refine (q_take r M HR.out.1 HR.out.2 _).mono ?_
  rintro e w5 ⟨v5,rfl,hv5,hb5⟩
  have HV5:=hid hv5
  have hb15:=hb14.trans (hb5.mono hb14.size)
  clear hv5 hb5 hb14
  go_wp2_with fail
  refine (q_take s N HT.out.1 HT.out.2 _).mono ?_
  rintro e w6 ⟨v6,rfl,hv6,hb6⟩
  have HP5:=hid (HV5.out.below hb6)
  have HP6:=hid hv6
  have hb16:=hb15.trans (hb6.mono hb15.size)
  clear hv6 hb6 hb15 HV5
  by_cases hs:bm=bn
  ·have HE:=hid (S1.out hs)
   subst hs
   go_wp2_with fail
   refine (q_joined _ _ (p4 M) (p4 N) 1 (M+N) (by decide) (by rw [v4_p4,v4_p4];omega) (p4_lt M) (p4_lt N) (by omega) (by omega) _ HP5.out HP6.out).mono ?_
   rintro e w7 ⟨v7,rfl,hv7,hb7⟩
   have HP7:=hid hv7
   have hb17:=hb16.trans (hb7.mono hb16.size)
   clear hv7 hb7 hb16
   go_wp2_with fail
   refine (q_made _ _ (M+N) (by have:=p4_add_len (k:=90000000) (m:=M) (n:=N) (by omega) (by omega);omega) _ (HW.out.below hb17) HP7.out).mono ?_
   rintro e w8 ⟨r8,rfl,hr8,hb8⟩
   have HR8:=hid hr8
   clear hr8
   go_wp2
   go_ret
   exact ⟨_,rfl,by rw [←HE.out];exact HR8.out,hb17.trans (hb8.mono hb17.size)⟩
  ·have hsb:(bm == bn)=false:=by simpa using hs
   by_cases hl:M<N
   ·have hld:decide (M<N)=true:=decide_eq_true hl
    have HE:=hid (S2.out hs hl)
    have hle:(p4 (N-M)).length≤90000000:=by have:=p4_len_mono (show N-M≤N by omega);omega
    go_wp2_with fail
    refine (q_less _ _ M N _ HP5.out HP6.out).mono ?_
    rintro e w7 ⟨rfl,hb7⟩
    rw [hld]
    have HP5':=hid (HP5.out.below hb7)
    have HP6':=hid (HP6.out.below hb7)
    have hb17:=hb16.trans (hb7.mono hb16.size)
    clear hb7 hb16 HP5 HP6
    go_wp2_with fail
    refine (q_joined _ _ (p4 N) (p4 M) (-1) (N-M) (by decide) (by rw [v4_p4,v4_p4];omega) (p4_lt N) (p4_lt M) (by omega) (by omega) _ HP6'.out HP5'.out).mono ?_
    rintro e w8 ⟨v7,rfl,hv7,hb8⟩
    have HP7:=hid hv7
    have hb18:=hb17.trans (hb8.mono hb17.size)
    clear hv7 hb8 hb17
    go_wp2_with fail
    refine (q_made _ _ (N-M) (by omega) _ (HW.out.below hb18) HP7.out).mono ?_
    rintro e w9 ⟨r8,rfl,hr8,hb9⟩
    have HR8:=hid hr8
    clear hr8
    go_wp2
    go_ret
    exact ⟨_,rfl,by rw [←HE.out];exact HR8.out,hb18.trans (hb9.mono hb18.size)⟩
   ·have hld:decide (M<N)=false:=decide_eq_false hl
    have HE:=hid (S3.out hs hl)
    have hle:(p4 (M-N)).length≤90000000:=by have:=p4_len_mono (show M-N≤M by omega);omega
    go_wp2_with fail
    refine (q_less _ _ M N _ HP5.out HP6.out).mono ?_
    rintro e w7 ⟨rfl,hb7⟩
    rw [hld]
    have HP5':=hid (HP5.out.below hb7)
    have HP6':=hid (HP6.out.below hb7)
    have hb17:=hb16.trans (hb7.mono hb16.size)
    clear hb7 hb16 HP5 HP6
    go_wp2_with fail
    refine (q_joined _ _ (p4 M) (p4 N) (-1) (M-N) (by decide) (by rw [v4_p4,v4_p4];omega) (p4_lt M) (p4_lt N) (by omega) (by omega) _ HP5'.out HP6'.out).mono ?_
    rintro e w8 ⟨v7,rfl,hv7,hb8⟩
    have HP7:=hid hv7
    have hb18:=hb17.trans (hb8.mono hb17.size)
    clear hv7 hb8 hb17
    go_wp2_with fail
    refine (q_made _ _ (M-N) (by omega) _ (HW.out.below hb18) HP7.out).mono ?_
    rintro e w9 ⟨r8,rfl,hr8,hb9⟩
    have HR8:=hid hr8
    clear hr8
    go_wp2
    go_ret
    exact ⟨_,rfl,by rw [←HE.out];exact HR8.out,hb18.trans (hb9.mono hb18.size)⟩
theorem isI_neg_size {r s:ByteArray} {n:Int} (hr:IsI r (-n)) (hs:IsI s n):r.size≤s.size+1:=by
 have h1:=hr.size
 have h2:=hs.size
 rw [itoa_length] at h1 h2
 rw [Int.natAbs_neg] at h1
 split at h1 <;> split at h2 <;> omega
theorem q_Sub (a b:ByteArray) (m n:Int) (ha:IsI a m) (hb:IsI b n) (hsa:a.size≤80000000) (hsb:b.size≤80000000) (w:World) (hw:Good w) :
  Calls Tryz.prog 154 #[.string a,.string b] w (MadePost (m-n) w):=by
 have HN:=hid (fun W=>q_Neg b n hb W (by omega))
 have HA:=hid (fun (r:ByteArray) (hr:IsI r (-n)) (W:World) (hW:Good W)=>q_Add a r m (-n) ha hr (by omega) (by have:=isI_neg_size hr hb;omega) W hW)
 unfold MadePost at HA
 have HW:=hid hw
 clear ha hb hw
 go_enter Tryz.func154,Tryz.ntmps154
 go_wp2_with fail
 refine (HN.out w).mono ?_
 rintro e w1 ⟨r,rfl,hr,hb1⟩
 have HR:=hid hr
 clear hr
 go_wp2_with fail
 refine (HA.out r HR.out _ (HW.out.below hb1)).mono ?_
 rintro e w2 ⟨s,rfl,hs,hb2⟩
 have HS:=hid hs
 clear hs
 go_wp2
 go_ret
 exact ⟨_,rfl,by have:=HS.out;rwa [←Int.sub_eq_add_neg] at this,hb1.trans (hb2.mono hb1.size)⟩
theorem q_Compare (a b:ByteArray) (m n:Int) (ha:IsI a m) (hb:IsI b n) (hsa:a.size≤80000000) (hsb:b.size≤80000000) (w:World) (hw:Good w) :
  Calls Tryz.prog 108 #[.string a,.string b] w fun e w'=>e=.returned (.int .i64 (sgn (m-n)))∧Below w.heap.size w w':=by
 have HS:=hid (q_Sub a b m n ha hb hsa hsb w hw)
 unfold MadePost at HS
 clear ha hb hw
 go_enter Tryz.func108,Tryz.ntmps108
 go_wp2_with fail
 refine HS.out.mono ?_
 rintro e w1 ⟨r,rfl,hr,hb1⟩
 have HG:=hid (fun W=>q_Sign r (m-n) hr W)
 clear hr
 go_wp2_with fail
 refine (HG.out _).mono ?_
 rintro e w2 ⟨rfl,hb2⟩
 go_wp2
 go_ret
 exact ⟨rfl,hb1.trans (hb2.mono hb1.size)⟩
end Go.Proofs.YtgohnjdgoglcfaaGreatDoor
