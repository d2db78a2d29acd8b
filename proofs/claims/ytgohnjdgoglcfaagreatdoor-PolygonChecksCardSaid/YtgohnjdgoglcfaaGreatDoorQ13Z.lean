import Derived.Test.YtgohnjdgoglcfaaGreatDoorQ11Z
set_option maxRecDepth 100000
set_option maxHeartbeats 2000000
namespace Go.Proofs.YtgohnjdgoglcfaaGreatDoor
open Go.Lib (decDigits itoa nDigits compareBytes)
open Go.RowKit Go.Sort
structure Prt (ps:List Nat) (Q:Nat) (i:Nat) (os:List Nat) (r:Nat):Prop where
 ile:i≤ps.length
 len:os.length=ps.length
 small:∀ x∈os,x<10000
 rlt:r<Q
 eq:v4 (ps.drop i)=v4 (os.drop i)*Q+r
 low:∀ t (h:t<os.length),t<i→os[t]=0
theorem Prt.start {ps:List Nat} {Q:Nat} (hQ:0<Q):Prt ps Q ps.length (List.replicate ps.length 0) 0:=by
 refine ⟨Nat.le_refl _,by simp,fun x hx=>?_,hQ,?_,fun t h _=>by simp⟩
 ·rw [List.mem_replicate] at hx;omega
 ·rw [List.drop_length,List.drop_eq_nil_of_le (by simp)];simp
theorem v4_drop {a:List Nat} {i:Nat} (h:i<a.length):v4 (a.drop i)=a[i]+10000*v4 (a.drop (i+1)):=by
 rw [List.drop_eq_getElem_cons h,v4_cons]
theorem Prt.next {ps:List Nat} {Q i:Nat} {os:List Nat} {r d:Nat} (h:Prt ps Q (i+1) os r) (hi:i<ps.length) (hd:d<10000) (h1:d*Q≤ps[i]+10000*r) (h2:ps[i]+10000*r<(d+1)*Q) :
  Prt ps Q i (os.set i d) (ps[i]+10000*r-d*Q):=by
 have hio:i<os.length:=by rw [h.len];exact hi
 rw [Nat.add_mul,Nat.one_mul] at h2
 refine ⟨by omega,by rw [List.length_set];exact h.len,fun x hx=>?_,by omega,?_,fun t ht hti=>?_⟩
 ·rcases List.mem_or_eq_of_mem_set hx with h' | h'
  ·exact h.small x h'
  ·omega
 ·rw [v4_drop hi,v4_drop (a:=os.set i d) (by rw [List.length_set];exact hio),h.eq,List.getElem_set_self,List.drop_set_of_lt (by omega),Nat.add_mul,Nat.mul_add,Nat.mul_assoc]
  omega
 ·rw [List.length_set] at ht
  rw [List.getElem_set_ne (by omega)]
  exact h.low t ht (by omega)
theorem Prt.done {ps:List Nat} {Q:Nat} {os:List Nat} {r:Nat} (h:Prt ps Q 0 os r):v4 os=v4 ps/Q∧r=v4 ps % Q:=by
 have e:=h.eq
 simp only [List.drop_zero] at e
 have hr:=h.rlt
 rw [e,Nat.mul_comm,Nat.mul_add_div (by omega),Nat.div_eq_of_lt hr,Nat.mul_add_mod,Nat.mod_eq_of_lt hr]
 exact ⟨rfl,rfl⟩
theorem p4_front {x r:Nat} (_hx:x<10000):p4 (v4 (x :: p4 r))=p4 (x+10000*r):=by rw [v4_cons,v4_p4]
open Go.Lib (hid)
def PartsPostQ (m n:Nat) (w:World) (e:Ending) (w':World):Prop:=∃ u v,e=.returned (.tuple #[u,v])∧N64s w' u (p4 (m/n))∧N64s w' v (p4 (m % n))∧Below w.heap.size w w'
theorem zz_replicate (L:Nat):List.replicate L (0:Int)=zz (List.replicate L 0):=by simp [zz]
theorem I64s.store {w:World} {G:Nat} {v:Value} {xs:List Int} (h:I64s w v xs) (hf:∀ a n c,v=.slice (some a) n c→a.block≠G) {a:Addr} (ha:a.block=G) (u:Value):I64s (w.setCell a u) v xs:=by
 obtain ⟨⟨hl,p,c,rfl,hc,hm,hx⟩,hn⟩:=h
 refine ⟨⟨hl,p,c,rfl,hc,hm,fun h0=>?_⟩,hn⟩
 obtain ⟨b,off,rfl,hb,hcell⟩:=hx h0
 have hB:=hf _ _ _ rfl
 refine ⟨b,off,rfl,by simpa [World.setCell] using hb,fun i hi=>?_⟩
 rw [World.cell?_of_block (Below.heap_setCell w a u b (by rw [ha];exact hB))]
 exact hcell i hi
theorem n64s_nil (w:World):N64s w (.slice none 0 0) (p4 0):=by
 rw [p4_zero]
 exact ⟨Reads.nil w 1 none 0 (Nat.zero_le _),fun n c e=>by cases e;exact ⟨rfl,rfl⟩⟩
theorem q_parts (vp vq:Value) (m n:Nat) (hn:0<n) (hlp:(p4 m).length≤90000000) (hlq:(p4 n).length≤90000000) (w:World) (hvp:N64s w vp (p4 m)) (hvq:N64s w vq (p4 n)) :
  Calls Tryz.prog 173 #[vp,vq] w (PartsPostQ m n w):=by
 have HPL:=hid (p4_lt m)
 have HVM:=hid (v4_p4 m)
 generalize p4 m=ps at *
 obtain ⟨pa,pc,rfl,hpc,hpm⟩:=hvp.slice
 obtain ⟨i0,hi,hz0,hz1,hz2⟩:=info_parts slI.info
 unfold maxLen at hpm
 obtain ⟨w1,hmk,hown,hgr⟩:=run_make_full (P:=Tryz.prog) w w.heap.size 151 3 i0 (.int .i64 0) 1 Tryz.underlying151 hi hz0 hz1 .i64 .i64 ps.length (by rw [hz2];omega) (by unfold maxLen;omega) (Nat.le_refl _)
 rw [madeCells_int,zz_replicate] at hown
 have hb1:Below w.heap.size w w1:=(Below.refl _ _).grown hgr (Nat.le_refl _) (fun k h=>by simp at h)
 have HP:=hid hvp
 have HQ:=hid hvq
 have HO1:=hid hown
 have HN:=hid hn
 clear hgr hvp hvq hown hi hz0 hz1 hz2 hn
 go_enter Tryz.func173,Tryz.ntmps173
 go_wp2
 go_loopw [7,8,9,10,11] (fun rv iv _ _ _ wr=>∃ (i:Nat) (os:List Nat) (r:Nat),iv=.int .i64 ((i:Int)-1)∧Prt ps n i os r∧N64s wr rv (p4 r)∧wr.ownsRow w.heap.size 3 1 (.slice (some ⟨w.heap.size,0,none⟩) ps.length ps.length) ps.length ((zz os).map pcI)∧Below w.heap.size w wr) (fun _ iv _ _ _ _=>(intOf iv+1).toNat)
 case atStart=>exact ⟨ps.length,List.replicate ps.length 0,0,rfl,Prt.start HN.out,n64s_nil _,HO1.out,hb1⟩
 case round =>
  obtain ⟨i,os,r,rfl,hT,hrv,hown,hbr⟩:=hrel
  have HT:=hid hT
  have HR:=hid hrv
  have HO:=hid hown
  clear hT hrv hown
  cases i with
  | zero =>
   have HD:=hid HT.out.done
   have HL:=hid HT.out.len
   have HSM:=hid HT.out.small
   go_wp2_with fail
   refine (q_cut _ os HSM.out _ (I64s.of_owns HO.out (by rw [zz_len,HL.out]))).mono ?_
   rintro e w2 ⟨v',rfl,hv',rfl⟩
   have HV':=hid hv'
   clear hv'
   go_wp2
   go_ret2
   refine ⟨_,_,rfl,?_,?_,hbr⟩
   ·have:=HV'.out
    rwa [HD.out.1,HVM.out] at this
   ·have:=HR.out
    rwa [HD.out.2,HVM.out] at this
  | succ i =>
   have hi:i<ps.length:=by have:=HT.out.ile;omega
   obtain ⟨b,off,rfl,hb,hcell⟩:=(HP.out.below hbr).cells (by omega)
   have hcp:=hcell i hi
   clear hcell
   have hxl:=HPL.out _ (List.getElem_mem hi)
   have hrl:=p4_len_mono (Nat.le_of_lt HT.out.rlt)
   have HNX:=hid (fun d (h0:d<10000) h1 h2=>HT.out.next hi (d:=d) h0 h1 h2)
   generalize ps[i]=x at *
   have i1:((↑(i+1):Int)-1)=(i:Int):=by omega
   rw [i1]
   have hown0:(wr.alloc (Obj.cells #[Value.int .i64 (x:Int)] 3)).ownsRow wr.heap.size 3 1 (.slice (some ⟨wr.heap.size,0,none⟩) 1 1) 1 ([(x:Int)].map pcI):=
    ⟨rfl,.inr ⟨wr.heap.size,1,#[Value.int .i64 (x:Int)],rfl,Nat.le_refl _,World.alloc_heap_new wr _,Nat.le_refl _,by unfold maxLen;omega,rfl,rfl⟩⟩
   have HO0:=hid hown0
   clear hown0
   have hb0:Below wr.heap.size wr (wr.alloc (Obj.cells #[Value.int .i64 (x:Int)] 3)):=(Below.refl _ _).alloc (Nat.le_refl _) _
   go_wp2_with (at_builtin;refine app_srcI rfl _ _ rfl wr.heap.size _ 1 _ rfl HO0.out _ (zz (p4 r)) rfl (HR.out.below hb0) (by rw [zz_len];omega) hb0.size ?_;intro v1 w2 hown1 hb2;have HO3:=hid hown1;clear hown1)
   have HI3:=hid (show N64s w2 v1 (x :: p4 r) from I64s.of_owns (xs:=zz (x :: p4 r)) (by simpa [zz] using HO3.out) (by simp [zz];omega))
   have hb12:=hb0.trans hb2
   have HAP:=hid (show ∀ a n c,v1=.slice (some a) n c→wr.heap.size≤a.block from by
    intro a n c hv
    obtain ⟨_,h | ⟨g,cap,cur,hv',hg,_⟩⟩:=HO3.out
    ·rw [hv] at h;simp at h
    ·rw [hv] at hv';cases hv';exact hg)
   clear hb0 hb2 HO0
   go_wp2_with fail
   refine (q_cut2 v1 (x :: p4 r) (by intro y hy;rcases List.mem_cons.1 hy with rfl | h;exact hxl;exact p4_lt r _ h) w2 HI3.out).mono ?_
   rintro e w3 ⟨v',rfl,hv',rfl,hpt⟩
   rw [p4_front hxl] at hv'
   have HV':=hid hv'
   have HPT:=hid hpt
   clear hv' hpt
   have hr0:=HT.out.rlt
   have HY0:=hid (show x+10000*r<(9999+1)*n by omega)
   obtain ⟨y,hy⟩ : ∃ y,x+10000*r=y:=⟨_,rfl⟩
   rw [hy] at HV' HNX HY0
   clear hy
   go_wp2_with fail
   go_loopw [9,10,11] (fun lv hv _ wz=>∃ lo hi:Nat,lv=.int .i64 (lo:Int)∧hv=.int .i64 (hi:Int)∧lo≤hi∧hi≤9999∧lo*n≤y∧y<(hi+1)*n∧Below w2.heap.size w2 wz) (fun lv hv _ _=>(intOf hv-intOf lv).toNat)
   case atStart=>exact ⟨0,9999,rfl,rfl,by omega,by omega,by omega,HY0.out,Below.refl _ _⟩
   case round =>
    obtain ⟨lo,hi,rfl,rfl,h1,h2,h3,h4,hbz⟩:=hrel
    by_cases hlh:lo<hi
    ·obtain ⟨c,hc⟩ : ∃ c:Nat,c=(lo+hi+1)/2:=⟨_,rfl⟩
     have hc1:lo<c∧c≤hi:=by omega
     have z1:((lo:Int)+(hi:Int)+1).tdiv 2=(c:Int):=by rw [Int.tdiv_eq_ediv_of_nonneg (by omega)];omega
     have hbw:=hbr.trans ((hb12.trans (hbz.mono hb12.size)).mono hbr.size)
     have HQW:=hid (HQ.out.below hbw)
     have HNIL:=hid (show N64s _ (.slice none 0 0) [] from by have:=n64s_nil (by assumption);rwa [p4_zero] at this)
     clear hc
     go_wp2_with fail
     refine (q_joined _ _ [] (p4 n) (c:Int) (c*n) (by omega) (by rw [v4_p4];simp) (by intro y hy;cases hy) (p4_lt n) (by simp) (by omega) _ HNIL.out HQW.out).mono ?_
     rintro e w5 ⟨v5,rfl,hv5,hb5⟩
     have HV5:=hid hv5
     have hbz5:=hbz.trans (hb5.mono hbz.size)
     have HVW:=hid (HV'.out.below hbz5)
     clear hv5 HNIL
     go_wp2_with fail
     refine (q_less _ _ y (c*n) _ HVW.out HV5.out).mono ?_
     rintro e w6 ⟨rfl,hb6⟩
     have hbz6:=hbz5.trans (hb6.mono hbz5.size)
     by_cases hyc:y<c*n
     ·have hd:decide (y<c*n)=true:=decide_eq_true hyc
      rw [hd]
      have HY:=hid (show y<(c-1+1)*n by rw [show c-1+1=c by omega];exact hyc)
      clear hd hyc
      go_wp2
      refine ⟨⟨lo,c-1,rfl,congrArg (Value.int .i64) (by omega),by omega,by omega,h3,HY.out,hbz6⟩,?_⟩
      show ((c:Int)-1-(lo:Int)).toNat<((hi:Int)-(lo:Int)).toNat
      omega
     ·have hd:decide (y<c*n)=false:=decide_eq_false hyc
      rw [hd]
      have HY:=hid (show c*n≤y by omega)
      clear hd hyc
      go_wp2
      refine ⟨⟨c,hi,rfl,rfl,by omega,by omega,HY.out,h4,hbz6⟩,?_⟩
      show ((hi:Int)-(c:Int)).toNat<((hi:Int)-(lo:Int)).toNat
      omega
    ·obtain rfl:lo=hi:=by omega
     have hbrz:=hb12.trans (hbz.mono hb12.size)
     have HOZ:=hid (owns_below HO.out hbrz)
     have HL:=hid HT.out.len
     have hco:=HOZ.out.cellAt i (by omega)
     have hio:i<(zz os).length:=by rw [zz_len,HL.out];omega
     rw [List.getElem?_map,List.getElem?_eq_getElem hio,Option.map_some] at hco
     unfold pcI at hco
     have hfo:=HOZ.out.frozenAt i
     have HNN:=hid (HNX.out lo (by omega) h3 h4)
     have hsz:∀ W:World,W.ownsRow w.heap.size 3 1 (.slice (some ⟨w.heap.size,0,none⟩) ps.length ps.length) ps.length ((zz os).map pcI)→w.heap.size<W.heap.size:=by
      intro W hW
      obtain ⟨_,h | ⟨g,cap,cur,hv,hg,hh,_⟩⟩:=hW
      ·exact absurd h.1 (by simp)
      ·simp only [Value.slice.injEq,Option.some.injEq,Addr.mk.injEq] at hv
       obtain ⟨⟨hgg,_⟩,_⟩:=hv
       rw [←hgg] at hh
       exact (Array.getElem?_eq_some_iff.1 hh).1
     have hs0:=hsz _ HO.out
     have hbS:Below w.heap.size w (wr.setCell ⟨w.heap.size,i,none⟩ (.int .i64 (lo:Int))):=(hbr.trans (hbrz.mono hbr.size)).setCell (Nat.le_refl _) _
     have HQS:=hid (HQ.out.below hbS)
     have HVS:=hid (show N64s (wr.setCell ⟨w.heap.size,i,none⟩ (.int .i64 (lo:Int))) v' (p4 y) from by
      refine I64s.store (G:=w.heap.size) (HV'.out.below hbz) ?_ rfl _
      intro a k c hv
      obtain ⟨p1,c1,hv1,_,_⟩:=HI3.out.slice
      obtain ⟨k',hk'⟩:=HPT.out _ _ _ hv1
      rw [hv] at hk'
      simp only [Value.slice.injEq] at hk'
      obtain ⟨rfl,_,_⟩:=hk'
      have:=HAP.out _ _ _ hv1
      omega)
     have HST:=hid (show (wr.setCell ⟨w.heap.size,i,none⟩ (.int .i64 (lo:Int))).ownsRow w.heap.size 3 1 (.slice (some ⟨w.heap.size,0,none⟩) ps.length ps.length) ps.length ((zz (os.set i lo)).map pcI) from by
      have:=storedI HOZ.out i (lo:Int)
      rwa [show (zz os).set i (lo:Int)=zz (os.set i lo) from by unfold zz;rw [List.map_set]] at this)
     have HVV:=hid (show (v4 (p4 y):Int)+(-(lo:Int))*(v4 (p4 n):Int)=((y-lo*n:Nat):Int) by
      rw [v4_p4,v4_p4,Int.natCast_sub h3,Int.natCast_mul,Int.neg_mul];omega)
     have hly:(p4 y).length≤(p4 n).length+1:=by
      apply p4_len_lt
      have e1:=lt_of_p4_len n
      have e2:(lo+1)*n≤10000*n:=Nat.mul_le_mul_right _ (by omega)
      rw [Nat.pow_succ]
      omega
     clear hsz
     go_wp2_with fail
     refine (q_joined v' vq (p4 y) (p4 n) (-(lo:Int)) (y-lo*n) (by omega) HVV.out (p4_lt y) (p4_lt n) (by omega) (by omega) _ HVS.out HQS.out).mono ?_
     rintro e w7 ⟨v7,rfl,hv7,hb7⟩
     have HV7:=hid hv7
     have HO7:=hid (owns_below HST.out hb7)
     have hbw7:=hbS.trans (hb7.mono hbS.size)
     clear hv7
     go_wp2
     refine ⟨⟨i,os.set i lo,y-lo*n,rfl,HNN.out,HV7.out,HO7.out,hbw7⟩,?_⟩
     show ((i:Int)-1+1).toNat<(((i:Int))+1).toNat
     omega
end Go.Proofs.YtgohnjdgoglcfaaGreatDoor
