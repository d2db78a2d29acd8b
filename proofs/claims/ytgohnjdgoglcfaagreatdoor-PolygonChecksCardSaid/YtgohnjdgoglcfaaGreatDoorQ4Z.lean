import Derived.Test.YtgohnjdgoglcfaaGreatDoorQ1Z
import Derived.Test.YtgohnjdgoglcfaaGreatDoorMathZ
set_option maxRecDepth 100000
set_option maxHeartbeats 2000000
namespace Go.Proofs.YtgohnjdgoglcfaaGreatDoor
open Go.Lib (decDigits itoa nDigits compareBytes)
open Go.RowKit Go.Sort
open Go.Lib (hid)
theorem zz_snoc (o:List Nat) (x:Nat):(zz o).map pcI++(#[Value.int .i64 (x:Int)]).toList=(zz (o ++ [x])).map pcI:=by simp [pcI,zz]
theorem Tks.room {l:List UInt8} {e:Nat} {o:List Nat} (h:Tks l e o):e≤l.length:=h.le
def TakePost (n:Nat) (w:World) (e:Ending) (w':World):Prop:=∃ v',e=.returned v'∧N64s w' v' (p4 n)∧Below w.heap.size w w'
def seg4 (l:List UInt8) (s j:Nat):Nat:=natOf ((l.drop s).take (j-s))
theorem seg4_start (l:List UInt8) (s:Nat):seg4 l s s=0:=by unfold seg4;rw [Nat.sub_self,List.take_zero];rfl
theorem seg4_next {l:List UInt8} {s j:Nat} (h1:s≤j) (h2:j<l.length):seg4 l s (j+1)=10*seg4 l s j+dv l[j]:=by
 unfold seg4
 have hl:j-s<(l.drop s).length:=by rw [List.length_drop];omega
 rw [show j+1-s=(j-s)+1 by omega,List.take_succ_eq_append_getElem hl,natOf_snoc,List.getElem_drop]
 simp only [show s+(j-s)=j by omega]
theorem seg4_lt {l:List UInt8} (hd:∀ c∈l,isDig c=true) {s j:Nat} (h:j≤s+4):seg4 l s j<10000:=by
 unfold seg4
 have h1:=natOf_lt (l:=(l.drop s).take (j-s)) (fun c hc=>hd c (List.mem_of_mem_drop (List.mem_of_mem_take hc)))
 have h2:((l.drop s).take (j-s)).length≤4:=by rw [List.length_take];omega
 exact Nat.lt_of_lt_of_le h1 (Nat.pow_le_pow_right (by decide) h2)
theorem seg4_byte {s:ByteArray} (hd:∀ c∈s.data.toList,isDig c=true) {S j:Nat} (h1:S≤j) (h2:j<s.size) :
  48≤(s[j].toNat:Int)∧(s[j].toNat:Int)≤57∧((seg4 s.data.toList S (j+1):Nat):Int)=10*((seg4 s.data.toList S j:Nat):Int)+(s[j].toNat:Int)-48:=by
 have hl:j<s.data.toList.length:=by simpa using h2
 have e:s[j]=s.data.toList[j]:=rfl
 have hc:=hd _ (List.getElem_mem hl)
 have r:=dig_range hc
 have v:=dv_int hc
 have n:=seg4_next h1 hl
 rw [e]
 refine ⟨r.1,r.2,?_⟩
 rw [n]
 omega
theorem q_take (s:ByteArray) (n:Nat) (hs:s.data.toList=decDigits n) (hsz:s.size≤100000000) (w:World):Calls Tryz.prog 135 #[.string s] w (TakePost n w):=by
 obtain ⟨i0,hi,hz0,hz1,hz2⟩:=info_parts slI.info
 have HDIG:=hid (show ∀ c∈s.data.toList,isDig c=true by rw [hs];exact decDigits_dig _)
 have HN:=hid (show natOf s.data.toList=n by rw [hs];exact natOf_decDigits _)
 have HSZ:=hid (Lib.size_eq s)
 clear hs
 go_enter Tryz.func135,Tryz.ntmps135
 go_wp2_with fail
 go_loopw [3,4,5,6] (fun ov ev _ _ wr=>∃ (E:Int) (o:List Nat),ev=.int .i64 E ∧ -4≤E∧Tks s.data.toList E.toNat o∧4*(o.length:Int)+E=(s.size:Int)∧wr.ownsRow w.heap.size 3 1 ov o.length ((zz o).map pcI)∧Below w.heap.size w wr) (fun _ ev _ _ _=>(intOf ev).toNat)
 case atStart=>exact ⟨(s.size:Int),[],rfl,by omega,by rw [show ((s.size:Nat):Int).toNat=s.data.toList.length by rw [←HSZ.out];omega];exact Tks.start _,by simp,World.ownsRow_nil _ _ _ _,Below.refl _ _⟩
 case round =>
  obtain ⟨E,o,rfl,hE,hT,hlen,hown,hbr⟩:=hrel
  have HT:=hid hT
  have HO:=hid hown
  have hle:E.toNat≤s.size:=by rw [HSZ.out];exact hT.le
  clear hT hown
  by_cases h0:0<E
  ·obtain ⟨F,rfl⟩ : ∃ F:Nat,E=(F:Int):=⟨E.toNat,by omega⟩
   simp only [Int.toNat_natCast] at *
   obtain ⟨S,hS⟩ : ∃ S:Nat,S=F-4:=⟨_,rfl⟩
   have hmx:max (0:Int) ((F:Int)-4)=(S:Int):=by omega
   have hSF:S≤F:=by omega
   have hF4:F≤S+4:=by omega
   have HS:=hid hS
   clear hS
   go_wp2_with fail
   go_loopw [5,6] (fun nv iv wz=>wz=wr∧∃ j:Nat,S≤j∧j≤F∧iv=.int .i64 (j:Int)∧nv=.int .i64 ((seg4 s.data.toList S j:Nat):Int)) (fun _ iv _=>F-(intOf iv).toNat)
   case atStart=>exact ⟨rfl,S,Nat.le_refl _,hSF,rfl,by rw [seg4_start];rfl⟩
   case round =>
    obtain ⟨rfl,j,hSj,hjF,rfl,rfl⟩:=hrel
    have hs9:=seg4_lt HDIG.out (s:=S) (j:=j) (by omega)
    by_cases hj:j<F
    ·have hjs:j<s.size:=by omega
     obtain ⟨b1,b2,b3⟩:=seg4_byte HDIG.out hSj hjs
     have HB:=hid b3
     have i1:(j:Int)<(F:Int):=by omega
     generalize seg4 s.data.toList S j=y at *
     clear b3
     go_wp2_with fail
     refine ⟨⟨trivial,j+1,by omega,by omega,congrArg (Value.int .i64) (by omega),by rw [HB.out]⟩,?_⟩
     show F-((j:Int)+1).toNat<F-((j:Int)).toNat
     omega
    ·obtain rfl:j=F:=by omega
     have hk8:(o.length+1)*8≤140737488355328:=by omega
     have HTN:=hid (HT.out.next HDIG.out)
     have HSG:=hid (show natOf ((s.data.toList.drop (j-4)).take (j-(j-4)))=seg4 s.data.toList S j by rw [HS.out];rfl)
     rw [HSG.out] at HTN
     go_wp2_with (at_builtin;refine app_new slI rfl _ _ rfl w.heap.size _ o.length _ rfl HO.out 1 1 _ rfl rfl oneCell_int hk8 (by decide) hbr.size _ (zz_snoc o _) ?_;intro v1 w2 hown2 hb2;have HO2:=hid hown2;clear hown2)
     refine ⟨⟨(j:Int)-4,o ++ [seg4 s.data.toList S j],rfl,by omega,?_,?_,?_,hbr.trans hb2⟩,?_⟩
     ·rw [show ((j:Int)-4).toNat=j-4 by omega];exact HTN.out
     ·rw [List.length_append,List.length_singleton];omega
     ·rw [List.length_append,List.length_singleton];exact HO2.out
     ·show ((j:Int)-4).toNat<((j:Int)).toNat
      omega
  ·have HD:=hid (show v4 o=n by rw [←HN.out];have:=HT.out;rw [show E.toNat=0 by omega] at this;exact this.done)
   have HLT:=hid HT.out.lt
   go_wp2_with fail
   refine (q_cut _ o HLT.out wr (I64s.of_owns HO.out (zz_len o).symm)).mono ?_
   rintro e w2 ⟨v',rfl,hv',rfl⟩
   have HV:=hid hv'
   clear hv'
   go_wp2
   go_ret
   exact ⟨_,rfl,by have:=HV.out;rwa [HD.out] at this,hbr⟩
theorem rem_parts (z:Int):(z.tmod 10000<0→z.tmod 10000+10000=z % 10000)∧(0≤z.tmod 10000→z.tmod 10000=z % 10000)∧(z-z % 10000).tdiv 10000=z/10000:=by
 have h1:=Int.emod_nonneg z (show (10000:Int)≠0 by decide)
 have h2:=Int.emod_lt_of_pos z (show (0:Int)<10000 by decide)
 have h3:=Int.emod_add_mul_ediv z 10000
 refine ⟨fun h=>?_,fun h=>?_,?_⟩
 ·rw [Int.tmod_eq_emod] at h ⊢
  split at h
  ·omega
  ·rename_i hc
   rw [if_neg hc]
   omega
 ·rw [Int.tmod_eq_emod] at h ⊢
  split at h
  ·rename_i hc
   rw [if_pos hc]
   omega
  ·exfalso
   have:((10000:Int).natAbs:Int)=10000:=rfl
   omega
 ·rw [Int.tdiv_eq_ediv_of_dvd ⟨z/10000,by omega⟩]
  omega
structure CryI (V:Nat) (a:List Int) (w:World) (k:Nat) (over:Int) (o:List Nat) (ov:Value) (wr:World):Prop where
 cry:Cry (V:Int) a k over o
 lo:-200000000000≤over
 hi:over≤200000000000
 room:k≤a.length∨k+over.toNat≤a.length+200000000000
 own:wr.ownsRow w.heap.size 3 1 ov k ((zz o).map pcI)
 low:Below w.heap.size w wr
theorem q_carry (v:Value) (xs:List Int) (V:Nat) (hV:vz xs=(V:Int)) (hx:∀ x∈xs,-1000000000000000≤x∧x≤1000000000000000) (hl:xs.length≤1000000000) (w:World) (hv:I64s w v xs) :
  Calls Tryz.prog 176 #[v] w (TakePost V w):=by
 obtain ⟨p,c,rfl,hc,hm⟩:=hv.slice
 unfold maxLen at hm
 have HX:=hid hx
 have HV:=hid hV
 have HVV:=hid hv
 clear hx hV hv
 go_enter Tryz.func176,Tryz.ntmps176
 go_wp2_with fail
 go_loopw [3,4,5,6] (fun ov cv iv _ wr=>∃ (k:Nat) (over:Int) (o:List Nat),iv=.int .i64 (k:Int)∧cv=.int .i64 over∧CryI V xs w k over o ov wr) (fun _ cv iv _ _=>(xs.length-(intOf iv).toNat)*200000000001+(intOf cv).toNat)
 case atStart=>exact ⟨0,0,[],rfl,rfl,⟨by rw [←HV.out];exact Cry.start xs,by decide,by decide,.inl (Nat.zero_le _),World.ownsRow_nil _ _ _ _,Below.refl _ _⟩⟩
 case round =>
  obtain ⟨k,over,o,rfl,rfl,hI⟩:=hrel
  have HI:=hid hI
  have hlo:=hI.lo
  have hhi:=hI.hi
  have hroom:=hI.room
  have hbr:=hI.low
  have hol:=hI.cry.len
  clear hI
  by_cases hk:k<xs.length
  ·obtain ⟨b,off,rfl,hb,hcell⟩:=(HVV.out.below hbr).cells (by omega)
   have c0:=hcell k hk
   have hxk:=HX.out _ (List.getElem_mem hk)
   have HN:=hid (HI.out.cry.next (u:=over+xs[k]) (by rw [dif_pos hk]))
   clear hcell
   generalize xs[k]=x at *
   obtain ⟨z,hz⟩ : ∃ z,over+x=z:=⟨_,rfl⟩
   rw [hz] at HN
   obtain ⟨p1,p2,p3⟩:=rem_parts z
   have e1:=Int.emod_nonneg z (show (10000:Int)≠0 by decide)
   have e2:=Int.emod_lt_of_pos z (show (0:Int)<10000 by decide)
   have e3:=Int.emod_add_mul_ediv z 10000
   obtain ⟨m,hm0⟩ : ∃ m:Nat,z % 10000=(m:Int):=⟨(z % 10000).toNat,by omega⟩
   rw [hm0] at p1 p2 p3 e2 e3 HN
   rw [show ((m:Nat):Int).toNat=m by omega] at HN
   have hk1:decide ((k:Int)<(xs.length:Int))=true:=decide_eq_true (by omega)
   have i1:(k:Int)<(xs.length:Int):=by omega
   have hk8:(k+1)*8≤140737488355328:=by omega
   obtain ⟨r,hr0⟩ : ∃ r,z.tmod 10000=r:=⟨_,rfl⟩
   rw [hr0] at p1 p2
   have hzu:z-(m:Int)=z-m:=rfl
   obtain ⟨q,hq⟩ : ∃ q,z/10000=q:=⟨_,rfl⟩
   rw [hq] at p3 e3 HN
   clear hq hm0 hzu
   by_cases hr:r<0
   ·have hn:=p1 hr
    clear p1 p2
    go_wp2_with (at_builtin;refine app_new slI rfl _ _ rfl w.heap.size _ k _ rfl HI.out.own 1 1 _ rfl rfl oneCell_int hk8 (by decide) hbr.size _ (zz_snoc o m) ?_;intro v1 w2 hown2 hb2;have HO2:=hid hown2;clear hown2)
    refine ⟨⟨k+1,q,o ++ [m],congrArg (Value.int .i64) (by omega),rfl,⟨HN.out,by omega,by omega,.inl (by omega),HO2.out,hbr.trans hb2⟩⟩,?_⟩
    show (xs.length-((k:Int)+1).toNat)*200000000001+q.toNat<(xs.length-((k:Int)).toNat)*200000000001+over.toNat
    omega
   ·have hrm:=p2 (by omega)
    subst hrm
    clear p1 p2
    go_wp2_with (at_builtin;refine app_new slI rfl _ _ rfl w.heap.size _ k _ rfl HI.out.own 1 1 _ rfl rfl oneCell_int hk8 (by decide) hbr.size _ (zz_snoc o m) ?_;intro v1 w2 hown2 hb2;have HO2:=hid hown2;clear hown2)
    refine ⟨⟨k+1,q,o ++ [m],congrArg (Value.int .i64) (by omega),rfl,⟨HN.out,by omega,by omega,.inl (by omega),HO2.out,hbr.trans hb2⟩⟩,?_⟩
    show (xs.length-((k:Int)+1).toNat)*200000000001+q.toNat<(xs.length-((k:Int)).toNat)*200000000001+over.toNat
    omega
  ·have hov:=HI.out.cry.over (by omega) (by omega)
   have hk0:¬ ((k:Int)<(xs.length:Int)):=by omega
   by_cases h0:over=0
   ·subst h0
    have HD:=hid (HI.out.cry.done (by omega))
    have HLT:=hid HI.out.cry.lt
    have HOL:=hid hol
    clear hol
    go_wp2_with fail
    refine (q_cut _ o HLT.out wr (I64s.of_owns HI.out.own (by rw [zz_len,HOL.out]))).mono ?_
    rintro e w2 ⟨v',rfl,hv',rfl⟩
    have HV':=hid (show N64s wr v' (p4 V) by
     have hd:v4 o=V:=by have:=HD.out;omega
     rwa [hd] at hv')
    clear hv'
    go_wp2
    go_ret
    exact ⟨_,rfl,HV'.out,hbr⟩
   ·have h0':(over != 0)=true:=by simpa using h0
    have HN:=hid (HI.out.cry.next (u:=over) (by rw [dif_neg (by omega)];omega))
    obtain ⟨p1,p2,p3⟩:=rem_parts over
    have e1:=Int.emod_nonneg over (show (10000:Int)≠0 by decide)
    have e2:=Int.emod_lt_of_pos over (show (0:Int)<10000 by decide)
    have e3:=Int.emod_add_mul_ediv over 10000
    obtain ⟨m,hm0⟩ : ∃ m:Nat,over % 10000=(m:Int):=⟨(over % 10000).toNat,by omega⟩
    rw [hm0] at p2 p3 e2 e3 HN
    rw [show ((m:Nat):Int).toNat=m by omega] at HN
    have hr0:over.tmod 10000=(m:Int):=p2 (Int.tmod_nonneg _ hov)
    obtain ⟨q,hq⟩ : ∃ q,over/10000=q:=⟨_,rfl⟩
    rw [hq] at p3 e3 HN
    have hk8:(k+1)*8≤140737488355328:=by omega
    clear hq hm0 p1 p2
    go_wp2_with (at_builtin;refine app_new slI rfl _ _ rfl w.heap.size _ k _ rfl HI.out.own 1 1 _ rfl rfl oneCell_int hk8 (by decide) hbr.size _ (zz_snoc o m) ?_;intro v1 w2 hown2 hb2;have HO2:=hid hown2;clear hown2)
    refine ⟨⟨k+1,q,o ++ [m],congrArg (Value.int .i64) (by omega),rfl,⟨HN.out,by omega,by omega,.inr (by omega),HO2.out,hbr.trans hb2⟩⟩,?_⟩
    show (xs.length-((k:Int)+1).toNat)*200000000001+q.toNat<(xs.length-((k:Int)).toNat)*200000000001+over.toNat
    omega
end Go.Proofs.YtgohnjdgoglcfaaGreatDoor
