import Derived.Test.YtgohnjdgoglcfaaGreatDoorBaseZ
import Derived.Test.YtgohnjdgoglcfaaGreatDoorU64Z
import Derived.Test.YtgohnjdgoglcfaaGreatDoorMathZ
set_option maxRecDepth 100000
set_option maxHeartbeats 1000000
namespace Go.Proofs.YtgohnjdgoglcfaaGreatDoor
open Go.Lib (decDigits itoa nDigits compareBytes)
open Go.RowKit Go.Sort
open Go.Lib (hid)
theorem q_drewN (w:World) (n:Nat):Below w.heap.size w (w.drewN n):=⟨rfl,rfl,rfl,Nat.le_refl _,fun _ _=>rfl⟩
theorem mag_neg {s:ByteArray} {n:Int} (h:IsI s n) (hn:n<0):IsI (s.extract 1 s.size) n.natAbs:=by
 have:=neg_neg_text h hn
 rwa [show -n=((n.natAbs:Nat):Int) by omega] at this
theorem mag_pos {s:ByteArray} {n:Int} (h:IsI s n) (hn:¬ n<0):IsI s n.natAbs:=by
 rwa [show ((n.natAbs:Nat):Int)=n by omega]
def SplitPost (n:Int) (w:World) (e:Ending) (w':World):Prop:=∃ r:ByteArray,e=.returned (.tuple #[.bool (decide (n<0)),.string r])∧IsI r n.natAbs∧Below w.heap.size w w'
theorem q_Split (s:ByteArray) (n:Int) (h:IsI s n) (w:World):Calls Tryz.prog 134 #[.string s] w (SplitPost n w):=by
 have h0:=h.pos
 have h1:=h.first h0
 have hp:decide ((0:Int)<(s.size:Int))=true:=decide_eq_true (by omega)
 have i1:(1:Int)≤(s.size:Int):=by omega
 by_cases hn:n<0
 ·have HN:=hid (mag_neg h hn)
  rw [decide_eq_true hn] at h1
  have HD:=hid (decide_eq_true hn)
  clear h hn
  go_enter Tryz.func134,Tryz.ntmps134
  go_wp2_with fail
  go_quiet (fail)
  go_wp2
  go_ret2
  exact ⟨_,by rw [HD.out];rfl,HN.out,q_drewN _ _⟩
 ·have HN:=hid (mag_pos h hn)
  rw [decide_eq_false hn] at h1
  have HD:=hid (decide_eq_false hn)
  clear h hn
  go_enter Tryz.func134,Tryz.ntmps134
  go_wp2
  go_ret2
  exact ⟨_,by rw [HD.out];rfl,HN.out,Below.refl _ _⟩
theorem q_Of (n:Int) (h0:-9223372036854775808≤n) (h1:n≤9223372036854775807) (w:World) (hw:Good w) :
  Calls Tryz.prog 125 #[.int .i64 n] w fun e w'=>∃ r:ByteArray,e=.returned (.string r)∧IsI r n∧Below w.heap.size w w':=by
 go_enter Tryz.func125,Tryz.ntmps125
 go_wp2_with (go_at_call 128;refine (Tryz.strconv_Itoa n h0 h1 _ hw.pow).mono ?_;rintro e w' ⟨rfl,k,os,rfl⟩)
 go_ret
 exact ⟨_,rfl,isI_itoa n,below_grown _ _ _⟩
theorem q_Sign (s:ByteArray) (n:Int) (h:IsI s n) (w:World) :
  Calls Tryz.prog 130 #[.string s] w fun e w'=>e=.returned (.int .i64 (sgn n))∧Below w.heap.size w w':=by
 have HS:=hid (fun W=>q_Split s n h W)
 have h0:=h.zero
 unfold SplitPost at HS
 have HG:=hid (sgn_cases n)
 by_cases hn:n<0
 ·rw [decide_eq_true hn] at HS
  have HN:=hid hn
  clear h hn h0
  go_enter Tryz.func130,Tryz.ntmps130
  go_wp2_with fail
  refine (HS.out _).mono ?_
  rintro e w' ⟨r,rfl,hr,hbr⟩
  go_wp2
  go_ret
  exact ⟨ret_int (sgn_neg HN.out).symm,hbr⟩
 ·rw [decide_eq_false hn] at HS
  by_cases hz:n=0
  ·rw [decide_eq_true hz] at h0
   have HN:=hid hz
   clear h hn hz
   go_enter Tryz.func130,Tryz.ntmps130
   go_wp2_with fail
   refine (HS.out _).mono ?_
   rintro e w' ⟨r,rfl,hr,hbr⟩
   go_wp2
   go_ret
   exact ⟨ret_int (sgn_zero HN.out).symm,hbr⟩
  ·rw [decide_eq_false hz] at h0
   have HN:=hid (show 0<n by omega)
   clear h hn hz
   go_enter Tryz.func130,Tryz.ntmps130
   go_wp2_with fail
   refine (HS.out _).mono ?_
   rintro e w' ⟨r,rfl,hr,hbr⟩
   go_wp2
   go_ret
   exact ⟨ret_int (sgn_pos HN.out).symm,hbr⟩
theorem q_Abs (s:ByteArray) (n:Int) (h:IsI s n) (w:World) :
  Calls Tryz.prog 155 #[.string s] w fun e w'=>∃ r:ByteArray,e=.returned (.string r)∧IsI r n.natAbs∧Below w.heap.size w w':=by
 have HS:=hid (fun W=>q_Split s n h W)
 unfold SplitPost at HS
 clear h
 go_enter Tryz.func155,Tryz.ntmps155
 go_wp2_with fail
 refine (HS.out _).mono ?_
 rintro e w' ⟨r,rfl,hr,hbr⟩
 have HR:=hid hr
 clear hr
 go_wp2
 go_ret
 exact ⟨_,rfl,HR.out,hbr⟩
theorem q_Neg (s:ByteArray) (n:Int) (h:IsI s n) (w:World) (hs:s.size≤9000000000) :
  Calls Tryz.prog 131 #[.string s] w fun e w'=>∃ r:ByteArray,e=.returned (.string r)∧IsI r (-n)∧Below w.heap.size w w':=by
 have HS:=hid (fun W=>q_Split s n h W)
 have h0:=h.zero
 unfold SplitPost at HS
 by_cases hn:n<0
 ·rw [decide_eq_true hn] at HS
  have HN:=hid hn
  clear h hn h0
  go_enter Tryz.func131,Tryz.ntmps131
  go_wp2_with fail
  refine (HS.out _).mono ?_
  rintro e w' ⟨r,rfl,hr,hbr⟩
  have HR:=hid hr
  clear hr
  go_wp2
  go_ret
  exact ⟨_,rfl,by have:=HR.out;rwa [show ((n.natAbs:Nat):Int) = -n by have:=HN.out;omega] at this,hbr⟩
 ·rw [decide_eq_false hn] at HS
  by_cases hz:n=0
  ·rw [decide_eq_true hz] at h0
   have HN:=hid hz
   clear h hn hz
   go_enter Tryz.func131,Tryz.ntmps131
   go_wp2_with fail
   refine (HS.out _).mono ?_
   rintro e w' ⟨r,rfl,hr,hbr⟩
   have HR:=hid hr
   clear hr
   go_wp2
   go_ret
   exact ⟨_,rfl,by have:=HR.out;rwa [show ((n.natAbs:Nat):Int) = -n by have:=HN.out;omega] at this,hbr⟩
  ·rw [decide_eq_false hz] at h0
   have HN:=hid (show 0<n by omega)
   have hsz:=h.size
   clear h hn hz
   go_enter Tryz.func131,Tryz.ntmps131
   go_wp2_with fail
   refine (HS.out _).mono ?_
   rintro e w' ⟨r,rfl,hr,hbr⟩
   have hrs:r.size≤9000000000:=by
    have h1:=hr.size
    rw [show ((n.natAbs:Nat):Int)=n by have:=HN.out;omega] at h1
    omega
   have HR:=hid (show IsI r n by rwa [show ((n.natAbs:Nat):Int)=n by have:=HN.out;omega] at hr)
   clear hr hsz
   go_wp2
   go_ret
   exact ⟨_,rfl,neg_nonneg_text HR.out HN.out,hbr⟩
end Go.Proofs.YtgohnjdgoglcfaaGreatDoor
namespace Go.Proofs.YtgohnjdgoglcfaaGreatDoor
open Go.Lib (decDigits itoa nDigits compareBytes)
open Go.RowKit
open Go.Lib (hid)
def pcI (n:Int):Value:=.int .i64 n
def I64s (w:World) (v:Value) (xs:List Int):Prop:=Reads w 1 v xs.length (xs.map pcI)∧∀ n c,v=.slice none n c→n=0∧c=0
def N64s (w:World) (v:Value) (ns:List Nat):Prop:=I64s w v (zz ns)
theorem I64s.below {w w':World} {v:Value} {xs:List Int} (h:I64s w v xs) (hb:Below w.heap.size w w'):I64s w' v xs:=⟨Reads.below h.1 hb,h.2⟩
theorem N64s.below {w w':World} {v:Value} {xs:List Nat} (h:N64s w v xs) (hb:Below w.heap.size w w'):N64s w' v xs:=I64s.below h hb
theorem I64s.slice {w:World} {v:Value} {xs:List Int} (h:I64s w v xs):∃ p c,v=.slice p xs.length c∧xs.length≤c∧c≤maxLen:=by
 obtain ⟨⟨_,p,c,hv,hc,hm,_⟩,_⟩:=h
 exact ⟨p,c,hv,hc,hm⟩
theorem zz_len (ns:List Nat):(zz ns).length=ns.length:=List.length_map _
theorem N64s.slice {w:World} {v:Value} {xs:List Nat} (h:N64s w v xs):∃ p c,v=.slice p xs.length c∧xs.length≤c∧c≤maxLen:=by
 have:=I64s.slice h
 rwa [zz_len] at this
theorem I64s.cells {w:World} {p:Option Addr} {n c:Nat} {xs:List Int} (h:I64s w (.slice p n c) xs) (h0:0<xs.length) :
  ∃ b off,p=some ⟨b,off,none⟩∧b<w.heap.size∧∀ i (h:i<xs.length),w.cell? ⟨b,off+i,none⟩=some (.int .i64 xs[i]):=by
 obtain ⟨⟨_,p',c',hv,hc,hm,hx⟩,_⟩:=h
 simp only [Value.slice.injEq] at hv
 obtain ⟨rfl,rfl,rfl⟩:=hv
 obtain ⟨b,off,hp,hb,hcell⟩:=hx h0
 refine ⟨b,off,hp,hb,fun i hi=>?_⟩
 rw [hcell i (by simpa using hi)]
 simp [pcI]
theorem N64s.cells {w:World} {p:Option Addr} {n c:Nat} {xs:List Nat} (h:N64s w (.slice p n c) xs) (h0:0<xs.length) :
  ∃ b off,p=some ⟨b,off,none⟩∧b<w.heap.size∧∀ i (h:i<xs.length),w.cell? ⟨b,off+i,none⟩=some (.int .i64 (xs[i]:Int)):=by
 obtain ⟨b,off,hp,hb,hcell⟩:=I64s.cells h (by rw [zz_len];exact h0)
 refine ⟨b,off,hp,hb,fun i hi=>?_⟩
 rw [hcell i (by rw [zz_len];exact hi),List.getElem_map]
theorem N64s.take {w:World} {p:Option Addr} {c k:Nat} {xs:List Nat} (h:N64s w (.slice p xs.length c) xs) (hk:k≤xs.length):N64s w (.slice p k c) (xs.take k):=by
 have h':Reads w 1 (.slice p xs.length c) xs.length ((zz xs).map pcI):=by
  have:=h.1
  rwa [zz_len] at this
 have hn:=h.2
 have:=Reads.take (k:=k) h' hk
 unfold N64s I64s
 rw [Nat.mul_one] at this
 refine ⟨?_,fun n c' e=>?_⟩
 rotate_left
 ·simp only [Value.slice.injEq] at e
  obtain ⟨rfl,rfl,rfl⟩:=e
  obtain ⟨h1,h2⟩:=hn _ _ rfl
  exact ⟨by omega,h2⟩
 rw [show zz (xs.take k)=(zz xs).take k from List.map_take ..,List.map_take,show ((zz xs).take k).length=k by rw [List.length_take,zz_len];omega]
 exact this
theorem _root_.Go.World.ownsRow.nilCap {w:World} {base n0:Nat} {e:TypeId} {size:Nat} {v:Value} {cs:List Value} (h:w.ownsRow base e size v n0 cs):∀ n c,v=.slice none n c→n=0∧c=0:=by
 intro n c hv
 obtain ⟨_,h | ⟨g,cap,cur,hv',_⟩⟩:=h
 ·obtain ⟨rfl,rfl⟩:=h
  simp only [Value.slice.injEq,true_and] at hv
  exact ⟨hv.1.symm,hv.2.symm⟩
 ·rw [hv'] at hv
  simp at hv
theorem I64s.of_owns {w:World} {base n:Nat} {v:Value} {xs:List Int} (h:w.ownsRow base 3 1 v n (xs.map pcI)) (hn:n=xs.length):I64s w v xs:=by
 subst hn;exact ⟨Reads.of_owns h,h.nilCap⟩
theorem slI:SliceOf 151 3 (.int .i64 0) 1 8:=⟨Tryz.underlying151,by kernel_rfl,rfl,by decide⟩
theorem v4_take_succ {xs:List Nat} {k:Nat} (h:k<xs.length):v4 (xs.take (k+1))=v4 (xs.take k)+10000 ^ k*xs[k]:=by
 rw [List.take_succ_eq_append_getElem h,v4_snoc]
 rw [List.length_take,Nat.min_eq_left (by omega)]
theorem p4_take_top {xs:List Nat} {k:Nat} (hx:∀ x∈xs,x<10000) (hk:k<xs.length) (h0:xs[k]≠0):p4 (v4 (xs.take (k+1)))=xs.take (k+1):=by
 refine p4_v4 _ (fun x h=>hx x (List.mem_of_mem_take h)) ?_
 intro h
 rw [List.getLast_eq_getElem]
 simp only [List.getElem_take]
 have:(xs.take (k+1)).length-1=k:=by simp;omega
 simp only [this]
 exact h0
theorem q_cut2 (v:Value) (xs:List Nat) (hx:∀ x∈xs,x<10000) (w:World) (hv:N64s w v xs) :
  Calls Tryz.prog 174 #[v] w fun e w'=>∃ v',e=.returned v'∧N64s w v' (p4 (v4 xs))∧w=w'∧∀ p n c,v=.slice p n c→∃ k,v'=.slice p k c:=by
 obtain ⟨p,c,rfl,hc,hm⟩:=hv.slice
 have HX:=hid hx
 clear hx
 unfold maxLen at hm
 go_enter Tryz.func174,Tryz.ntmps174
 go_wp2
 go_loop [0] (fun q=>∃ k:Nat,k≤xs.length∧q=.slice p k c∧v4 (xs.take k)=v4 xs) (fun q=>lenOf q)
 case atStart=>exact ⟨xs.length,Nat.le_refl _,rfl,by rw [List.take_length]⟩
 case round =>
  obtain ⟨k,hk,rfl,hval⟩:=hrel
  have Hval:=hid hval
  clear hval
  cases k with
  | zero =>
   go_wp2
   go_ret
   refine ⟨_,rfl,?_,rfl,⟨_,rfl⟩⟩
   have:=hv.take (k:=0) (by omega)
   rw [←Hval.out]
   simpa [p4_zero] using this
  | succ k =>
   obtain ⟨b,off,rfl,hb,hcell⟩:=hv.cells (by omega)
   have hcl:=hcell k (by omega)
   have Hv:=hid hv
   clear hcell hv
   have h1:((↑(k+1):Int)-1).toNat=k:=by omega
   go_wp2
   ·go_round
    case rel =>
     refine ⟨k,by omega,rfl,?_⟩
     have h0:(↑xs[k] == (0:Int))=true:=by assumption
     have h0':xs[k]=0:=by simpa using h0
     rw [←Hval.out,v4_take_succ (by omega),h0']
     simp
    case measure=>simp [lenOf]
   ·go_ret
    refine ⟨_,rfl,?_,rfl,⟨_,rfl⟩⟩
    have h0:(↑xs[k] == (0:Int))=false:=by assumption
    have h0':xs[k]≠0:=by simpa using h0
    rw [←Hval.out,p4_take_top HX.out (by omega) h0']
    exact Hv.out.take (by omega)
theorem q_cut (v:Value) (xs:List Nat) (hx:∀ x∈xs,x<10000) (w:World) (hv:N64s w v xs) :
  Calls Tryz.prog 174 #[v] w fun e w'=>∃ v',e=.returned v'∧N64s w v' (p4 (v4 xs))∧w=w':=by
 refine (q_cut2 v xs hx w hv).mono ?_
 rintro e w' ⟨v',h1,h2,h3,_⟩
 exact ⟨v',h1,h2,h3⟩
end Go.Proofs.YtgohnjdgoglcfaaGreatDoor
namespace Go.Proofs.YtgohnjdgoglcfaaGreatDoor
open Go.Lib (decDigits itoa nDigits compareBytes)
open Go.RowKit Go.Sort
open Go.Lib (hid)
theorem p4_drop_pos {n j:Nat} (h:j<(p4 n).length):0<v4 ((p4 n).drop j):=by
 have e:p4 (v4 ((p4 n).drop j))=(p4 n).drop j:=by
  refine p4_v4 _ (fun x hx=>p4_lt n x (List.mem_of_mem_drop hx)) (fun hne=>?_)
  rw [List.getLast_drop]
  exact p4_getLast n _
 apply Nat.pos_of_ne_zero
 intro h0
 rw [h0,p4_zero] at e
 have:=congrArg List.length e
 simp at this
 omega
theorem nDigits_drop {n j:Nat}:nDigits (v4 ((p4 n).drop j))≤4*((p4 n).length-j)+1:=by
 have h:=v4_lt (a:=(p4 n).drop j) (fun x hx=>p4_lt n x (List.mem_of_mem_drop hx))
 rw [List.length_drop] at h
 have e:(10000:Nat) ^ ((p4 n).length-j)=10 ^ (4*((p4 n).length-j)):=by rw [Nat.pow_mul]
 rw [e] at h
 exact nDigits_le_of_lt (Nat.lt_of_lt_of_le h (Nat.pow_le_pow_right (by decide) (by omega))) (by omega)
def GivePost (n:Nat) (w:World) (e:Ending) (w':World):Prop:=∃ r:ByteArray,e=.returned (.string r)∧IsI r n∧Below w.heap.size w w'
theorem q_give (v:Value) (n:Nat) (hl:(p4 n).length≤100000000) (w:World) (hw:Good w) (hv:N64s w v (p4 n)):Calls Tryz.prog 175 #[v] w (GivePost n w):=by
 obtain ⟨p,c,rfl,hc,hm⟩:=hv.slice
 unfold maxLen at hm
 by_cases h0:n=0
 ·subst h0
  have e0:(p4 0).length=0:=by rw [p4_zero];rfl
  rw [e0]
  go_enter Tryz.func175,Tryz.ntmps175
  go_wp2
  go_ret
  exact ⟨_,rfl,isI_zero,Below.refl _ _⟩
 ·have hpos:=p4_length_pos h0
  obtain ⟨b,off,rfl,hb,hcell⟩:=hv.cells hpos
  obtain ⟨L,hL⟩ : ∃ L,L=(p4 n).length-1:=⟨_,rfl⟩
  have hLl:L<(p4 n).length:=by omega
  have hcl:=hcell L hLl
  have hlt:=p4_lt n _ (List.getElem_mem hLl)
  have HTOP:=hid (show v4 ((p4 n).drop L)=(p4 n)[L] by
   rw [List.drop_eq_getElem_cons hLl,v4_cons,List.drop_eq_nil_of_le (by omega)];simp)
  have HIT:=hid (fun (z:Int) (h1:-9223372036854775808≤z) (h2:z≤9223372036854775807) (W:World) (hg:Good W)=>Tryz.strconv_Itoa z h1 h2 W hg.pow)
  obtain ⟨Z,hZ⟩ : ∃ Z,(p4 n).length=Z:=⟨_,rfl⟩
  have HZ:=hid hZ
  have HL:=hid hL
  have HC:=hid hcell
  have HV:=hid hv
  have j0:((Z:Int) == 0)=false:=beq_eq_false_iff_ne.2 (by omega)
  obtain ⟨M,hM⟩ : ∃ M,(Z:Int)-1=M:=⟨_,rfl⟩
  have j1:IntKind.i64.wrap ((Z:Int)-1)=M:=by rw [hM];exact IntWalk.i64_in _ (by omega)
  have j2:0≤M:=by omega
  have j3:M<(Z:Int):=by omega
  have j4:M.toNat=L:=by omega
  rw [hZ] at hc ⊢
  have hzl:Z≤100000000:=by omega
  have hZL:L+1=Z:=by omega
  have HZL:=hid hZL
  clear hcell hv hZ hL hM hl hpos
  go_enter Tryz.func175,Tryz.ntmps175
  go_wp2_with fail
  refine (HIT.out _ (by omega) (by omega) w hw).mono ?_
  rintro e w1 ⟨rfl,kk,os,rfl⟩
  have hb1:=below_grown w kk os
  generalize grow (w.drewN kk) os=w1 at *
  have HST:=hid (show (⟨(itoa ((p4 n)[L]:Int)).toArray⟩ : ByteArray).data.toList=decDigits (v4 ((p4 n).drop L)) by rw [HTOP.out];simp [itoa_nat])
  clear hcl
  go_wp2_with fail
  go_loopw [3,4,5] (fun ov iv _ wr=>∃ (j:Nat) (o:ByteArray),ov=.string o∧iv=.int .i64 ((j:Int)-1)∧j≤L∧o.data.toList=decDigits (v4 ((p4 n).drop j))∧Below w.heap.size w wr) (fun _ iv _ _=>(intOf iv+1).toNat)
  case atStart=>exact ⟨L,_,rfl,by have:=HZL.out;go_num,Nat.le_refl _,HST.out,hb1⟩
  case round =>
   obtain ⟨j,o,rfl,rfl,hj,ho,hbr⟩:=hrel
   have HO:=hid ho
   have hos:o.size≤400000001:=by
    rw [Lib.size_eq,ho,decDigits_len]
    have:=nDigits_drop (n:=n) (j:=j)
    have:=HZ.out
    omega
   clear ho
   cases j with
   | zero =>
    go_wp2_with fail
    go_ret
    exact ⟨_,rfl,by have:=HO.out;rw [List.drop_zero,v4_p4] at this;unfold IsI;rw [this,itoa_nat],hbr⟩
   | succ j =>
    have h3:((↑(j+1):Int)-1)=j:=by omega
    rw [h3]
    have hjl:j<(p4 n).length:=by have:=HZ.out;have:=HZL.out;omega
    have c0:=(hbr.cell (p:=⟨b,off+j,none⟩) hb).trans (HC.out j hjl)
    have hx:=p4_lt n _ (List.getElem_mem hjl)
    have i1:(j:Int)<(Z:Int):=by have:=HZL.out;omega
    have HG:=hid (give_step (p:=p4 n) (i:=j) (by have:=HZ.out;have:=HZL.out;omega) (p4_lt n) (p4_drop_pos (by have:=HZ.out;have:=HZL.out;omega)))
    generalize (p4 n)[j]=y at *
    go_wp2_with fail
    refine (HIT.out _ (by omega) (by omega) _ (hw.below hbr)).mono ?_
    rintro e w2 ⟨rfl,k2,os2,rfl⟩
    have hb2:=below_grown wr k2 os2
    generalize grow (wr.drewN k2) os2=w2 at *
    obtain ⟨x,hx2⟩ : ∃ x:ByteArray,x=⟨(itoa (10000+(y:Int))).toArray⟩:=⟨_,rfl⟩
    rw [←hx2]
    have hxl:x.data.toList=49 :: dig4 y:=by
     rw [hx2,show (10000+(y:Int))=((10000+y:Nat):Int) by omega,itoa_nat,decDigits_pad hx]
    have hxs:x.size=5:=by rw [Lib.size_eq,hxl];rfl
    have HXL:=hid hxl
    clear hx2 hxl
    go_wp2_with fail
    refine ⟨⟨j,_,rfl,rfl,by have:=hj;omega,?_,hbr.trans (hb2.mono hbr.size)⟩,by simp [intOf]⟩
    rw [HG.out,←HO.out]
    have e:(o++x.extract 1 5).data.toList=o.data.toList++(x.extract 1 5).data.toList:=by simp
    rw [e,Lib.extract_data,HXL.out]
    simp [dig4]
def DrEq (a b:List Nat) (k:Nat):Prop:=a.drop k=b.drop k
theorem less_len {m n:Nat} (h:(p4 m).length≠(p4 n).length):decide ((p4 m).length<(p4 n).length)=decide (m<n):=by
 rw [decide_eq_decide]
 constructor
 ·exact lt_of_len4_lt
 ·intro hlt
  have:=p4_len_mono (Nat.le_of_lt hlt)
  omega
theorem less_all {m n:Nat} (h:DrEq (p4 m) (p4 n) 0):m=n:=p4_inj (by simpa [DrEq] using h)
theorem less_top {m n k:Nat} (hl:(p4 m).length=(p4 n).length) (hk:k<(p4 m).length) (hk':k<(p4 n).length) (h:DrEq (p4 m) (p4 n) (k+1)) (hne:(p4 m)[k]≠(p4 n)[k]):decide ((p4 m)[k]<(p4 n)[k])=decide (m<n):=by
 have eq:∀ j (h1:j<(p4 m).length) (h2:j<(p4 n).length),k<j→(p4 m)[j]=(p4 n)[j]:=fun j h1 h2 hkj=>by
  have e1:((p4 m).drop (k+1))[j-(k+1)]?=((p4 n).drop (k+1))[j-(k+1)]?:=by rw [h]
  rw [List.getElem?_drop,List.getElem?_drop,show k+1+(j-(k+1))=j by omega,List.getElem?_eq_getElem h1,List.getElem?_eq_getElem h2] at e1
  exact Option.some.inj e1
 rw [decide_eq_decide]
 constructor
 ·intro hlt
  have:=v4_lt_of_top hl (p4_lt m) k hk hlt (fun j h1 h2=>eq j h1 (by omega) h2)
  rwa [v4_p4,v4_p4] at this
 ·intro hmn
  apply Decidable.byContradiction
  intro hge
  have:=v4_lt_of_top hl.symm (p4_lt n) k hk' (by omega) (fun j h1 h2=>(eq j (by omega) h1 h2).symm)
  rw [v4_p4,v4_p4] at this
  omega
theorem q_less (va vb:Value) (m n:Nat) (w:World) (ha:N64s w va (p4 m)) (hb:N64s w vb (p4 n)) :
  Calls Tryz.prog 138 #[va,vb] w fun e w'=>e=.returned (.bool (decide (m<n)))∧Below w.heap.size w w':=by
 obtain ⟨p,c,rfl,hc,hm⟩:=ha.slice
 obtain ⟨q,d,rfl,hd,hm'⟩:=hb.slice
 unfold maxLen at hm hm'
 by_cases hl:(p4 m).length=(p4 n).length
 ·have h1:((((p4 m).length:Int)) != ((p4 n).length:Int))=false:=by simp [hl]
  have h2:((((p4 m).length)) != ((p4 n).length))=false:=by simp [hl]
  have HL:=hid hl
  clear hl
  go_enter Tryz.func138,Tryz.ntmps138
  go_wp2
  go_loopw [4,5] (fun _ i wr=>∃ k:Nat,k≤(p4 m).length∧i=.int .i64 ((k:Int)-1)∧DrEq (p4 m) (p4 n) k∧Below w.heap.size w wr) (fun _ i _=>((intOf i)+1).toNat)
  case atStart=>exact ⟨_,Nat.le_refl _,rfl,by unfold DrEq;rw [List.drop_eq_nil_of_le (Nat.le_refl _),List.drop_eq_nil_of_le (by rw [HL.out];exact Nat.le_refl _)],Below.refl _ _⟩
  case round =>
   obtain ⟨k,hk,rfl,hde,hbw⟩:=hrel
   have HDE:=hid hde
   clear hde
   cases k with
   | zero =>
    go_wp2
    go_ret
    have e:=less_all HDE.out
    exact ⟨by rw [e];simp,hbw⟩
   | succ k =>
    obtain ⟨b,off,rfl,hbb,hcell⟩:=(ha.below hbw).cells (by omega)
    obtain ⟨b',off',rfl,hbb',hcell'⟩:=(hb.below hbw).cells (by rw [←HL.out];omega)
    have hk':k<(p4 n).length:=by rw [←HL.out];omega
    have hcl:=hcell k (by omega)
    have hcl':=hcell' k hk'
    clear hcell hcell'
    have h3:((↑(k+1):Int)-1)=k:=by omega
    rw [h3]
    by_cases hne:(p4 m)[k]=(p4 n)[k]
    ·have hn1:(((p4 m)[k]:Int) != ((p4 n)[k]:Int))=false:=by simp [hne]
     have hn2:((p4 m)[k] != (p4 n)[k])=false:=by simp [hne]
     have HNE:=hid hne
     clear hne
     go_wp2
     go_quiet (fail)
     go_wp2
     go_roundw
     case rel=>exact ⟨k,by omega,by simp,by
      have:=HDE.out
      unfold DrEq at this ⊢
      rw [List.drop_eq_getElem_cons (by omega),List.drop_eq_getElem_cons hk',this,HNE.out],hbw.trans ((q_drewN wr _).mono hbw.size)⟩
     case measure=>simp [intOf]
    ·have hn1:(((p4 m)[k]:Int) != ((p4 n)[k]:Int))=true:=by simp;omega
     have hn2:((p4 m)[k] != (p4 n)[k])=true:=by simpa using hne
     have HNE:=hid (less_top HL.out (by omega) hk' HDE.out hne)
     clear hne
     go_wp2
     go_quiet (fail)
     go_wp2
     go_quiet (fail)
     go_wp2
     go_ret
     exact ⟨ret_bool HNE.out,(hbw.trans ((q_drewN wr _).mono hbw.size)).trans ((q_drewN (wr.drewN _) _).mono hbw.size)⟩
 ·have HL:=hid (less_len hl)
  have h1:((((p4 m).length:Int)) != ((p4 n).length:Int))=true:=by simp;omega
  have h2:((((p4 m).length)) != ((p4 n).length))=true:=by simpa using hl
  clear hl
  go_enter Tryz.func138,Tryz.ntmps138
  go_wp2
  go_ret
  exact ⟨ret_bool HL.out,Below.refl _ _⟩
end Go.Proofs.YtgohnjdgoglcfaaGreatDoor
