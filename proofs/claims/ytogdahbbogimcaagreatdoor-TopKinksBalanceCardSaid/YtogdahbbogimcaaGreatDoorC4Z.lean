import Derived.Test.YtogdahbbogimcaaGreatDoorC1Z
import Derived.Test.YtogdahbbogimcaaGreatDoorTxZ
set_option maxRecDepth 100000
set_option maxHeartbeats 1000000
namespace Go.Proofs.YtogdahbbogimcaaGreatDoor
open Go.RowKit Go.Shelf
open Go.Lib (decDigits itoa nDigits)
open Go.Lib (hid)
theorem root_size {a s:ByteArray} {r:Nat} (ha:IsI a ((r*r:Nat):Int)) (hs:IsI s (r:Int)):s.size≤a.size:=by
 rw [ha.size,hs.size,itoa_length,itoa_length,if_neg (by omega),if_neg (by omega)]
 have:=nDigits_mono (m:=r) (n:=r*r) (by
  rcases Nat.eq_zero_or_pos r with h | h
  ·omega
  ·exact Nat.le_mul_of_pos_left r h)
 rw [Int.natAbs_natCast,Int.natAbs_natCast]
 exact Nat.add_le_add_right this 0
theorem str_beq (s:ByteArray):(s.toList == s.toList)=true:=by simp
theorem surd_root (a:ByteArray) (r:Nat) (ha:IsI a ((r*r:Nat):Int)) (hsa:a.size≤9000000) (w:World) (hw:Good w) :
  Calls Tryz.prog 70 #[.string a] w fun e w'=>∃ s:ByteArray,e=.returned (.tuple #[.string s,.bool true])∧IsI s (r:Int)∧s.size≤a.size∧Below w.heap.size w w':=by
 have HA:=hid ha
 have HR:=hid (integer_Root a r ha (by omega) w hw)
 have he:=str_beq a
 clear ha
 go_enter Tryz.func70,Tryz.ntmps70
 go_wp2_with fail
 refine HR.out.mono ?_
 rintro e w1 ⟨s,rfl,hs,hb1⟩
 have hss:=root_size HA.out hs
 have HM:=hid (integer_Mul s s (r:Int) (r:Int) hs hs (by omega) (by omega) w1 (hw.below hb1))
 have HS:=hid hs
 clear hs
 go_wp2_with fail
 refine HM.out.mono ?_
 rintro e w2 ⟨m,rfl,hm,hb2⟩
 obtain rfl:m=a:=hm.unique (by rw [←Int.natCast_mul];exact HA.out)
 go_wp2
 go_ret2
 exact ⟨s,rfl,HS.out,hss,hb1.trans (hb2.mono hb1.size)⟩
theorem surd_alike (a:ByteArray) (w:World) :
  Calls Tryz.prog 73 #[.string a,.string a] w (RV (.tuple #[.string a,.bool true]) w):=by
 have he:=str_beq a
 have hb:=Below.refl w.heap.size w
 go_enter Tryz.func73,Tryz.ntmps73
 go_wp2
 go_ret2
 exact ⟨rfl,hb⟩
theorem rational_New (a b:ByteArray) (n d:Int) (ha:IsI a n) (hb:IsI b d) (hd:d≠0) (hsa:a.size≤8999999999) (hsb:b.size≤8999999999) (w:World) (hw:Good w) :
  Calls Tryz.prog 17 #[.string a,.string b] w (RV (.tuple #[.string (tx (Rat.divInt n d)),.int .i64 0]) w):=by
 have HS:=hid (integer_Sign b d hb w)
 have HL:=hid (rational_lowest a b n d ha hb hd hsa hsb w hw)
 have h0:(sgn d == 0)=false:=beq_eq_false_iff_ne.2 (by rcases sgn_cases d with ⟨h,k⟩ | ⟨h,k⟩ | ⟨h,k⟩ <;> omega)
 generalize sgn d=sg at *
 clear ha hb
 go_enter Tryz.func17,Tryz.ntmps17
 go_wp2_with fail
 refine HS.out.mono ?_
 rintro e w1 ⟨rfl,rfl⟩
 go_wp2_with fail
 refine HL.out.mono ?_
 rintro e w2 ⟨r,rfl,hr,hb2⟩
 obtain rfl:=hr.unique (isR_mk (Rat.divInt n d))
 go_wp2
 go_ret2
 exact ⟨rfl,hb2⟩
theorem surd_over (a b:ByteArray) (n d:Int) (ha:IsI a n) (hb:IsI b d) (hd:d≠0) (hsa:a.size≤8999999999) (hsb:b.size≤8999999999) (w:World) (hw:Good w) :
  Calls Tryz.prog 102 #[.string a,.string b] w (RV (.string (tx (Rat.divInt n d))) w):=by
 have HN:=hid (rational_New a b n d ha hb hd hsa hsb w hw)
 unfold RV at HN
 clear ha hb
 generalize tx (Rat.divInt n d)=q at *
 go_enter Tryz.func102,Tryz.ntmps102
 go_wp2_with fail
 refine HN.out.mono ?_
 rintro e w1 ⟨rfl,hb1⟩
 go_wp2
 go_ret
 exact ⟨rfl,hb1⟩
def Surd1 (w:World) (v:Value) (b:Nat) (q:Rat):Prop:=∃ c cur,v=.slice (some ⟨b,0,none⟩) 1 c∧1≤c∧c≤maxLen∧w.heap[b]?=some (.cells cur 78 (0,0))∧cur[0]?=some (.string (tx q))∧cur[1]?=some (.string ⟨#[49]⟩)
theorem Surd1.below {w w':World} {v:Value} {b:Nat} {q:Rat} (h:Surd1 w v b q) (hb:Below w.heap.size w w'):Surd1 w' v b q:=by
 obtain ⟨c,cur,h1,h2,h3,h4,h5⟩:=h
 exact ⟨c,cur,h1,h2,h3,(hb.block b (lt_of_some h4)).trans h4,h5⟩
theorem Surd1.cells {w:World} {v:Value} {b:Nat} {q:Rat} (h:Surd1 w v b q):∃ c,v=.slice (some ⟨b,0,none⟩) 1 c∧1≤c∧c≤maxLen∧b<w.heap.size∧w.cell? ⟨b,0,none⟩=some (.string (tx q))∧w.cell? ⟨b,1,none⟩=some (.string ⟨#[49]⟩)∧w.frozen? ⟨b,0,none⟩=false∧w.frozen? ⟨b,1,none⟩=false:=by
 obtain ⟨c,cur,h1,h2,h3,h4,h5,h6⟩:=h
 refine ⟨c,h1,h2,h3,lt_of_some h4,?_,?_,?_,?_⟩
 ·simp [World.cell?,h4,h5]
 ·simp [World.cell?,h4,h6]
 ·simp [World.frozen?,h4]
 ·simp [World.frozen?,h4]
def SurdPost (q:Rat) (w:World) (e:Ending) (w':World):Prop:=∃ v b,e=.returned (.tuple #[v,.int .i64 0])∧Surd1 w' v b q∧w.heap.size≤b∧Below w.heap.size w w'
theorem surd_From (q:Rat) (hq:OkB q) (h0:q≠0) (w:World) (hw:Good w):Calls Tryz.prog 101 #[.string (tx q)] w (SurdPost q w):=by
 have HC:=hid (k_check q hq w hw)
 have hz:((tx q).toList == [48])=false:=by rw [(isR_mk q).zero];exact decide_eq_false h0
 have HE:∃ t,t=tx q:=⟨_,rfl⟩
 unfold SurdPost
 unfold RV at HC
 obtain ⟨t,ht⟩:=HE
 rw [←ht] at HC hz
 have HT:=hid ht
 rw [←ht]
 clear hq h0 ht
 go_enter Tryz.func101,Tryz.ntmps101
 go_wp2_with fail
 refine HC.out.mono ?_
 rintro e w1 ⟨rfl,hb1⟩
 go_wp2
 go_ret2
 refine ⟨_,w1.heap.size,rfl,⟨1,_,rfl,Nat.le_refl _,by unfold maxLen;omega,World.alloc_heap_new _ _,by rw [←HT.out];rfl,rfl⟩,hb1.size,hb1.alloc hb1.size _⟩
theorem num_of_pos {q:Rat} (h:0<q):0<q.num:=by
 have h1:=Rat.num_nonneg.2 (Rat.le_of_lt h)
 have h2:q.num≠0:=fun e=>by
  rw [num_zero_iff.2 e] at h
  exact absurd h (by decide)
 omega
theorem sq_int {q:Rat}:q.num*(q.den:Int)*(q.num*(q.den:Int))=q.num*q.num*((q.den*q.den:Nat):Int):=by
 rw [Int.natCast_mul];grind
theorem sq_nat {q:Rat} (hq:0<q):∃ r:Nat,((r*r:Nat):Int)=(q*q).num*((q*q).den:Int)∧Rat.divInt (r:Int) ((q*q).den:Int)=q∧0<r:=by
 obtain ⟨h1,h2⟩:=sq_rat q
 have hn:0<q.num:=num_of_pos hq
 refine ⟨q.num.natAbs*q.den,?_,?_,Nat.mul_pos (by omega) q.den_pos⟩
 ·rw [h1,h2]
  have e:((q.num.natAbs*q.den:Nat):Int)=q.num*(q.den:Int):=by rw [Int.natCast_mul,Int.natAbs_of_nonneg (by omega)]
  rw [Int.natCast_mul,e,sq_int]
 ·rw [h2]
  have e:((q.num.natAbs*q.den:Nat):Int)=q.num*(q.den:Int):=by rw [Int.natCast_mul,Int.natAbs_of_nonneg (by omega)]
  rw [e,Int.natCast_mul,Rat.divInt_mul_right (by have:=q.den_pos;omega)]
  exact Rat.num_divInt_den q
theorem surd_Of (q:Rat) (hp:0<q) (hq:OkB q) (hqq:OkB (q*q)) (w:World) (hw:Good w):Calls Tryz.prog 68 #[.string (tx (q*q))] w (SurdPost q w):=by
 obtain ⟨r,hr1,hr2,hr3⟩:=sq_nat hp
 have hpp:=Rat.mul_pos hp hp
 generalize q*q=x at *
 have hx402:(tx x).size≤402:=hqq.sz
 have HC:=hid (k_check x hqq w hw)
 have HS:=hid (fun w'=>rational_Sign (tx x) x (isR_mk x) (by omega) w')
 have HP:=hid (fun w' (hg:Good w')=>rational_Parts (tx x) x (isR_mk x) (by omega) w' hg)
 have hs0:decide (sgnR x<0)=false:=decide_eq_false (by
  unfold sgnR
  have:0<x.num:=num_of_pos hpp
  rw [sgn_pos this];omega)
 have hz:((tx x).toList == [48])=false:=by rw [(isR_mk x).zero];exact decide_eq_false (by intro h;subst h;exact absurd hpp (by decide))
 have HF:=hid (fun w' (hg:Good w')=>surd_From q hq (by intro h;subst h;exact absurd hp (by decide)) w' hg)
 have HDP:=hid (Int.natCast_pos.2 x.den_pos)
 have HR1:=hid hr1
 have HR2:=hid hr2
 unfold RV at HC
 unfold PartsPost at HP
 unfold SurdPost at *
 generalize tx x=t at *
 generalize sgnR x=sg at *
 clear hr1 hr2 hpp hp hq hqq
 go_enter Tryz.func68,Tryz.ntmps68
 go_wp2_with fail
 refine HC.out.mono ?_
 rintro e w1 ⟨rfl,hb1⟩
 go_wp2_with fail
 refine (HS.out w1).mono ?_
 rintro e w1' ⟨rfl,rfl⟩
 go_wp2_with fail
 refine (HP.out w1 (hw.below hb1)).mono ?_
 rintro e w2 ⟨a,b,rfl,ha,hb,hsa,hsb,hb2⟩
 have hb02:=hb1.trans (hb2.mono hb1.size)
 have HA:=hid ha
 have HB:=hid hb
 clear ha hb
 go_wp2_with fail
 refine (integer_Mul a b _ _ HA.out HB.out (by omega) (by omega) w2 (hw.below hb02)).mono ?_
 rintro e w3 ⟨m,rfl,hm,hb3⟩
 have hb03:=hb02.trans (hb3.mono hb02.size)
 have hms:=isI_mul_size HA.out HB.out hm
 have HM:=hid (show IsI m ((r*r:Nat):Int) by rw [HR1.out];exact hm)
 clear hm
 go_wp2_with fail
 refine (surd_root m r HM.out (by omega) w3 (hw.below hb03)).mono ?_
 rintro e w4 ⟨s,rfl,hs,hss,hb4⟩
 have hb04:=hb03.trans (hb4.mono hb03.size)
 have HO:=hid (surd_over s b (r:Int) _ hs HB.out (by have:=HDP.out;omega) (by omega) (by omega) w4 (hw.below hb04))
 rw [HR2.out] at HO
 unfold RV at HO
 clear hs
 go_wp2_with fail
 refine HO.out.mono ?_
 rintro e w5 ⟨rfl,hb5⟩
 have hb05:=hb04.trans (hb5.mono hb04.size)
 go_wp2_with fail
 refine (HF.out w5 (hw.below hb05)).mono ?_
 rintro e w6 ⟨v,b,rfl,hv,hvb,hb6⟩
 go_wp2
 go_ret2
 exact ⟨v,b,rfl,hv,Nat.le_trans hb05.size hvb,hb05.trans (hb6.mono hb05.size)⟩
end Go.Proofs.YtogdahbbogimcaaGreatDoor
