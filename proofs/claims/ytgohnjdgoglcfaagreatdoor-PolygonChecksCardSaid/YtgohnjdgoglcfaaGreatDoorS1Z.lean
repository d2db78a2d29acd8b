import Derived.Test.YtgohnjdgoglcfaaGreatDoorQ15Z
import Derived.Test.YtgohnjdgoglcfaaGreatDoorTxZ
set_option maxRecDepth 100000
set_option maxHeartbeats 2000000
namespace Go.Proofs.YtgohnjdgoglcfaaGreatDoor
open Go.RowKit Go.Shelf
open Go.Lib (decDigits itoa nDigits)
open Go.Lib (hid)
abbrev ix (n:Int):ByteArray:=⟨(itoa n).toArray⟩
theorem isI_mk (n:Int):IsI (ix n) n:=by unfold IsI;simp
def Iz (k:Nat) (n:Int):Prop:=(ix n).size≤k
theorem ix_len (n:Int):(ix n).size=(itoa n).length:=(isI_mk n).size
theorem Iz.mono {j k:Nat} {n:Int} (h:Iz j n) (hk:j≤k):Iz k n:=Nat.le_trans h hk
theorem Iz.mul {j k:Nat} {m n:Int} (h:Iz j m) (h':Iz k n):Iz (j+k+1) (m*n):=by
 have h1:=isI_mul_size (isI_mk m) (isI_mk n) (isI_mk (m*n))
 unfold Iz at *
 omega
theorem Iz.add {j k:Nat} {m n:Int} (h:Iz j m) (h':Iz k n):Iz (j+k+2) (m+n):=by
 have h1:=isI_add_size (isI_mk m) (isI_mk n) (isI_mk (m+n))
 unfold Iz at *
 omega
theorem Iz.neg {j:Nat} {n:Int} (h:Iz j n):Iz (j+1) (-n):=by
 have h1:=isI_neg_size (isI_mk (-n)) (isI_mk n)
 unfold Iz at *
 omega
theorem Iz.abs {j:Nat} {m n:Int} (h:Iz j n) (hm:m.natAbs≤n.natAbs):Iz (j+1) m:=by
 have h1:=isI_size_le (isI_mk n) (isI_mk m) hm
 unfold Iz at *
 omega
theorem Iz.lt {k:Nat} {n:Int} (h:Iz k n):n.natAbs<10 ^ k:=natAbs_lt_of_itoa_length (by rw [←ix_len];exact h)
theorem ix1:ix 1=⟨#[49]⟩:=by show (⟨(itoa 1).toArray⟩ : ByteArray)=_;rw [itoa_one]
theorem i_of (n:Int) (h0:-9223372036854775808≤n) (h1:n≤9223372036854775807) (w:World) (hw:Good w):Calls Tryz.prog 125 #[.int .i64 n] w (RV (.string (ix n)) w):=
 (q_Of n h0 h1 w hw).mono fun e w' ⟨r,he,hr,hb⟩=>⟨by rw [he,hr.unique (isI_mk n)],hb⟩
theorem i_sign (n:Int) (w:World):Calls Tryz.prog 130 #[.string (ix n)] w (RV (.int .i64 (sgn n)) w):=q_Sign (ix n) n (isI_mk n) w
theorem i_neg (n:Int) (hn:Iz 9000000000 n) (w:World):Calls Tryz.prog 131 #[.string (ix n)] w (RV (.string (ix (-n))) w):=
 (q_Neg (ix n) n (isI_mk n) w hn).mono fun e w' ⟨r,he,hr,hb⟩=>⟨by rw [he,hr.unique (isI_mk (-n))],hb⟩
theorem i_add (m n:Int) (hm:Iz 90000000 m) (hn:Iz 90000000 n) (w:World) (hw:Good w):Calls Tryz.prog 94 #[.string (ix m),.string (ix n)] w (RV (.string (ix (m+n))) w):=
 (q_Add (ix m) (ix n) m n (isI_mk m) (isI_mk n) hm hn w hw).mono fun e w' ⟨r,he,hr,hb⟩=>⟨by rw [he,hr.unique (isI_mk (m+n))],hb⟩
theorem i_cmp (m n:Int) (hm:Iz 80000000 m) (hn:Iz 80000000 n) (w:World) (hw:Good w):Calls Tryz.prog 108 #[.string (ix m),.string (ix n)] w (RV (.int .i64 (sgn (m-n))) w):=
 q_Compare (ix m) (ix n) m n (isI_mk m) (isI_mk n) hm hn w hw
theorem i_mul (m n:Int) (hm:Iz 9000000 m) (hn:Iz 9000000 n) (w:World) (hw:Good w):Calls Tryz.prog 95 #[.string (ix m),.string (ix n)] w (RV (.string (ix (m*n))) w):=
 (q_Mul (ix m) (ix n) m n (isI_mk m) (isI_mk n) hm hn w hw).mono fun e w' ⟨r,he,hr,hb⟩=>⟨by rw [he,hr.unique (isI_mk (m*n))],hb⟩
theorem i_divmod (m n:Int) (h0:0<n) (hm:Iz 80000000 m) (hn:Iz 80000000 n) (w:World) (hw:Good w):Calls Tryz.prog 132 #[.string (ix m),.string (ix n)] w (RV (.tuple #[.string (ix (m/n)),.string (ix (m % n))]) w):=
 (q_DivMod (ix m) (ix n) m n (isI_mk m) (isI_mk n) h0 hm hn w hw).mono fun e w' ⟨q,r,he,hq,hr,hb⟩=>⟨by rw [he,hq.unique (isI_mk (m/n)),hr.unique (isI_mk (m % n))],hb⟩
theorem i_gcd (m n:Int) (hm:Iz 80000000 m) (hn:Iz 80000000 n) (w:World) (hw:Good w):Calls Tryz.prog 109 #[.string (ix m),.string (ix n)] w (RV (.string (ix (Int.gcd m n:Nat))) w):=
 (q_Gcd (ix m) (ix n) m n (isI_mk m) (isI_mk n) hm hn w hw).mono fun e w' ⟨r,he,hr,hb⟩=>⟨by rw [he,hr.unique (isI_mk _)],hb⟩
theorem i_itoa (n:Int) (h0:n.natAbs≤4000000000000000000) (w:World) (hw:Good w):Calls Tryz.prog 128 #[.int .i64 n] w (RV (.string (ix n)) w):=
 (sh_Itoa n h0 w hw).mono fun e w' ⟨r,he,hr,_,hb⟩=>⟨by rw [he,hr.unique (isI_mk n)],hb⟩
theorem iz20 {n:Int} (h0:n.natAbs≤4000000000000000000):Iz 20 n:=by
 unfold Iz
 rw [ix_len]
 exact itoa_length_le n (k:=19) (by omega) (by omega)
theorem i_atoi (n:Int) (h:Iz 18 n) (w:World):Calls Tryz.prog 172 #[.string (ix n)] w (RV (.tuple #[.int .i64 n,.nilIface]) w):=by
 have hn:=h.lt
 unfold Iz at h
 refine (Tryz.strconv_Atoi_ok (ix n) (by omega) n (by rw [isI_mk n];exact atoiAll_itoa hn) w).mono ?_
 rintro e w' ⟨rfl,hw'⟩
 refine ⟨rfl,?_⟩
 rcases hw' with rfl | ⟨t,rfl⟩
 ·exact Below.refl _ _
 ·exact Lib.bytesWorld_below _ _ _
theorem indexByte47_app (A B:List UInt8) (h:∀ c∈A,c≠47):Lib.indexByte (A++47 :: B) 47=(A.length:Int):=by
 have:=indexByte_app A B h
 rwa [Lib.index_one] at this
theorem indexByte47_none (A:List UInt8) (h:∀ c∈A,c≠47):Lib.indexByte A 47 = -1:=by
 have:=indexByte_none A h
 rwa [Lib.index_one] at this
theorem ext_front {s:ByteArray} {A B:List UInt8} (h:s.data.toList=A++B):(s.extract 0 A.length).data.toList=A:=by
 rw [Lib.extract_data,h];simp
theorem ext_back {s:ByteArray} {A B:List UInt8} {c:UInt8} (h:s.data.toList=A++c :: B):(s.extract (A.length+1) s.size).data.toList=B:=by
 have h2:s.size=A.length+1+B.length:=by rw [Lib.size_eq,h];simp;omega
 rw [Lib.extract_data,h,h2]
 simp
theorem tx_data (q:Rat):(tx q).data.toList=rtext q:=isR_mk q
theorem iz_num {k:Nat} {q:Rat} (h:Sz k q):Iz k q.num:=by
 have:=rlen_num q
 unfold Sz at h
 unfold Iz
 rw [tx_len] at h
 rw [ix_len]
 omega
theorem iz_den {k:Nat} {q:Rat} (h:Sz k q):Iz k (q.den:Int):=by
 have:=rlen_den q
 unfold Sz at h
 unfold Iz
 rw [tx_len] at h
 rw [ix_len,itoa_nat,decDigits_len]
 omega
theorem r_parts (q:Rat) (hq:Sz 4000000000 q) (w:World):Calls Tryz.prog 92 #[.string (tx q)] w (RV (.tuple #[.string (ix q.num),.string (ix (q.den:Int))]) w):=by
 have hsz:(tx q).size≤4000000000:=hq
 obtain ⟨s,hs⟩ : ∃ s,s=tx q:=⟨_,rfl⟩
 have ht:s.data.toList=rtext q:=by rw [hs]
 rw [←hs] at hsz ⊢
 obtain ⟨A,hA⟩ : ∃ A,A=itoa q.num:=⟨_,rfl⟩
 obtain ⟨a,ha⟩ : ∃ a,a=ix q.num:=⟨_,rfl⟩
 obtain ⟨b,hb⟩ : ∃ b,b=ix (q.den:Int):=⟨_,rfl⟩
 rw [←ha,←hb]
 have had:a.data.toList=A:=by rw [ha,hA]
 have hbd:b.data.toList=decDigits q.den:=by rw [hb,←itoa_nat]
 by_cases hd:q.den=1
 ·have hc:Lib.indexByte s.data.toList 47 = -1:=by
   rw [ht];unfold rtext rjoin;rw [if_pos hd];exact indexByte47_none _ (itoa_no47 _)
  have hsa:s=a:=by
   apply str_ext
   rw [ht,had,hA];unfold rtext rjoin;rw [if_pos hd]
  have HB:=hid (show (⟨#[49]⟩ : ByteArray)=b by rw [hb,hd];exact ix1.symm)
  subst hsa
  have HC:=hid hc
  clear hs ht hA ha hb had hbd hd hc hq
  go_enter Tryz.func92,Tryz.ntmps92
  go_wp2_with fail
  refine (Tryz.strings_IndexByte s 47 _).mono ?_
  rintro e w' ⟨rfl,rfl⟩
  rw [show (47:Int).toNat.toUInt8=47 from rfl,HC.out]
  go_wp2
  go_ret2
  exact ⟨by rw [HB.out];rfl,Below.refl _ _⟩
 ·have hsp:s.data.toList=A++47 :: decDigits q.den:=by rw [ht,hA];unfold rtext rjoin;rw [if_neg hd]
  have hc:Lib.indexByte s.data.toList 47=(A.length:Int):=by rw [hsp];exact indexByte47_app _ _ (by rw [hA];exact itoa_no47 _)
  have HX:=hid (show s.extract 0 A.length=a from str_ext (by rw [ext_front hsp,had]))
  have HY:=hid (show s.extract (A.length+1) s.size=b from str_ext (by rw [ext_back hsp,hbd]))
  have hAl:A.length+1≤s.size:=by rw [Lib.size_eq,hsp];simp
  have HC:=hid hc
  generalize A.length=k at *
  clear hs ht hA ha hb had hbd hd hc hq hsp
  have i1:(k:Int)+1≤(s.size:Int):=by omega
  have i2:((k:Int)+1).toNat=k+1:=by omega
  have i3:¬ (k:Int)<0:=by omega
  go_enter Tryz.func92,Tryz.ntmps92
  go_wp2_with fail
  refine (Tryz.strings_IndexByte s 47 _).mono ?_
  rintro e w' ⟨rfl,rfl⟩
  rw [show (47:Int).toNat.toUInt8=47 from rfl,HC.out]
  go_wp2_with fail
  go_quiet (fail)
  go_wp2
  go_ret2
  exact ⟨by rw [←HX.out,←HY.out];rfl,q_drewN _ _⟩
theorem r_lowest (n d:Int) (hd:0<d) (hn:n.natAbs≤4000000000000000000) (hdl:d≤4000000000000000000) (w:World) (hw:Good w) :
  Calls Tryz.prog 91 #[.int .i64 n,.int .i64 d] w (RV (.string (tx (Rat.divInt n d))) w):=by
 obtain ⟨r,hr⟩ : ∃ r,r=tx (Rat.divInt n d):=⟨_,rfl⟩
 obtain ⟨G,hG⟩ : ∃ G,G=Int.gcd n d:=⟨_,rfl⟩
 have hlt:=lowest_text (n:=n) hd
 rw [←hG] at hlt
 obtain ⟨-,v2,v3,v4,v5,v6,v7,v8⟩:=small_vals hd hG (x:=(G:Int)) (by simp)
 have HT1:=hid (show d/(G:Int)=1→ix (n/(G:Int))=r from fun h=>str_ext (by rw [hr,tx_data,hlt,h];exact isI_mk _))
 have HT2:=hid (show ¬ d/(G:Int)=1→ix (n/(G:Int)) ++ ⟨#[47]⟩++ix (d/(G:Int))=r from fun h=>str_ext (by rw [hr,tx_data,hlt];exact frac_text (isI_mk _) (isI_mk _) (by omega)))
 have HIN:=hid (fun w' hg=>i_itoa (n/(G:Int)) (by omega) w' hg)
 have HID:=hid (fun w' hg=>i_itoa (d/(G:Int)) (by omega) w' hg)
 have HIN2:=hid (iz20 (n:=n/(G:Int)) (by omega))
 have HID2:=hid (iz20 (n:=d/(G:Int)) (by omega))
 unfold RV at HIN HID
 have HV3:=hid v3
 have HV4:=hid v4
 have hG0:((G:Int) == 0)=false:=by simp;omega
 have HGG:=hid hG
 rw [←hr]
 have hmx:max n (-n)=(n.natAbs:Int):=by omega
 have hda:(d.natAbs:Int)=d:=by omega
 by_cases hd1:d=1
 ·have hg1:G=1:=by rw [hG,hd1];exact Int.gcd_one
  have HE:=hid (show ix n=r by have:=HT1.out (by rw [hg1,hd1];rfl);rw [hg1] at this;simpa using this)
  clear hG hr hlt v2 v3 v4 v5 v6 v7 v8 hg1 hG0
  subst hd1
  go_enter Tryz.func91,Tryz.ntmps91
  go_wp2_with fail
  refine (i_itoa n hn w hw).mono ?_
  rintro e w1 ⟨rfl,hb1⟩
  go_wp2
  go_ret
  exact ⟨ret_str HE.out,hb1⟩
 ·have hd1':(d == 1)=false:=by simpa using hd1
  have hd2':(d != 1)=true:=by simpa using hd1
  clear hG hr hlt v3 v4 hd1
  go_enter Tryz.func91,Tryz.ntmps91
  go_wp2_with fail
  go_loopw [5,6] (fun xv yv wr=>∃ x y:Nat,xv=.int .i64 (x:Int)∧yv=.int .i64 (y:Int)∧Nat.gcd x y=G∧x≤4000000000000000000∧y≤4000000000000000000∧Below w.heap.size w wr) (fun _ yv _=>(intOf yv).natAbs)
  case atStart=>exact ⟨n.natAbs,d.natAbs,congrArg (Value.int .i64) (by omega),congrArg (Value.int .i64) (by omega),by rw [HGG.out];exact (Int.gcd_eq_natAbs_gcd_natAbs n d).symm,by omega,by omega,Below.refl _ _⟩
  case round =>
   obtain ⟨x,y,rfl,rfl,hg,hxl,hyl,hbr⟩:=hrel
   have HG:=hid hg
   clear hg
   by_cases hy0:y=0
   ·subst hy0
    obtain rfl:G=x:=by have:=HG.out;simpa using this.symm
    go_wp2_with fail
    go_quiet (fail)
    have hb0:Below w.heap.size w (wr.drewN nq):=⟨hbr.os,hbr.tape,hbr.output,hbr.size,hbr.block⟩
    by_cases h1:d/(G:Int)=1
    ·have h1':(d/(G:Int) == 1)=true:=by simpa using h1
     have HE:=hid (show ix (n/(G:Int))=r from HT1.out h1)
     clear h1
     go_wp2_with fail
     try rw [HV3.out]
     refine (HIN.out _ (hw.below hb0)).mono ?_
     rintro e w1 ⟨rfl,hb1⟩
     go_wp2
     go_ret
     exact ⟨ret_str HE.out,hb0.trans (hb1.mono hb0.size)⟩
    ·have h1':(d/(G:Int) == 1)=false:=by simpa using h1
     have HE:=hid (show ix (n/(G:Int)) ++ ⟨#[47]⟩++ix (d/(G:Int))=r from HT2.out h1)
     clear h1
     have s1:=HIN2.out
     have s2:=HID2.out
     unfold Iz at s1 s2
     go_wp2_with fail
     try rw [HV3.out]
     refine (HIN.out _ (hw.below hb0)).mono ?_
     rintro e w1 ⟨rfl,hb1⟩
     have hb01:=hb0.trans (hb1.mono hb0.size)
     generalize ix (n/(G:Int))=t1 at *
     go_wp2_with fail
     try rw [HV4.out]
     refine (HID.out _ (hw.below hb01)).mono ?_
     rintro e w2 ⟨rfl,hb2⟩
     generalize ix (d/(G:Int))=t2 at *
     go_wp2
     go_ret
     exact ⟨ret_str HE.out,hb01.trans (hb2.mono hb01.size)⟩
   ·have hz:((y:Int) != 0)=true:=by simpa using hy0
    have hz2:((y:Int) == 0)=false:=by simpa using hy0
    have hmod:(x:Int).tmod (y:Int)=((x % y:Nat):Int):=rfl
    have HS:=hid (show Nat.gcd y (x % y)=G by rw [Nat.gcd_comm,←Nat.gcd_rec,Nat.gcd_comm];exact HG.out)
    have hml:=Nat.mod_lt x (show 0<y by omega)
    go_wp2_with fail
    go_quiet (fail)
    go_wp2
    exact ⟨⟨y,x % y,rfl,rfl,HS.out,hyl,by omega,⟨hbr.os,hbr.tape,hbr.output,hbr.size,hbr.block⟩⟩,by show (((x % y:Nat):Int)).natAbs<((y:Int)).natAbs;omega⟩
theorem r_small_pos (m n d e:Int) (hd:0<d) (hn:n.natAbs<1000000000) (hdl:d<1000000000) (hs:(e<0∧m = -n∧e = -d)∨(¬ e<0∧m=n∧e=d)) (w:World) (hw:Good w) :
  Calls Tryz.prog 129 #[.string (ix m),.string (ix e)] w (RV (.string (tx (Rat.divInt n d))) w):=by
 have hm9:Iz 18 m:=by unfold Iz;rw [ix_len];exact itoa_length_le m (k:=17) (by omega) (by omega)
 have he9:Iz 18 e:=by unfold Iz;rw [ix_len];exact itoa_length_le e (k:=17) (by omega) (by omega)
 have HAM:=hid (fun w'=>i_atoi m hm9 w')
 have HAE:=hid (fun w'=>i_atoi e he9 w')
 unfold RV at HAM HAE
 obtain ⟨r,hr⟩ : ∃ r,r=tx (Rat.divInt n d):=⟨_,rfl⟩
 obtain ⟨G,hG⟩ : ∃ G,G=Int.gcd n d:=⟨_,rfl⟩
 have hlt:=lowest_text (n:=n) hd
 rw [←hG] at hlt
 obtain ⟨-,v2,v3,v4,v5,v6,v7,v8⟩:=small_vals hd hG (x:=(G:Int)) (by simp)
 have HT1:=hid (show d/(G:Int)=1→ix (n/(G:Int))=r from fun h=>str_ext (by rw [hr,tx_data,hlt,h];exact isI_mk _))
 have HT2:=hid (show ¬ d/(G:Int)=1→ix (n/(G:Int)) ++ ⟨#[47]⟩++ix (d/(G:Int))=r from fun h=>str_ext (by rw [hr,tx_data,hlt];exact frac_text (isI_mk _) (isI_mk _) (by omega)))
 have HIN:=hid (fun w' hg=>i_itoa (n/(G:Int)) (by omega) w' hg)
 have HID:=hid (fun w' hg=>i_itoa (d/(G:Int)) (by omega) w' hg)
 have HIN2:=hid (iz20 (n:=n/(G:Int)) (by omega))
 have HID2:=hid (iz20 (n:=d/(G:Int)) (by omega))
 unfold RV at HIN HID
 have HV3:=hid v3
 have HV4:=hid v4
 have hG0:((G:Int) == 0)=false:=by simp;omega
 have HGG:=hid hG
 rw [←hr]
 clear hG hr hlt v3 v4 hm9 he9
 go_enter Tryz.func129,Tryz.ntmps129
 go_wp2_with fail
 refine (HAM.out w).mono ?_
 rintro e' w1 ⟨rfl,hb1⟩
 generalize ix m=tm at *
 go_wp2_with fail
 refine (HAE.out w1).mono ?_
 rintro e' w2 ⟨rfl,hb2⟩
 generalize ix e=te at *
 have hb12:=hb1.trans (hb2.mono hb1.size)
 clear hb1 hb2
 obtain ⟨he0,rfl,rfl⟩ | ⟨he0,rfl,rfl⟩:=hs
 ·have n1:- -n=n:=by omega
  have n2:- -d=d:=by omega
  by_cases hn0:n<0
  ·go_wp2_with fail
   go_loopw [9,10] (fun xv yv wr=>∃ x y:Nat,xv=.int .i64 (x:Int)∧yv=.int .i64 (y:Int)∧Nat.gcd x y=G∧x≤4000000000000000000∧y≤4000000000000000000∧Below w.heap.size w wr) (fun _ yv _=>(intOf yv).natAbs)
   case atStart=>exact ⟨n.natAbs,d.natAbs,congrArg (Value.int .i64) (by omega),congrArg (Value.int .i64) (by omega),by rw [HGG.out];exact (Int.gcd_eq_natAbs_gcd_natAbs n d).symm,by omega,by omega,hb12⟩
   case round =>
    obtain ⟨x,y,rfl,rfl,hg,hxl,hyl,hbr⟩:=hrel
    have HG:=hid hg
    clear hg
    by_cases hy0:y=0
    ·subst hy0
     obtain rfl:G=x:=by have:=HG.out;simpa using this.symm
     go_wp2_with fail
     go_quiet (fail)
     have hb0:Below w.heap.size w (wr.drewN nq):=⟨hbr.os,hbr.tape,hbr.output,hbr.size,hbr.block⟩
     by_cases h1:d/(G:Int)=1
     ·have h1':(d/(G:Int) == 1)=true:=by simpa using h1
      have HE:=hid (show ix (n/(G:Int))=r from HT1.out h1)
      clear h1
      go_wp2_with fail
      try rw [HV3.out]
      refine (HIN.out _ (hw.below hb0)).mono ?_
      rintro e w1 ⟨rfl,hb1⟩
      go_wp2
      go_ret
      exact ⟨ret_str HE.out,hb0.trans (hb1.mono hb0.size)⟩
     ·have h1':(d/(G:Int) == 1)=false:=by simpa using h1
      have HE:=hid (show ix (n/(G:Int)) ++ ⟨#[47]⟩++ix (d/(G:Int))=r from HT2.out h1)
      clear h1
      have s1:=HIN2.out
      have s2:=HID2.out
      unfold Iz at s1 s2
      go_wp2_with fail
      try rw [HV3.out]
      refine (HIN.out _ (hw.below hb0)).mono ?_
      rintro e w1 ⟨rfl,hb1⟩
      have hb01:=hb0.trans (hb1.mono hb0.size)
      generalize ix (n/(G:Int))=t1 at *
      go_wp2_with fail
      try rw [HV4.out]
      refine (HID.out _ (hw.below hb01)).mono ?_
      rintro e w2 ⟨rfl,hb2⟩
      generalize ix (d/(G:Int))=t2 at *
      go_wp2
      go_ret
      exact ⟨ret_str HE.out,hb01.trans (hb2.mono hb01.size)⟩
    ·have hz:((y:Int) != 0)=true:=by simpa using hy0
     have hz2:((y:Int) == 0)=false:=by simpa using hy0
     have hmod:(x:Int).tmod (y:Int)=((x % y:Nat):Int):=rfl
     have HS:=hid (show Nat.gcd y (x % y)=G by rw [Nat.gcd_comm,←Nat.gcd_rec,Nat.gcd_comm];exact HG.out)
     have hml:=Nat.mod_lt x (show 0<y by omega)
     go_wp2_with fail
     go_quiet (fail)
     go_wp2
     exact ⟨⟨y,x % y,rfl,rfl,HS.out,hyl,by omega,⟨hbr.os,hbr.tape,hbr.output,hbr.size,hbr.block⟩⟩,by show (((x % y:Nat):Int)).natAbs<((y:Int)).natAbs;omega⟩
  ·go_wp2_with fail
   go_loopw [9,10] (fun xv yv wr=>∃ x y:Nat,xv=.int .i64 (x:Int)∧yv=.int .i64 (y:Int)∧Nat.gcd x y=G∧x≤4000000000000000000∧y≤4000000000000000000∧Below w.heap.size w wr) (fun _ yv _=>(intOf yv).natAbs)
   case atStart=>exact ⟨n.natAbs,d.natAbs,congrArg (Value.int .i64) (by omega),congrArg (Value.int .i64) (by omega),by rw [HGG.out];exact (Int.gcd_eq_natAbs_gcd_natAbs n d).symm,by omega,by omega,hb12⟩
   case round =>
    obtain ⟨x,y,rfl,rfl,hg,hxl,hyl,hbr⟩:=hrel
    have HG:=hid hg
    clear hg
    by_cases hy0:y=0
    ·subst hy0
     obtain rfl:G=x:=by have:=HG.out;simpa using this.symm
     go_wp2_with fail
     go_quiet (fail)
     have hb0:Below w.heap.size w (wr.drewN nq):=⟨hbr.os,hbr.tape,hbr.output,hbr.size,hbr.block⟩
     by_cases h1:d/(G:Int)=1
     ·have h1':(d/(G:Int) == 1)=true:=by simpa using h1
      have HE:=hid (show ix (n/(G:Int))=r from HT1.out h1)
      clear h1
      go_wp2_with fail
      try rw [HV3.out]
      refine (HIN.out _ (hw.below hb0)).mono ?_
      rintro e w1 ⟨rfl,hb1⟩
      go_wp2
      go_ret
      exact ⟨ret_str HE.out,hb0.trans (hb1.mono hb0.size)⟩
     ·have h1':(d/(G:Int) == 1)=false:=by simpa using h1
      have HE:=hid (show ix (n/(G:Int)) ++ ⟨#[47]⟩++ix (d/(G:Int))=r from HT2.out h1)
      clear h1
      have s1:=HIN2.out
      have s2:=HID2.out
      unfold Iz at s1 s2
      go_wp2_with fail
      try rw [HV3.out]
      refine (HIN.out _ (hw.below hb0)).mono ?_
      rintro e w1 ⟨rfl,hb1⟩
      have hb01:=hb0.trans (hb1.mono hb0.size)
      generalize ix (n/(G:Int))=t1 at *
      go_wp2_with fail
      try rw [HV4.out]
      refine (HID.out _ (hw.below hb01)).mono ?_
      rintro e w2 ⟨rfl,hb2⟩
      generalize ix (d/(G:Int))=t2 at *
      go_wp2
      go_ret
      exact ⟨ret_str HE.out,hb01.trans (hb2.mono hb01.size)⟩
    ·have hz:((y:Int) != 0)=true:=by simpa using hy0
     have hz2:((y:Int) == 0)=false:=by simpa using hy0
     have hmod:(x:Int).tmod (y:Int)=((x % y:Nat):Int):=rfl
     have HS:=hid (show Nat.gcd y (x % y)=G by rw [Nat.gcd_comm,←Nat.gcd_rec,Nat.gcd_comm];exact HG.out)
     have hml:=Nat.mod_lt x (show 0<y by omega)
     go_wp2_with fail
     go_quiet (fail)
     go_wp2
     exact ⟨⟨y,x % y,rfl,rfl,HS.out,hyl,by omega,⟨hbr.os,hbr.tape,hbr.output,hbr.size,hbr.block⟩⟩,by show (((x % y:Nat):Int)).natAbs<((y:Int)).natAbs;omega⟩
 ·by_cases hn0:m<0
  ·go_wp2_with fail
   go_loopw [9,10] (fun xv yv wr=>∃ x y:Nat,xv=.int .i64 (x:Int)∧yv=.int .i64 (y:Int)∧Nat.gcd x y=G∧x≤4000000000000000000∧y≤4000000000000000000∧Below w.heap.size w wr) (fun _ yv _=>(intOf yv).natAbs)
   case atStart=>exact ⟨m.natAbs,e.natAbs,congrArg (Value.int .i64) (by omega),congrArg (Value.int .i64) (by omega),by rw [HGG.out];exact (Int.gcd_eq_natAbs_gcd_natAbs m e).symm,by omega,by omega,hb12⟩
   case round =>
    obtain ⟨x,y,rfl,rfl,hg,hxl,hyl,hbr⟩:=hrel
    have HG:=hid hg
    clear hg
    by_cases hy0:y=0
    ·subst hy0
     obtain rfl:G=x:=by have:=HG.out;simpa using this.symm
     go_wp2_with fail
     go_quiet (fail)
     have hb0:Below w.heap.size w (wr.drewN nq):=⟨hbr.os,hbr.tape,hbr.output,hbr.size,hbr.block⟩
     by_cases h1:e/(G:Int)=1
     ·have h1':(e/(G:Int) == 1)=true:=by simpa using h1
      have HE:=hid (show ix (m/(G:Int))=r from HT1.out h1)
      clear h1
      go_wp2_with fail
      try rw [HV3.out]
      refine (HIN.out _ (hw.below hb0)).mono ?_
      rintro e w1 ⟨rfl,hb1⟩
      go_wp2
      go_ret
      exact ⟨ret_str HE.out,hb0.trans (hb1.mono hb0.size)⟩
     ·have h1':(e/(G:Int) == 1)=false:=by simpa using h1
      have HE:=hid (show ix (m/(G:Int)) ++ ⟨#[47]⟩++ix (e/(G:Int))=r from HT2.out h1)
      clear h1
      have s1:=HIN2.out
      have s2:=HID2.out
      unfold Iz at s1 s2
      go_wp2_with fail
      try rw [HV3.out]
      refine (HIN.out _ (hw.below hb0)).mono ?_
      rintro e w1 ⟨rfl,hb1⟩
      have hb01:=hb0.trans (hb1.mono hb0.size)
      generalize ix (m/(G:Int))=t1 at *
      go_wp2_with fail
      try rw [HV4.out]
      refine (HID.out _ (hw.below hb01)).mono ?_
      rintro e w2 ⟨rfl,hb2⟩
      generalize ix (e/(G:Int))=t2 at *
      go_wp2
      go_ret
      exact ⟨ret_str HE.out,hb01.trans (hb2.mono hb01.size)⟩
    ·have hz:((y:Int) != 0)=true:=by simpa using hy0
     have hz2:((y:Int) == 0)=false:=by simpa using hy0
     have hmod:(x:Int).tmod (y:Int)=((x % y:Nat):Int):=rfl
     have HS:=hid (show Nat.gcd y (x % y)=G by rw [Nat.gcd_comm,←Nat.gcd_rec,Nat.gcd_comm];exact HG.out)
     have hml:=Nat.mod_lt x (show 0<y by omega)
     go_wp2_with fail
     go_quiet (fail)
     go_wp2
     exact ⟨⟨y,x % y,rfl,rfl,HS.out,hyl,by omega,⟨hbr.os,hbr.tape,hbr.output,hbr.size,hbr.block⟩⟩,by show (((x % y:Nat):Int)).natAbs<((y:Int)).natAbs;omega⟩
  ·go_wp2_with fail
   go_loopw [9,10] (fun xv yv wr=>∃ x y:Nat,xv=.int .i64 (x:Int)∧yv=.int .i64 (y:Int)∧Nat.gcd x y=G∧x≤4000000000000000000∧y≤4000000000000000000∧Below w.heap.size w wr) (fun _ yv _=>(intOf yv).natAbs)
   case atStart=>exact ⟨m.natAbs,e.natAbs,congrArg (Value.int .i64) (by omega),congrArg (Value.int .i64) (by omega),by rw [HGG.out];exact (Int.gcd_eq_natAbs_gcd_natAbs m e).symm,by omega,by omega,hb12⟩
   case round =>
    obtain ⟨x,y,rfl,rfl,hg,hxl,hyl,hbr⟩:=hrel
    have HG:=hid hg
    clear hg
    by_cases hy0:y=0
    ·subst hy0
     obtain rfl:G=x:=by have:=HG.out;simpa using this.symm
     go_wp2_with fail
     go_quiet (fail)
     have hb0:Below w.heap.size w (wr.drewN nq):=⟨hbr.os,hbr.tape,hbr.output,hbr.size,hbr.block⟩
     by_cases h1:e/(G:Int)=1
     ·have h1':(e/(G:Int) == 1)=true:=by simpa using h1
      have HE:=hid (show ix (m/(G:Int))=r from HT1.out h1)
      clear h1
      go_wp2_with fail
      try rw [HV3.out]
      refine (HIN.out _ (hw.below hb0)).mono ?_
      rintro e w1 ⟨rfl,hb1⟩
      go_wp2
      go_ret
      exact ⟨ret_str HE.out,hb0.trans (hb1.mono hb0.size)⟩
     ·have h1':(e/(G:Int) == 1)=false:=by simpa using h1
      have HE:=hid (show ix (m/(G:Int)) ++ ⟨#[47]⟩++ix (e/(G:Int))=r from HT2.out h1)
      clear h1
      have s1:=HIN2.out
      have s2:=HID2.out
      unfold Iz at s1 s2
      go_wp2_with fail
      try rw [HV3.out]
      refine (HIN.out _ (hw.below hb0)).mono ?_
      rintro e w1 ⟨rfl,hb1⟩
      have hb01:=hb0.trans (hb1.mono hb0.size)
      generalize ix (m/(G:Int))=t1 at *
      go_wp2_with fail
      try rw [HV4.out]
      refine (HID.out _ (hw.below hb01)).mono ?_
      rintro e w2 ⟨rfl,hb2⟩
      generalize ix (e/(G:Int))=t2 at *
      go_wp2
      go_ret
      exact ⟨ret_str HE.out,hb01.trans (hb2.mono hb01.size)⟩
    ·have hz:((y:Int) != 0)=true:=by simpa using hy0
     have hz2:((y:Int) == 0)=false:=by simpa using hy0
     have hmod:(x:Int).tmod (y:Int)=((x % y:Nat):Int):=rfl
     have HS:=hid (show Nat.gcd y (x % y)=G by rw [Nat.gcd_comm,←Nat.gcd_rec,Nat.gcd_comm];exact HG.out)
     have hml:=Nat.mod_lt x (show 0<y by omega)
     go_wp2_with fail
     go_quiet (fail)
     go_wp2
     exact ⟨⟨y,x % y,rfl,rfl,HS.out,hyl,by omega,⟨hbr.os,hbr.tape,hbr.output,hbr.size,hbr.block⟩⟩,by show (((x % y:Nat):Int)).natAbs<((y:Int)).natAbs;omega⟩
end Go.Proofs.YtgohnjdgoglcfaaGreatDoor
