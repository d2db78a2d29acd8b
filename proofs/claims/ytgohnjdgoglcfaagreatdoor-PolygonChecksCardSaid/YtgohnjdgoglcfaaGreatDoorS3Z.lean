import Derived.Test.YtgohnjdgoglcfaaGreatDoorS1Z
set_option maxRecDepth 100000
set_option maxHeartbeats 2000000
namespace Go.Proofs.YtgohnjdgoglcfaaGreatDoor
open Go.RowKit Go.Shelf
open Go.Lib (decDigits itoa nDigits)
open Go.Lib (hid)
theorem lt9 {n:Int} (h:(ix n).size≤9):n.natAbs<1000000000:=Iz.lt (k:=9) h
theorem r_small (m e:Int) (h0:e≠0) (hm:(ix m).size≤9) (he:(ix e).size≤9) (w:World) (hw:Good w) :
  Calls Tryz.prog 129 #[.string (ix m),.string (ix e)] w (RV (.string (tx (Rat.divInt m e))) w):=by
 have h1:=lt9 hm
 have h2:=lt9 he
 by_cases hn:e<0
 ·rw [←divInt_negneg m e]
  exact r_small_pos m (-m) (-e) e (by omega) (by omega) (by omega) (.inl ⟨hn,by omega,by omega⟩) w hw
 ·exact r_small_pos m m e e (by omega) h1 (by omega) (.inr ⟨hn,rfl,rfl⟩) w hw
theorem r_fraction_long (m n d e:Int) (hd:0<d) (hnz:Iz 30000000 n) (hdz:Iz 30000000 d) (hmz:Iz 30000000 m) (hez:Iz 30000000 e) (hl:¬ ((ix m).size≤9∧(ix e).size≤9)) (hs:(e<0∧n = -m∧d = -e)∨(¬ e<0∧n=m∧d=e)) (w:World) (hw:Good w) :
  Calls Tryz.prog 93 #[.string (ix m),.string (ix e)] w (RV (.string (tx (Rat.divInt n d))) w):=by
 have HSG:=hid (fun w'=>i_sign e w')
 have HNM:=hid (fun w'=>i_neg m (hmz.mono (by decide)) w')
 have HNE:=hid (fun w'=>i_neg e (hez.mono (by decide)) w')
 unfold RV at HSG HNM HNE
 have HSE:=hid (@sgn_neg e)
 have HSP:=hid (fun (h:¬ e<0)=>show ¬ sgn e<0 by rcases sgn_cases e with ⟨h1,h2⟩ | ⟨h1,h2⟩ | ⟨h1,h2⟩ <;> omega)
 have hmz2:=hmz
 have hez2:=hez
 unfold Iz at hmz2 hez2
 clear hmz hez
 obtain ⟨r,hr⟩ : ∃ r,r=tx (Rat.divInt n d):=⟨_,rfl⟩
 obtain ⟨G,hG⟩ : ∃ G,G=Int.gcd n d:=⟨_,rfl⟩
 have hlt:=lowest_text (n:=n) hd
 rw [←hG] at hlt
 obtain ⟨-,v2,v3,v4,v5,v6,v7,v8⟩:=small_vals hd hG (x:=(G:Int)) (by simp)
 have HT1:=hid (show d/(G:Int)=1→ix (n/(G:Int))=r from fun h=>str_ext (by rw [hr,tx_data,hlt,h];exact isI_mk _))
 have HT2:=hid (show ¬ d/(G:Int)=1→ix (n/(G:Int)) ++ ⟨#[47]⟩++ix (d/(G:Int))=r from fun h=>str_ext (by rw [hr,tx_data,hlt];exact frac_text (isI_mk _) (isI_mk _) (by omega)))
 have hsg:Iz 30000002 (G:Int):=(hdz.abs (m:=(G:Int)) (by omega)).mono (by decide)
 have s1:Iz 30000002 (n/(G:Int)):=(hnz.abs v7).mono (by decide)
 have s2:Iz 30000002 (d/(G:Int)):=(hdz.abs (m:=d/(G:Int)) (by omega)).mono (by decide)
 have HGC:=hid (fun w' hg=>i_gcd n d (hnz.mono (by decide)) (hdz.mono (by decide)) w' hg)
 have HDN:=hid (fun w' hg=>i_divmod n (G:Int) v2 (hnz.mono (by decide)) (hsg.mono (by decide)) w' hg)
 have HDD:=hid (fun w' hg=>i_divmod d (G:Int) v2 (hdz.mono (by decide)) (hsg.mono (by decide)) w' hg)
 unfold RV at HGC HDN HDD
 rw [←hG] at HGC
 have hone:((ix (d/(G:Int))).toList == [49])=decide (d/(G:Int)=1):=(isI_mk _).one
 unfold Iz at s1 s2 hnz hdz
 rw [←hr]
 clear v3 v4 v5 v6 v7 v8 hlt hr hG
 generalize sgn e=sg at *
 obtain ⟨he0,rfl,rfl⟩ | ⟨he0,rfl,rfl⟩:=hs
 ·have hsg1:=HSE.out he0
  subst hsg1
  clear he0
  by_cases hl1:(ix m).size≤9
  ·have hl2:¬ (ix e).size≤9:=fun h=>hl ⟨hl1,h⟩
   have i1:((ix m).size:Int)≤9:=by omega
   have i2:¬ ((ix e).size:Int)≤9:=by omega
   clear hl
   generalize ix m=tm at *
   generalize ix e=te at *
   go_enter Tryz.func93,Tryz.ntmps93
   go_wp2_with fail
   refine (HSG.out w).mono ?_
   rintro e' w1 ⟨rfl,hb1⟩
   go_wp2_with fail
   refine (HNM.out w1).mono ?_
   rintro e' w2 ⟨rfl,hb2⟩
   have hb12:=hb1.trans (hb2.mono hb1.size)
   go_wp2_with fail
   refine (HNE.out w2).mono ?_
   rintro e' w3 ⟨rfl,hb3⟩
   have hb13:=hb12.trans (hb3.mono hb12.size)
   go_wp2_with fail
   refine (HGC.out _ (hw.below hb13)).mono ?_
   rintro e w4 ⟨rfl,hb4⟩
   have hb14:=hb13.trans (hb4.mono hb13.size)
   generalize ix (G:Int)=tg at *
   go_wp2_with fail
   refine (HDN.out _ (hw.below hb14)).mono ?_
   rintro e w5 ⟨rfl,hb5⟩
   have hb15:=hb14.trans (hb5.mono hb14.size)
   go_wp2_with fail
   refine (HDD.out _ (hw.below hb15)).mono ?_
   rintro e w6 ⟨rfl,hb6⟩
   have hb16:=hb15.trans (hb6.mono hb15.size)
   generalize ix (-m % (G:Int))=z1 at *
   generalize ix (-e % (G:Int))=z2 at *
   generalize ix (-m/(G:Int))=tn at *
   generalize ix (-e/(G:Int))=td at *
   by_cases h1:-e/(G:Int)=1
   ·rw [decide_eq_true h1] at hone
    have HE:=hid (HT1.out h1)
    clear h1
    go_wp2
    go_ret
    exact ⟨ret_str HE.out,hb16⟩
   ·rw [decide_eq_false h1] at hone
    have HE:=hid (HT2.out h1)
    clear h1
    go_wp2
    go_ret
    exact ⟨ret_str HE.out,hb16⟩
  ·have i1:¬ ((ix m).size:Int)≤9:=by omega
   clear hl
   generalize ix m=tm at *
   generalize ix e=te at *
   go_enter Tryz.func93,Tryz.ntmps93
   go_wp2_with fail
   refine (HSG.out w).mono ?_
   rintro e' w1 ⟨rfl,hb1⟩
   go_wp2_with fail
   refine (HNM.out w1).mono ?_
   rintro e' w2 ⟨rfl,hb2⟩
   have hb12:=hb1.trans (hb2.mono hb1.size)
   go_wp2_with fail
   refine (HNE.out w2).mono ?_
   rintro e' w3 ⟨rfl,hb3⟩
   have hb13:=hb12.trans (hb3.mono hb12.size)
   go_wp2_with fail
   refine (HGC.out _ (hw.below hb13)).mono ?_
   rintro e w4 ⟨rfl,hb4⟩
   have hb14:=hb13.trans (hb4.mono hb13.size)
   generalize ix (G:Int)=tg at *
   go_wp2_with fail
   refine (HDN.out _ (hw.below hb14)).mono ?_
   rintro e w5 ⟨rfl,hb5⟩
   have hb15:=hb14.trans (hb5.mono hb14.size)
   go_wp2_with fail
   refine (HDD.out _ (hw.below hb15)).mono ?_
   rintro e w6 ⟨rfl,hb6⟩
   have hb16:=hb15.trans (hb6.mono hb15.size)
   generalize ix (-m % (G:Int))=z1 at *
   generalize ix (-e % (G:Int))=z2 at *
   generalize ix (-m/(G:Int))=tn at *
   generalize ix (-e/(G:Int))=td at *
   by_cases h1:-e/(G:Int)=1
   ·rw [decide_eq_true h1] at hone
    have HE:=hid (HT1.out h1)
    clear h1
    go_wp2
    go_ret
    exact ⟨ret_str HE.out,hb16⟩
   ·rw [decide_eq_false h1] at hone
    have HE:=hid (HT2.out h1)
    clear h1
    go_wp2
    go_ret
    exact ⟨ret_str HE.out,hb16⟩
 ·have hsg1:=HSP.out he0
  clear he0
  by_cases hl1:(ix n).size≤9
  ·have hl2:¬ (ix d).size≤9:=fun h=>hl ⟨hl1,h⟩
   have i1:((ix n).size:Int)≤9:=by omega
   have i2:¬ ((ix d).size:Int)≤9:=by omega
   clear hl
   generalize ix n=tm at *
   generalize ix d=te at *
   go_enter Tryz.func93,Tryz.ntmps93
   go_wp2_with fail
   refine (HSG.out w).mono ?_
   rintro e' w1 ⟨rfl,hb1⟩
   go_wp2_with fail
   refine (HGC.out _ (hw.below hb1)).mono ?_
   rintro e w4 ⟨rfl,hb4⟩
   have hb14:=hb1.trans (hb4.mono hb1.size)
   generalize ix (G:Int)=tg at *
   go_wp2_with fail
   refine (HDN.out _ (hw.below hb14)).mono ?_
   rintro e w5 ⟨rfl,hb5⟩
   have hb15:=hb14.trans (hb5.mono hb14.size)
   go_wp2_with fail
   refine (HDD.out _ (hw.below hb15)).mono ?_
   rintro e w6 ⟨rfl,hb6⟩
   have hb16:=hb15.trans (hb6.mono hb15.size)
   generalize ix (n % (G:Int))=z1 at *
   generalize ix (d % (G:Int))=z2 at *
   generalize ix (n/(G:Int))=tn at *
   generalize ix (d/(G:Int))=td at *
   by_cases h1:d/(G:Int)=1
   ·rw [decide_eq_true h1] at hone
    have HE:=hid (HT1.out h1)
    clear h1
    go_wp2
    go_ret
    exact ⟨ret_str HE.out,hb16⟩
   ·rw [decide_eq_false h1] at hone
    have HE:=hid (HT2.out h1)
    clear h1
    go_wp2
    go_ret
    exact ⟨ret_str HE.out,hb16⟩
  ·have i1:¬ ((ix n).size:Int)≤9:=by omega
   clear hl
   generalize ix n=tm at *
   generalize ix d=te at *
   go_enter Tryz.func93,Tryz.ntmps93
   go_wp2_with fail
   refine (HSG.out w).mono ?_
   rintro e' w1 ⟨rfl,hb1⟩
   go_wp2_with fail
   refine (HGC.out _ (hw.below hb1)).mono ?_
   rintro e w4 ⟨rfl,hb4⟩
   have hb14:=hb1.trans (hb4.mono hb1.size)
   generalize ix (G:Int)=tg at *
   go_wp2_with fail
   refine (HDN.out _ (hw.below hb14)).mono ?_
   rintro e w5 ⟨rfl,hb5⟩
   have hb15:=hb14.trans (hb5.mono hb14.size)
   go_wp2_with fail
   refine (HDD.out _ (hw.below hb15)).mono ?_
   rintro e w6 ⟨rfl,hb6⟩
   have hb16:=hb15.trans (hb6.mono hb15.size)
   generalize ix (n % (G:Int))=z1 at *
   generalize ix (d % (G:Int))=z2 at *
   generalize ix (n/(G:Int))=tn at *
   generalize ix (d/(G:Int))=td at *
   by_cases h1:d/(G:Int)=1
   ·rw [decide_eq_true h1] at hone
    have HE:=hid (HT1.out h1)
    clear h1
    go_wp2
    go_ret
    exact ⟨ret_str HE.out,hb16⟩
   ·rw [decide_eq_false h1] at hone
    have HE:=hid (HT2.out h1)
    clear h1
    go_wp2
    go_ret
    exact ⟨ret_str HE.out,hb16⟩
theorem r_fraction (m e:Int) (h0:e≠0) (hm:Iz 20000000 m) (he:Iz 20000000 e) (w:World) (hw:Good w) :
  Calls Tryz.prog 93 #[.string (ix m),.string (ix e)] w (RV (.string (tx (Rat.divInt m e))) w):=by
 by_cases hl:(ix m).size≤9∧(ix e).size≤9
 ·have HS:=hid (fun w' hg=>r_small m e h0 hl.1 hl.2 w' hg)
  unfold RV at HS
  obtain ⟨l1,l2⟩:=hl
  have i1:((ix m).size:Int)≤9:=by omega
  have i2:((ix e).size:Int)≤9:=by omega
  clear hm he
  generalize tx (Rat.divInt m e)=r at *
  generalize ix m=tm at *
  generalize ix e=te at *
  go_enter Tryz.func93,Tryz.ntmps93
  go_wp2_with fail
  refine (HS.out w hw).mono ?_
  rintro e' w1 ⟨rfl,hb1⟩
  go_wp2
  go_ret
  exact ⟨rfl,hb1⟩
 ·by_cases hn:e<0
  ·rw [←divInt_negneg m e]
   exact r_fraction_long m (-m) (-e) e (by omega) (hm.neg.mono (by decide)) (he.neg.mono (by decide)) (hm.mono (by decide)) (he.mono (by decide)) hl (.inl ⟨hn,rfl,rfl⟩) w hw
  ·exact r_fraction_long m m e e (by omega) (hm.mono (by decide)) (he.mono (by decide)) (hm.mono (by decide)) (he.mono (by decide)) hl (.inr ⟨hn,rfl,rfl⟩) w hw
theorem r_of (m e:Int) (h0:e≠0) (hm:m.natAbs≤4000000000000000000) (he:e.natAbs≤4000000000000000000) (w:World) (hw:Good w) :
  Calls Tryz.prog 83 #[.int .i64 m,.int .i64 e] w (RV (.string (tx (Rat.divInt m e))) w):=by
 have H1:=hid (fun w' hg=>i_of m (by omega) (by omega) w' hg)
 have H2:=hid (fun w' hg=>i_of e (by omega) (by omega) w' hg)
 have H3:=hid (fun w' hg=>r_fraction m e h0 ((iz20 hm).mono (by decide)) ((iz20 he).mono (by decide)) w' hg)
 unfold RV at H1 H2 H3
 generalize tx (Rat.divInt m e)=r at *
 generalize ix m=tm at *
 generalize ix e=te at *
 go_enter Tryz.func83,Tryz.ntmps83
 go_wp2_with fail
 refine (H1.out w hw).mono ?_
 rintro e' w1 ⟨rfl,hb1⟩
 go_wp2_with fail
 refine (H2.out w1 (hw.below hb1)).mono ?_
 rintro e' w2 ⟨rfl,hb2⟩
 have hb12:=hb1.trans (hb2.mono hb1.size)
 go_wp2_with fail
 refine (H3.out w2 (hw.below hb12)).mono ?_
 rintro e' w3 ⟨rfl,hb3⟩
 go_wp2
 go_ret
 exact ⟨rfl,hb12.trans (hb3.mono hb12.size)⟩
theorem short_of_size {q:Rat} (h:(tx q).size≤9):Short q:=
 ⟨Iz.lt (k:=9) (iz_num h),by have:=Iz.lt (k:=9) (iz_den h);omega⟩
theorem r_brief_no (q:Rat) (hq:Sz 4000000000 q) (h:¬ (tx q).size≤9) (w:World):Calls Tryz.prog 90 #[.string (tx q)] w (RV (.tuple #[.int .i64 0,.int .i64 0,.bool false]) w):=by
 have i1:(9:Int)<((tx q).size:Int):=by omega
 have i2:(tx q).size≤4000000000:=hq
 clear hq
 generalize tx q=s at *
 go_enter Tryz.func90,Tryz.ntmps90
 go_wp2
 go_ret3
 exact ⟨rfl,Below.refl _ _⟩
theorem r_brief_yes (q:Rat) (hss:(tx q).size≤9) (w:World):Calls Tryz.prog 90 #[.string (tx q)] w (RV (.tuple #[.int .i64 q.num,.int .i64 (q.den:Int),.bool true]) w):=by
 obtain ⟨s,hs0⟩ : ∃ s,s=tx q:=⟨_,rfl⟩
 have h:IsR s q:=by rw [hs0];exact isR_mk q
 rw [←hs0] at hss ⊢
 clear hs0
 have hp0:=h.pos
 obtain ⟨A,hA⟩ : ∃ A,A=sgnText q.num:=⟨_,rfl⟩
 obtain ⟨D,hD⟩ : ∃ D,D=decDigits q.num.natAbs:=⟨_,rfl⟩
 obtain ⟨E,hE⟩ : ∃ E,E=decDigits q.den:=⟨_,rfl⟩
 obtain ⟨T,hT⟩ : ∃ T,T=denText q.den:=⟨_,rfl⟩
 have hs:s.data.toList=A++(D++T):=by
  have h1:s.data.toList=rtext q:=h
  rw [h1,rtext_split,hA,hD,hT]
 have HS:=hid hs
 have HDG:=hid (show ∀ c∈D,isDig c=true from fun c hc=>decDigits_dig _ c (by rw [hD] at hc;exact hc))
 have HEG:=hid (show ∀ c∈E,isDig c=true from fun c hc=>decDigits_dig _ c (by rw [hE] at hc;exact hc))
 have HNV:=hid (show q.num.natAbs=natOf D by rw [hD,natOf_decDigits])
 have HEV:=hid (show q.den=natOf E by rw [hE,natOf_decDigits])
 have hszA:s.size≤A.length+D.length+T.length:=Nat.le_of_eq (size_mid hs)
 have hszB:A.length+D.length+T.length≤s.size:=Nat.le_of_eq (size_mid hs).symm
 have hDl:0<D.length:=by rw [hD];exact List.length_pos_iff.2 (decDigits_ne_nil _)
 have HD:=hid hD
 have HE:=hid hE
 have HT:=hid hT
 have hp0':decide (0<s.size)=true:=by simpa using hp0
 clear hs hD hE hT
 have hq0:q<0↔q.num<0:=num_neg_iff
 by_cases hneg:q.num<0
 ·have hneg':q<0:=hq0.2 hneg
  have HNS:=hid (show q.num = -(q.num.natAbs:Int) by omega)
  clear hq0
  have hb0:A.length=1:=by rw [hA];unfold sgnText;rw [if_pos hneg];rfl
  have hfb:((s[0].toNat:Int) == 45)=true:=by rw [h.first hp0];simpa using hneg'
  clear hA
  go_enter Tryz.func90,Tryz.ntmps90
  go_wp2_with fail
  go_loopw [2,5] (fun nv iv wr=>∃ j:Nat,1≤j∧(j-1)≤D.length∧nv=.int .i64 ((natOf (D.take (j-1)):Nat):Int)∧iv=.int .i64 (j:Int)∧Below w.heap.size w wr) (fun _ iv _=>s.size-(intOf iv).toNat)
  case atStart=>exact ⟨1,Nat.le_refl _,by simp,by simp [natOf],rfl,Below.refl _ _⟩
  case round =>
   obtain ⟨j,hj1,hjD,rfl,rfl,hbr⟩:=hrel
   have hj9:(j-1)≤9:=by omega
   have hnl:=natOf_take_lt HDG.out (j-1) hj9
   by_cases hlt:(j-1)<D.length
   ·have hjs:j<s.size:=by omega
    obtain ⟨hc1,hc2,hc3⟩:=digits_at HS.out HDG.out (j-1) j hlt (by omega) hjs
    have hn47:((s[j].toNat:Int) != 47)=true:=by simp;omega
    have hn47':((s[j].toNat:Int) == 47)=false:=by simp;omega
    have HC3:=hid (show ((natOf (D.take (j+1-1)):Nat):Int)=10*((natOf (D.take (j-1)):Nat):Int)+((s[j].toNat:Int)-48) by rw [show j+1-1=(j-1)+1 by omega];exact hc3)
    clear hc3
    go_wp2
    refine ⟨⟨j+1,by omega,by omega,congrArg (Value.int .i64) (by rw [HC3.out]),congrArg (Value.int .i64) (by omega),hbr⟩,?_⟩
    show s.size-((j:Int)+1).toNat<s.size-((j:Int)).toNat
    omega
   ·have hje:(j-1)=D.length:=by omega
    have hts:D.take (j-1)=D:=by rw [hje];exact List.take_length
    rw [hts]
    rw [hts] at hnl
    have hdv:=HNV.out
    have HRN:=hid (show -((natOf D:Nat):Int)=q.num by have:=HNS.out;rw [←hdv];omega)
    by_cases hden:q.den=1
    ·have hsz2:s.size=j:=by rw [size_mid HS.out,HT.out];unfold denText;rw [if_pos hden];simp;omega
     have hlt2:decide (j<s.size)=false:=by simp;omega
     have hlt3:¬ j<s.size:=by omega
     have HDEN:=hid hden
     clear hts hje hden hsz2 hdv
     go_wp2
     go_ret3
     exact ⟨by rw [←HRN.out,HDEN.out];rfl,hbr⟩
    ·have hTe:T=47 :: E:=by rw [HT.out];unfold denText;rw [if_neg hden,HE.out]
     have hsz2:s.size=j+1+E.length:=by rw [size_mid HS.out,hTe];simp;omega
     have hjs:j<s.size:=by omega
     have hsl:s[j]=47:=by
      have h1:=at_mid (A:=A++D) (D:=T) (T:=[]) (s:=s) (by rw [HS.out];simp) (k:=0) (by rw [hTe];simp) (by simp;omega)
      have hidx:(A++D).length+0=j:=by simp;omega
      simp only [hidx] at h1
      rw [h1]
      simp [hTe]
     have hn47:((s[j].toNat:Int) != 47)=false:=by rw [hsl];rfl
     have hn47':((s[j].toNat:Int) == 47)=true:=by rw [hsl];rfl
     have HS2:Hid (s.data.toList=(A++D ++ [47])++(E ++ [])):=hid (by rw [HS.out,hTe];simp)
     have hl2:(A++D ++ [47]).length=j+1:=by simp;omega
     have HDEN:=hid hden
     clear hts hje hden hTe hsl hdv
     go_wp2
     go_loopw [3,5] (fun dv iv wz=>∃ i:Nat,j+1≤i∧i-(j+1)≤E.length∧dv=.int .i64 ((natOf (E.take (i-(j+1))):Nat):Int)∧iv=.int .i64 (i:Int)∧Below w.heap.size w wz) (fun _ iv _=>s.size-(intOf iv).toNat)
     case atStart=>exact ⟨j+1,Nat.le_refl _,by simp,by simp [natOf],congrArg (Value.int .i64) (by omega),hbr⟩
     case round =>
      obtain ⟨i,hi1,hiE,rfl,rfl,hbz⟩:=hrel
      have hi9:i-(j+1)≤9:=by omega
      have hel:=natOf_take_lt HEG.out (i-(j+1)) hi9
      by_cases hlt2:i-(j+1)<E.length
      ·have his:i<s.size:=by omega
       obtain ⟨hc1,hc2,hc3⟩:=digits_at HS2.out HEG.out (i-(j+1)) i hlt2 (by omega) his
       have HC3:=hid (show ((natOf (E.take (i+1-(j+1))):Nat):Int)=10*((natOf (E.take (i-(j+1))):Nat):Int)+((s[i].toNat:Int)-48) by rw [show i+1-(j+1)=i-(j+1)+1 by omega];exact hc3)
       clear hc3
       go_wp2
       refine ⟨⟨i+1,by omega,by omega,congrArg (Value.int .i64) (by rw [HC3.out]),congrArg (Value.int .i64) (by omega),hbz⟩,?_⟩
       show s.size-((i:Int)+1).toNat<s.size-((i:Int)).toNat
       omega
      ·have hie:i-(j+1)=E.length:=by omega
       have hts:E.take (i-(j+1))=E:=by rw [hie];exact List.take_length
       rw [hts]
       rw [hts] at hel
       have hlt3:decide (i<s.size)=false:=by simp;omega
       have hlt4:¬ i<s.size:=by omega
       have hev:=HEV.out
       have HRD:=hid (show ((natOf E:Nat):Int)=(q.den:Int) by rw [hev])
       clear hts hie hev
       go_wp2
       go_ret3
       exact ⟨by rw [←HRN.out,←HRD.out];rfl,hbz⟩
 ·have hneg':¬ q<0:=fun hh=>hneg (hq0.1 hh)
  have HNS:=hid (show q.num=(q.num.natAbs:Int) by omega)
  clear hq0
  have hb0:A.length=0:=by rw [hA];unfold sgnText;rw [if_neg hneg];rfl
  have hfb:((s[0].toNat:Int) == 45)=false:=by rw [h.first hp0];simpa using hneg'
  clear hA
  go_enter Tryz.func90,Tryz.ntmps90
  go_wp2_with fail
  go_loopw [2,5] (fun nv iv wr=>∃ j:Nat,j≤D.length∧nv=.int .i64 ((natOf (D.take j):Nat):Int)∧iv=.int .i64 (j:Int)∧Below w.heap.size w wr) (fun _ iv _=>s.size-(intOf iv).toNat)
  case atStart=>exact ⟨0,by simp,by simp [natOf],rfl,Below.refl _ _⟩
  case round =>
   obtain ⟨j,hjD,rfl,rfl,hbr⟩:=hrel
   have hj9:j≤9:=by omega
   have hnl:=natOf_take_lt HDG.out j hj9
   by_cases hlt:j<D.length
   ·have hjs:j<s.size:=by omega
    obtain ⟨hc1,hc2,hc3⟩:=digits_at HS.out HDG.out j j hlt (by omega) hjs
    have hn47:((s[j].toNat:Int) != 47)=true:=by simp;omega
    have hn47':((s[j].toNat:Int) == 47)=false:=by simp;omega
    have HC3:=hid (show ((natOf (D.take (j+1)):Nat):Int)=10*((natOf (D.take j):Nat):Int)+((s[j].toNat:Int)-48) by rw [show j+1=j+1 by omega];exact hc3)
    clear hc3
    go_wp2
    refine ⟨⟨j+1,by omega,congrArg (Value.int .i64) (by rw [HC3.out]),congrArg (Value.int .i64) (by omega),hbr⟩,?_⟩
    show s.size-((j:Int)+1).toNat<s.size-((j:Int)).toNat
    omega
   ·have hje:j=D.length:=by omega
    have hts:D.take j=D:=by rw [hje];exact List.take_length
    rw [hts]
    rw [hts] at hnl
    have hdv:=HNV.out
    have HRN:=hid (show ((natOf D:Nat):Int)=q.num by have:=HNS.out;rw [←hdv];omega)
    by_cases hden:q.den=1
    ·have hsz2:s.size=j:=by rw [size_mid HS.out,HT.out];unfold denText;rw [if_pos hden];simp;omega
     have hlt2:decide (j<s.size)=false:=by simp;omega
     have hlt3:¬ j<s.size:=by omega
     have HDEN:=hid hden
     clear hts hje hden hsz2 hdv
     go_wp2
     go_ret3
     exact ⟨by rw [←HRN.out,HDEN.out];rfl,hbr⟩
    ·have hTe:T=47 :: E:=by rw [HT.out];unfold denText;rw [if_neg hden,HE.out]
     have hsz2:s.size=j+1+E.length:=by rw [size_mid HS.out,hTe];simp;omega
     have hjs:j<s.size:=by omega
     have hsl:s[j]=47:=by
      have h1:=at_mid (A:=A++D) (D:=T) (T:=[]) (s:=s) (by rw [HS.out];simp) (k:=0) (by rw [hTe];simp) (by simp;omega)
      have hidx:(A++D).length+0=j:=by simp;omega
      simp only [hidx] at h1
      rw [h1]
      simp [hTe]
     have hn47:((s[j].toNat:Int) != 47)=false:=by rw [hsl];rfl
     have hn47':((s[j].toNat:Int) == 47)=true:=by rw [hsl];rfl
     have HS2:Hid (s.data.toList=(A++D ++ [47])++(E ++ [])):=hid (by rw [HS.out,hTe];simp)
     have hl2:(A++D ++ [47]).length=j+1:=by simp;omega
     have HDEN:=hid hden
     clear hts hje hden hTe hsl hdv
     go_wp2
     go_loopw [3,5] (fun dv iv wz=>∃ i:Nat,j+1≤i∧i-(j+1)≤E.length∧dv=.int .i64 ((natOf (E.take (i-(j+1))):Nat):Int)∧iv=.int .i64 (i:Int)∧Below w.heap.size w wz) (fun _ iv _=>s.size-(intOf iv).toNat)
     case atStart=>exact ⟨j+1,Nat.le_refl _,by simp,by simp [natOf],congrArg (Value.int .i64) (by omega),hbr⟩
     case round =>
      obtain ⟨i,hi1,hiE,rfl,rfl,hbz⟩:=hrel
      have hi9:i-(j+1)≤9:=by omega
      have hel:=natOf_take_lt HEG.out (i-(j+1)) hi9
      by_cases hlt2:i-(j+1)<E.length
      ·have his:i<s.size:=by omega
       obtain ⟨hc1,hc2,hc3⟩:=digits_at HS2.out HEG.out (i-(j+1)) i hlt2 (by omega) his
       have HC3:=hid (show ((natOf (E.take (i+1-(j+1))):Nat):Int)=10*((natOf (E.take (i-(j+1))):Nat):Int)+((s[i].toNat:Int)-48) by rw [show i+1-(j+1)=i-(j+1)+1 by omega];exact hc3)
       clear hc3
       go_wp2
       refine ⟨⟨i+1,by omega,by omega,congrArg (Value.int .i64) (by rw [HC3.out]),congrArg (Value.int .i64) (by omega),hbz⟩,?_⟩
       show s.size-((i:Int)+1).toNat<s.size-((i:Int)).toNat
       omega
      ·have hie:i-(j+1)=E.length:=by omega
       have hts:E.take (i-(j+1))=E:=by rw [hie];exact List.take_length
       rw [hts]
       rw [hts] at hel
       have hlt3:decide (i<s.size)=false:=by simp;omega
       have hlt4:¬ i<s.size:=by omega
       have hev:=HEV.out
       have HRD:=hid (show ((natOf E:Nat):Int)=(q.den:Int) by rw [hev])
       clear hts hie hev
       go_wp2
       go_ret3
       exact ⟨by rw [←HRN.out,←HRD.out];rfl,hbz⟩
theorem r_add (p q:Rat) (hp:Sz 1000000 p) (hq:Sz 1000000 q) (w:World) (hw:Good w) :
  Calls Tryz.prog 39 #[.string (tx p),.string (tx q)] w (RV (.string (tx (p+q))) w):=by
 have HPA:=hid (fun w'=>r_parts p (hp.mono (by decide)) w')
 have HPB:=hid (fun w'=>r_parts q (hq.mono (by decide)) w')
 have n1:Iz 1000000 p.num:=iz_num hp
 have d1:Iz 1000000 (p.den:Int):=iz_den hp
 have n2:Iz 1000000 q.num:=iz_num hq
 have d2:Iz 1000000 (q.den:Int):=iz_den hq
 have M1:=hid (fun w' hg=>i_mul p.num (q.den:Int) (n1.mono (by decide)) (d2.mono (by decide)) w' hg)
 have M2:=hid (fun w' hg=>i_mul q.num (p.den:Int) (n2.mono (by decide)) (d1.mono (by decide)) w' hg)
 have A1:=hid (fun w' hg=>i_add (p.num*(q.den:Int)) (q.num*(p.den:Int)) ((n1.mul d2).mono (by decide)) ((n2.mul d1).mono (by decide)) w' hg)
 have M3:=hid (fun w' hg=>i_mul (p.den:Int) (q.den:Int) (d1.mono (by decide)) (d2.mono (by decide)) w' hg)
 have F1:=hid (fun w' hg=>r_fraction (p.num*(q.den:Int)+q.num*(p.den:Int)) ((p.den:Int)*(q.den:Int)) (dens_ne p q) (((n1.mul d2).add (n2.mul d1)).mono (by decide)) ((d1.mul d2).mono (by decide)) w' hg)
 unfold RV at HPA HPB M1 M2 A1 M3 F1
 have HBAY:=hid (fun (h:(tx p).size≤9) w'=>r_brief_yes p h w')
 have HBAN:=hid (fun (h:¬ (tx p).size≤9) w'=>r_brief_no p (hp.mono (by decide)) h w')
 have HBBY:=hid (fun (h:(tx q).size≤9) w'=>r_brief_yes q h w')
 have HBBN:=hid (fun (h:¬ (tx q).size≤9) w'=>r_brief_no q (hq.mono (by decide)) h w')
 unfold RV at HBAY HBAN HBBY HBBN
 have hsp:=@short_of_size p
 have hsq:=@short_of_size q
 have HLW:=hid (fun (h1:Short p) (h2:Short q) w' hg=>(by obtain ⟨r1,r2⟩:=h1.mul2 h2;obtain ⟨r3,r4⟩:=h2.mul2 h1;obtain ⟨r5,r6⟩:=h1.dens h2;obtain ⟨r7,r8⟩:=h1.nums h2;exact r_lowest (p.num*(q.den:Int)+q.num*(p.den:Int)) ((p.den:Int)*(q.den:Int)) r5 (by omega) (by omega) w' hg:Calls Tryz.prog 91 #[.int .i64 (p.num*(q.den:Int)+q.num*(p.den:Int)),.int .i64 ((p.den:Int)*(q.den:Int))] w' _))
 unfold RV at HLW
 have HRE:=hid (show tx (Rat.divInt (p.num*(q.den:Int)+q.num*(p.den:Int)) ((p.den:Int)*(q.den:Int)))=tx (p+q) by rw [add_divInt p q])
 clear hp hq n1 n2 d1 d2
 rw [HRE.out] at HLW F1
 clear HRE
 generalize tx (p+q)=r at *
 by_cases hs1:(tx p).size≤9
 ·by_cases hs2:(tx q).size≤9
  ·obtain ⟨r1,r2⟩:=(hsp hs1).mul2 (hsq hs2)
   obtain ⟨r3,r4⟩:=(hsq hs2).mul2 (hsp hs1)
   obtain ⟨r5,r6⟩:=(hsp hs1).dens (hsq hs2)
   obtain ⟨r7,r8⟩:=(hsp hs1).nums (hsq hs2)
   have HL:=hid (HLW.out (hsp hs1) (hsq hs2))
   have HA:=hid (HBAY.out hs1)
   have HB:=hid (HBBY.out hs2)
   clear hs1 hs2 hsp hsq HLW HBAY HBAN HBBY HBBN
   generalize tx p=tp at *
   generalize tx q=tq at *
   have z1:IntKind.i64.wrap (p.num*(q.den:Int))=p.num*(q.den:Int):=IntWalk.i64_in _ (by omega)
   have z2:IntKind.i64.wrap (q.num*(p.den:Int))=q.num*(p.den:Int):=IntWalk.i64_in _ (by omega)
   have z3:IntKind.i64.wrap ((p.den:Int)*(q.den:Int))=(p.den:Int)*(q.den:Int):=IntWalk.i64_in _ (by omega)
   have z4:IntKind.i64.wrap (p.num*(q.den:Int)+q.num*(p.den:Int))=p.num*(q.den:Int)+q.num*(p.den:Int):=IntWalk.i64_in _ (by omega)
   clear r1 r2 r3 r4 r5 r6 r7 r8
   go_enter Tryz.func39,Tryz.ntmps39
   go_wp2_with fail
   refine (HA.out _).mono ?_
   rintro e w1 ⟨rfl,hw1⟩
   have hbw1:=hw1
   go_wp2_with fail
   refine (HB.out _).mono ?_
   rintro e w2 ⟨rfl,hw2⟩
   have hbw2:=hbw1.trans (hw2.mono hbw1.size)
   go_wp2_with fail
   refine (HL.out _ (hw.below hbw2)).mono ?_
   rintro e w3 ⟨rfl,hw3⟩
   have hbw3:=hbw2.trans (hw3.mono hbw2.size)
   go_wp2
   go_ret
   exact ⟨rfl,hbw3⟩
  ·have HA:=hid (HBAY.out hs1)
   have HB:=hid (HBBN.out hs2)
   clear hs1 hs2 hsp hsq HLW HBAY HBAN HBBY HBBN
   generalize tx p=tp at *
   generalize tx q=tq at *
   go_enter Tryz.func39,Tryz.ntmps39
   go_wp2_with fail
   refine (HA.out _).mono ?_
   rintro e w1 ⟨rfl,hw1⟩
   have hbw1:=hw1
   go_wp2_with fail
   refine (HB.out _).mono ?_
   rintro e w2 ⟨rfl,hw2⟩
   have hbw2:=hbw1.trans (hw2.mono hbw1.size)
   go_wp2_with fail
   refine (HPA.out _).mono ?_
   rintro e w3 ⟨rfl,hw3⟩
   have hbw3:=hbw2.trans (hw3.mono hbw2.size)
   go_wp2_with fail
   refine (HPB.out _).mono ?_
   rintro e w4 ⟨rfl,hw4⟩
   have hbw4:=hbw3.trans (hw4.mono hbw3.size)
   go_wp2_with fail
   refine (M1.out _ (hw.below hbw4)).mono ?_
   rintro e w5 ⟨rfl,hw5⟩
   have hbw5:=hbw4.trans (hw5.mono hbw4.size)
   go_wp2_with fail
   refine (M2.out _ (hw.below hbw5)).mono ?_
   rintro e w6 ⟨rfl,hw6⟩
   have hbw6:=hbw5.trans (hw6.mono hbw5.size)
   go_wp2_with fail
   refine (A1.out _ (hw.below hbw6)).mono ?_
   rintro e w7 ⟨rfl,hw7⟩
   have hbw7:=hbw6.trans (hw7.mono hbw6.size)
   go_wp2_with fail
   refine (M3.out _ (hw.below hbw7)).mono ?_
   rintro e w8 ⟨rfl,hw8⟩
   have hbw8:=hbw7.trans (hw8.mono hbw7.size)
   go_wp2_with fail
   refine (F1.out _ (hw.below hbw8)).mono ?_
   rintro e w9 ⟨rfl,hw9⟩
   have hbw9:=hbw8.trans (hw9.mono hbw8.size)
   go_wp2
   go_ret
   exact ⟨rfl,hbw9⟩
 ·have HA:=hid (HBAN.out hs1)
  clear hs1 hsp hsq HLW HBAY HBAN HBBY HBBN
  generalize tx p=tp at *
  generalize tx q=tq at *
  go_enter Tryz.func39,Tryz.ntmps39
  go_wp2_with fail
  refine (HA.out _).mono ?_
  rintro e w1 ⟨rfl,hw1⟩
  have hbw1:=hw1
  go_wp2_with fail
  refine (HPA.out _).mono ?_
  rintro e w2 ⟨rfl,hw2⟩
  have hbw2:=hbw1.trans (hw2.mono hbw1.size)
  go_wp2_with fail
  refine (HPB.out _).mono ?_
  rintro e w3 ⟨rfl,hw3⟩
  have hbw3:=hbw2.trans (hw3.mono hbw2.size)
  go_wp2_with fail
  refine (M1.out _ (hw.below hbw3)).mono ?_
  rintro e w4 ⟨rfl,hw4⟩
  have hbw4:=hbw3.trans (hw4.mono hbw3.size)
  go_wp2_with fail
  refine (M2.out _ (hw.below hbw4)).mono ?_
  rintro e w5 ⟨rfl,hw5⟩
  have hbw5:=hbw4.trans (hw5.mono hbw4.size)
  go_wp2_with fail
  refine (A1.out _ (hw.below hbw5)).mono ?_
  rintro e w6 ⟨rfl,hw6⟩
  have hbw6:=hbw5.trans (hw6.mono hbw5.size)
  go_wp2_with fail
  refine (M3.out _ (hw.below hbw6)).mono ?_
  rintro e w7 ⟨rfl,hw7⟩
  have hbw7:=hbw6.trans (hw7.mono hbw6.size)
  go_wp2_with fail
  refine (F1.out _ (hw.below hbw7)).mono ?_
  rintro e w8 ⟨rfl,hw8⟩
  have hbw8:=hbw7.trans (hw8.mono hbw7.size)
  go_wp2
  go_ret
  exact ⟨rfl,hbw8⟩
theorem r_mul (p q:Rat) (hp:Sz 1000000 p) (hq:Sz 1000000 q) (w:World) (hw:Good w) :
  Calls Tryz.prog 46 #[.string (tx p),.string (tx q)] w (RV (.string (tx (p*q))) w):=by
 have HPA:=hid (fun w'=>r_parts p (hp.mono (by decide)) w')
 have HPB:=hid (fun w'=>r_parts q (hq.mono (by decide)) w')
 have n1:Iz 1000000 p.num:=iz_num hp
 have d1:Iz 1000000 (p.den:Int):=iz_den hp
 have n2:Iz 1000000 q.num:=iz_num hq
 have d2:Iz 1000000 (q.den:Int):=iz_den hq
 have M1:=hid (fun w' hg=>i_mul p.num q.num (n1.mono (by decide)) (n2.mono (by decide)) w' hg)
 have M3:=hid (fun w' hg=>i_mul (p.den:Int) (q.den:Int) (d1.mono (by decide)) (d2.mono (by decide)) w' hg)
 have F1:=hid (fun w' hg=>r_fraction (p.num*q.num) ((p.den:Int)*(q.den:Int)) (dens_ne p q) ((n1.mul n2).mono (by decide)) ((d1.mul d2).mono (by decide)) w' hg)
 unfold RV at HPA HPB M1 M3 F1
 have HBAY:=hid (fun (h:(tx p).size≤9) w'=>r_brief_yes p h w')
 have HBAN:=hid (fun (h:¬ (tx p).size≤9) w'=>r_brief_no p (hp.mono (by decide)) h w')
 have HBBY:=hid (fun (h:(tx q).size≤9) w'=>r_brief_yes q h w')
 have HBBN:=hid (fun (h:¬ (tx q).size≤9) w'=>r_brief_no q (hq.mono (by decide)) h w')
 unfold RV at HBAY HBAN HBBY HBBN
 have hsp:=@short_of_size p
 have hsq:=@short_of_size q
 have HLW:=hid (fun (h1:Short p) (h2:Short q) w' hg=>(by obtain ⟨r1,r2⟩:=h1.mul2 h2;obtain ⟨r3,r4⟩:=h2.mul2 h1;obtain ⟨r5,r6⟩:=h1.dens h2;obtain ⟨r7,r8⟩:=h1.nums h2;exact r_lowest (p.num*q.num) ((p.den:Int)*(q.den:Int)) r5 (by omega) (by omega) w' hg:Calls Tryz.prog 91 #[.int .i64 (p.num*q.num),.int .i64 ((p.den:Int)*(q.den:Int))] w' _))
 unfold RV at HLW
 have HRE:=hid (show tx (Rat.divInt (p.num*q.num) ((p.den:Int)*(q.den:Int)))=tx (p*q) by rw [mul_divInt p q])
 clear hp hq n1 n2 d1 d2
 rw [HRE.out] at HLW F1
 clear HRE
 generalize tx (p*q)=r at *
 by_cases hs1:(tx p).size≤9
 ·by_cases hs2:(tx q).size≤9
  ·obtain ⟨r1,r2⟩:=(hsp hs1).mul2 (hsq hs2)
   obtain ⟨r3,r4⟩:=(hsq hs2).mul2 (hsp hs1)
   obtain ⟨r5,r6⟩:=(hsp hs1).dens (hsq hs2)
   obtain ⟨r7,r8⟩:=(hsp hs1).nums (hsq hs2)
   have HL:=hid (HLW.out (hsp hs1) (hsq hs2))
   have HA:=hid (HBAY.out hs1)
   have HB:=hid (HBBY.out hs2)
   clear hs1 hs2 hsp hsq HLW HBAY HBAN HBBY HBBN
   generalize tx p=tp at *
   generalize tx q=tq at *
   have z1:IntKind.i64.wrap (p.num*q.num)=p.num*q.num:=IntWalk.i64_in _ (by omega)
   have z3:IntKind.i64.wrap ((p.den:Int)*(q.den:Int))=(p.den:Int)*(q.den:Int):=IntWalk.i64_in _ (by omega)
   clear r1 r2 r3 r4 r5 r6 r7 r8
   go_enter Tryz.func46,Tryz.ntmps46
   go_wp2_with fail
   refine (HA.out _).mono ?_
   rintro e w1 ⟨rfl,hw1⟩
   have hbw1:=hw1
   go_wp2_with fail
   refine (HB.out _).mono ?_
   rintro e w2 ⟨rfl,hw2⟩
   have hbw2:=hbw1.trans (hw2.mono hbw1.size)
   go_wp2_with fail
   refine (HL.out _ (hw.below hbw2)).mono ?_
   rintro e w3 ⟨rfl,hw3⟩
   have hbw3:=hbw2.trans (hw3.mono hbw2.size)
   go_wp2
   go_ret
   exact ⟨rfl,hbw3⟩
  ·have HA:=hid (HBAY.out hs1)
   have HB:=hid (HBBN.out hs2)
   clear hs1 hs2 hsp hsq HLW HBAY HBAN HBBY HBBN
   generalize tx p=tp at *
   generalize tx q=tq at *
   go_enter Tryz.func46,Tryz.ntmps46
   go_wp2_with fail
   refine (HA.out _).mono ?_
   rintro e w1 ⟨rfl,hw1⟩
   have hbw1:=hw1
   go_wp2_with fail
   refine (HB.out _).mono ?_
   rintro e w2 ⟨rfl,hw2⟩
   have hbw2:=hbw1.trans (hw2.mono hbw1.size)
   go_wp2_with fail
   refine (HPA.out _).mono ?_
   rintro e w3 ⟨rfl,hw3⟩
   have hbw3:=hbw2.trans (hw3.mono hbw2.size)
   go_wp2_with fail
   refine (HPB.out _).mono ?_
   rintro e w4 ⟨rfl,hw4⟩
   have hbw4:=hbw3.trans (hw4.mono hbw3.size)
   go_wp2_with fail
   refine (M1.out _ (hw.below hbw4)).mono ?_
   rintro e w5 ⟨rfl,hw5⟩
   have hbw5:=hbw4.trans (hw5.mono hbw4.size)
   go_wp2_with fail
   refine (M3.out _ (hw.below hbw5)).mono ?_
   rintro e w6 ⟨rfl,hw6⟩
   have hbw6:=hbw5.trans (hw6.mono hbw5.size)
   go_wp2_with fail
   refine (F1.out _ (hw.below hbw6)).mono ?_
   rintro e w7 ⟨rfl,hw7⟩
   have hbw7:=hbw6.trans (hw7.mono hbw6.size)
   go_wp2
   go_ret
   exact ⟨rfl,hbw7⟩
 ·have HA:=hid (HBAN.out hs1)
  clear hs1 hsp hsq HLW HBAY HBAN HBBY HBBN
  generalize tx p=tp at *
  generalize tx q=tq at *
  go_enter Tryz.func46,Tryz.ntmps46
  go_wp2_with fail
  refine (HA.out _).mono ?_
  rintro e w1 ⟨rfl,hw1⟩
  have hbw1:=hw1
  go_wp2_with fail
  refine (HPA.out _).mono ?_
  rintro e w2 ⟨rfl,hw2⟩
  have hbw2:=hbw1.trans (hw2.mono hbw1.size)
  go_wp2_with fail
  refine (HPB.out _).mono ?_
  rintro e w3 ⟨rfl,hw3⟩
  have hbw3:=hbw2.trans (hw3.mono hbw2.size)
  go_wp2_with fail
  refine (M1.out _ (hw.below hbw3)).mono ?_
  rintro e w4 ⟨rfl,hw4⟩
  have hbw4:=hbw3.trans (hw4.mono hbw3.size)
  go_wp2_with fail
  refine (M3.out _ (hw.below hbw4)).mono ?_
  rintro e w5 ⟨rfl,hw5⟩
  have hbw5:=hbw4.trans (hw5.mono hbw4.size)
  go_wp2_with fail
  refine (F1.out _ (hw.below hbw5)).mono ?_
  rintro e w6 ⟨rfl,hw6⟩
  have hbw6:=hbw5.trans (hw6.mono hbw5.size)
  go_wp2
  go_ret
  exact ⟨rfl,hbw6⟩
theorem r_sign (q:Rat) (w:World):Calls Tryz.prog 74 #[.string (tx q)] w (RV (.int .i64 (sgnR q)) w):=by
 obtain ⟨s,hs⟩ : ∃ s,s=tx q:=⟨_,rfl⟩
 have h:IsR s q:=by rw [hs];exact isR_mk q
 rw [←hs]
 have hz:=h.zero
 have hp:=h.pos
 have hp':decide (0<s.size)=true:=by simpa using hp
 have hf:=h.first hp
 clear h hs
 by_cases h0:q=0
 ·rw [decide_eq_true h0] at hz
  have HF:=hid (show sgnR q=0 from sgn_zero (num_zero_iff.1 h0))
  clear h0 hf
  go_enter Tryz.func74,Tryz.ntmps74
  go_wp2
  go_ret
  exact ⟨ret_int HF.out.symm,Below.refl _ _⟩
 ·rw [decide_eq_false h0] at hz
  by_cases h1:q<0
  ·rw [decide_eq_true h1] at hf
   have HF:=hid (show sgnR q = -1 from sgn_neg (num_neg_iff.1 h1))
   clear h0 h1
   go_enter Tryz.func74,Tryz.ntmps74
   go_wp2
   go_ret
   exact ⟨ret_int HF.out.symm,Below.refl _ _⟩
  ·rw [decide_eq_false h1] at hf
   have HF:=hid (show sgnR q=1 from sgn_pos (by have a:=mt num_neg_iff.2 h1;have b:=mt num_zero_iff.2 h0;omega))
   clear h0 h1
   go_enter Tryz.func74,Tryz.ntmps74
   go_wp2
   go_ret
   exact ⟨ret_int HF.out.symm,Below.refl _ _⟩
theorem r_neg (q:Rat) (hq:Sz 1000000000 q) (w:World):Calls Tryz.prog 38 #[.string (tx q)] w (RV (.string (tx (-q))) w):=by
 have hsz:(tx q).size≤1000000000:=hq
 obtain ⟨s,hs⟩ : ∃ s,s=tx q:=⟨_,rfl⟩
 have h:IsR s q:=by rw [hs];exact isR_mk q
 rw [←hs] at hsz ⊢
 have hz:=h.zero
 have hp:=h.pos
 have hf:=h.first hp
 have H:=hid h
 obtain ⟨r,hr⟩ : ∃ r,r=tx (-q):=⟨_,rfl⟩
 have HR:=hid (show ∀ t:ByteArray,t.data.toList=rtext (-q)→t=r from fun t ht=>str_ext (by rw [ht,hr,tx_data]))
 rw [←hr]
 clear h hs hr hq
 by_cases h0:q=0
 ·rw [decide_eq_true h0] at hz
  have HE:=hid (HR.out s (by rw [h0,Rat.neg_zero];have:=H.out;rw [h0] at this;exact this))
  clear h0 hf
  go_enter Tryz.func38,Tryz.ntmps38
  go_wp2
  go_ret
  exact ⟨ret_str HE.out,Below.refl _ _⟩
 ·rw [decide_eq_false h0] at hz
  by_cases h1:q<0
  ·rw [decide_eq_true h1] at hf
   have hp1:1≤s.size:=hp
   have HE:=hid (show s.extract 1 s.size=r from HR.out _ (by
    have h2:s.data.toList=45 :: rtext (-q):=H.out.trans (rtext_neg_tail h1)
    have h3:s.size=(rtext (-q)).length+1:=by rw [Lib.size_eq,h2];rfl
    rw [Lib.extract_data,h2,h3]
    simp))
   clear h0 h1
   go_enter Tryz.func38,Tryz.ntmps38
   go_wp2
   go_ret
   exact ⟨ret_str HE.out,Below.refl _ _⟩
  ·rw [decide_eq_false h1] at hf
   have HE:=hid (show (⟨#[45]⟩ : ByteArray)++s=r from HR.out _ (by
    have e:((⟨#[45]⟩ : ByteArray)++s).data.toList=45 :: s.data.toList:=by simp
    rw [e,rtext_neg h0 h1]
    exact congrArg _ H.out))
   clear h0 h1
   go_enter Tryz.func38,Tryz.ntmps38
   go_wp2
   go_ret
   exact ⟨ret_str HE.out,Below.refl _ _⟩
theorem r_sub (p q:Rat) (hp:Sz 900000 p) (hq:Sz 900000 q) (w:World) (hw:Good w) :
  Calls Tryz.prog 76 #[.string (tx p),.string (tx q)] w (RV (.string (tx (p-q))) w):=by
 have H1:=hid (fun w'=>r_neg q (hq.mono (by decide)) w')
 have H2:=hid (fun w' hg=>r_add p (-q) (hp.mono (by decide)) (hq.neg.mono (by decide)) w' hg)
 unfold RV at H1 H2
 rw [←Rat.sub_eq_add_neg] at H2
 clear hp hq
 generalize tx (p-q)=r at *
 generalize tx (-q)=nq at *
 generalize tx p=tp at *
 generalize tx q=tq at *
 go_enter Tryz.func76,Tryz.ntmps76
 go_wp2_with fail
 refine (H1.out _).mono ?_
 rintro e w1 ⟨rfl,hw1⟩
 have hbw1:=hw1
 go_wp2_with fail
 refine (H2.out _ (hw.below hbw1)).mono ?_
 rintro e w2 ⟨rfl,hw2⟩
 have hbw2:=hbw1.trans (hw2.mono hbw1.size)
 go_wp2
 go_ret
 exact ⟨rfl,hbw2⟩
theorem r_cmp (p q:Rat) (hp:Sz 900000 p) (hq:Sz 900000 q) (w:World) (hw:Good w) :
  Calls Tryz.prog 26 #[.string (tx p),.string (tx q)] w (RV (.int .i64 (sgnR (p-q))) w):=by
 have H1:=hid (fun w' hg=>r_sub p q hp hq w' hg)
 have H2:=hid (fun w'=>r_sign (p-q) w')
 unfold RV at H1 H2
 clear hp hq
 generalize tx (p-q)=r at *
 generalize tx p=tp at *
 generalize tx q=tq at *
 generalize sgnR (p-q)=sg at *
 go_enter Tryz.func26,Tryz.ntmps26
 go_wp2_with fail
 refine (H1.out _ hw).mono ?_
 rintro e w1 ⟨rfl,hw1⟩
 have hbw1:=hw1
 go_wp2_with fail
 refine (H2.out _).mono ?_
 rintro e w2 ⟨rfl,hw2⟩
 have hbw2:=hbw1.trans (hw2.mono hbw1.size)
 go_wp2
 go_ret
 exact ⟨rfl,hbw2⟩
theorem r_div (p q:Rat) (h0:q≠0) (hp:Sz 900000 p) (hq:Sz 900000 q) (w:World) (hw:Good w) :
  Calls Tryz.prog 75 #[.string (tx p),.string (tx q)] w (RV (.string (tx (p*q⁻¹))) w):=by
 have H1:=hid (fun w'=>r_parts q (hq.mono (by decide)) w')
 have H2:=hid (fun w' hg=>r_fraction (q.den:Int) q.num (mt num_zero_iff.2 h0) ((iz_den hq).mono (by decide)) ((iz_num hq).mono (by decide)) w' hg)
 rw [←Rat.inv_def] at H2
 have hqi:Sz 1000000 q⁻¹:=by
  have h1:=isR_inv_size (s:=tx q) (r:=tx q⁻¹) (isR_mk q) (isR_mk q⁻¹)
  unfold Sz at *
  omega
 have H3:=hid (fun w' hg=>r_mul p q⁻¹ (hp.mono (by decide)) hqi w' hg)
 unfold RV at H1 H2 H3
 clear hp hq hqi
 generalize tx (p*q⁻¹)=r at *
 generalize tx q⁻¹=iq at *
 generalize tx p=tp at *
 generalize tx q=tq at *
 generalize ix q.num=a1 at *
 generalize ix (q.den:Int)=a2 at *
 go_enter Tryz.func75,Tryz.ntmps75
 go_wp2_with fail
 refine (H1.out _).mono ?_
 rintro e w1 ⟨rfl,hw1⟩
 have hbw1:=hw1
 go_wp2_with fail
 refine (H2.out _ (hw.below hbw1)).mono ?_
 rintro e w2 ⟨rfl,hw2⟩
 have hbw2:=hbw1.trans (hw2.mono hbw1.size)
 go_wp2_with fail
 refine (H3.out _ (hw.below hbw2)).mono ?_
 rintro e w3 ⟨rfl,hw3⟩
 have hbw3:=hbw2.trans (hw3.mono hbw2.size)
 go_wp2
 go_ret
 exact ⟨rfl,hbw3⟩
end Go.Proofs.YtgohnjdgoglcfaaGreatDoor
