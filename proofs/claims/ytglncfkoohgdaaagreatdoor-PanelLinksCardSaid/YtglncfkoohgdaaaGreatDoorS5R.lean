import Derived.Test.YtglncfkoohgdaaaGreatDoorTxR
import Derived.Test.YtglncfkoohgdaaaGreatDoorG6R
import Derived.Test.YtglncfkoohgdaaaGreatDoorG44R
import Derived.Laws.StructEq
set_option maxRecDepth 100000
set_option maxHeartbeats 4000000
namespace Go.Proofs.YtglncfkoohgdaaaGreatDoor
open Go.RowKit Go.Shelf
open Go.Lib (decDigits itoa nDigits)
open Go.Lib (hid)
theorem ade (q:Rat):(itoa q.num).length≤(aR q).length:=by rw [AJ];omega
theorem adf (q:Rat):nDigits q.den≤(aR q).length:=by
 rw [AJ]
 split
 ·rename_i h
  have h1:0<(itoa q.num).length:=List.length_pos_iff.2 (jV _)
  rw [h,Go.Lib.nDigits_small (by decide)];omega
 ·omega
theorem abp (q:Rat):(tx q).size=(aR q).length:=(bP q).size
theorem adg {k:Nat} {q:Rat} (h:(tx q).size≤k):Iz k q.num:=by
 have:=ade q
 unfold Iz
 rw [abp] at h
 rw [uR]
 omega
theorem adh {k:Nat} {q:Rat} (h:(tx q).size≤k):Iz k (q.den:Int):=by
 have:=adf q
 unfold Iz
 rw [abp] at h
 rw [uR,eP,aP]
 omega
theorem uE {q:Rat} (h:(tx q).size≤9):bI q:=
 ⟨Iz.lt (k:=9) (adg h),by have:=Iz.lt (k:=9) (adh h);omega⟩
theorem Aa (q:Rat) (hss:(tx q).size≤9) (w:World):Calls Tryz.prog 57 #[.string (tx q)] w (RV (.tuple #[.int .i64 q.num,.int .i64 (q.den:Int),.bool true]) w):=by
 obtain ⟨s,hs0⟩ : ∃ s,s=tx q:=⟨_,rfl⟩
 have h:gm s q:=by rw [hs0];exact bP q
 rw [←hs0] at hss ⊢
 clear hs0
 have hp0:=h.pos
 obtain ⟨A,hA⟩ : ∃ A,A=kU q.num:=⟨_,rfl⟩
 obtain ⟨D,hD⟩ : ∃ D,D=decDigits q.num.natAbs:=⟨_,rfl⟩
 obtain ⟨E,hE⟩ : ∃ E,E=decDigits q.den:=⟨_,rfl⟩
 obtain ⟨T,hT⟩ : ∃ T,T=iI q.den:=⟨_,rfl⟩
 have hs:s.data.toList=A++(D++T):=by
  have h1:s.data.toList=aR q:=h
  rw [h1,zi,hA,hD,hT]
 have HS:=hid hs
 have YN:=hid (show ∀ c∈D,bM c=true from fun c hc=>aV _ c (by rw [hD] at hc;exact hc))
 have YO:=hid (show ∀ c∈E,bM c=true from fun c hc=>aV _ c (by rw [hE] at hc;exact hc))
 have HNV:=hid (show q.num.natAbs=aJ D by rw [hD,aZ])
 have HEV:=hid (show q.den=aJ E by rw [hE,aZ])
 have hszA:s.size≤A.length+D.length+T.length:=Nat.le_of_eq (fU hs)
 have Ea:A.length+D.length+T.length≤s.size:=Nat.le_of_eq (fU hs).symm
 have hDl:0<D.length:=by rw [hD];exact List.length_pos_iff.2 (bZ _)
 have HD:=hid hD
 have HE:=hid hE
 have HT:=hid hT
 have afr:decide (0<s.size)=true:=by simpa using hp0
 clear hs hD hE hT
 have hq0:q<0↔q.num<0:=fI
 by_cases hneg:q.num<0
 ·have hneg':q<0:=hq0.2 hneg
  have SX:=hid (show q.num = -(q.num.natAbs:Int) by omega)
  clear hq0
  have hb0:A.length=1:=by rw [hA];unfold kU;rw [if_pos hneg];rfl
  have hfb:((s[0].toNat:Int) == 45)=true:=by rw [h.first hp0];simpa using hneg'
  clear hA
  go_enter Tryz.func57,Tryz.ntmps57
  go_wp2_with fail
  go_loopw [2,5] (fun nv iv wr=>∃ j:Nat,1≤j∧(j-1)≤D.length∧nv=.int .i64 ((aJ (D.take (j-1)):Nat):Int)∧iv=.int .i64 (j:Int)∧Below w.heap.size w wr) (fun _ iv _=>s.size-(intOf iv).toNat)
  case atStart=>exact ⟨1,Nat.le_refl _,by simp,by simp [aJ],rfl,Below.refl _ _⟩
  case round =>
   obtain ⟨j,hj1,hjD,rfl,rfl,hbr⟩:=hrel
   have hj9:(j-1)≤9:=by omega
   have hnl:=dV YN.out (j-1) hj9
   by_cases hlt:(j-1)<D.length
   ·have hjs:j<s.size:=by omega
    obtain ⟨hc1,hc2,hc3⟩:=jb HS.out YN.out (j-1) j hlt (by omega) hjs
    have hn47:((s[j].toNat:Int) != 47)=true:=by simp;omega
    have BR:((s[j].toNat:Int) == 47)=false:=by simp;omega
    have IJ:=hid (show ((aJ (D.take (j+1-1)):Nat):Int)=10*((aJ (D.take (j-1)):Nat):Int)+((s[j].toNat:Int)-48) by rw [show j+1-1=(j-1)+1 by omega];exact hc3)
    clear hc3
    go_wp2
    refine ⟨⟨j+1,by omega,by omega,congrArg (Value.int .i64) (by rw [IJ.out]),congrArg (Value.int .i64) (by omega),hbr⟩,?_⟩
    show s.size-((j:Int)+1).toNat<s.size-((j:Int)).toNat
    omega
   ·have Mv:(j-1)=D.length:=by omega
    have hts:D.take (j-1)=D:=by rw [Mv];exact List.take_length
    rw [hts]
    rw [hts] at hnl
    have hdv:=HNV.out
    have HRN:=hid (show -((aJ D:Nat):Int)=q.num by have:=SX.out;rw [←hdv];omega)
    by_cases hden:q.den=1
    ·have hsz2:s.size=j:=by rw [fU HS.out,HT.out];unfold iI;rw [if_pos hden];simp;omega
     have hlt2:decide (j<s.size)=false:=by simp;omega
     have hlt3:¬ j<s.size:=by omega
     have yf:=hid hden
     clear hts Mv hden hsz2 hdv
     go_wp2
     go_ret3
     exact ⟨by rw [←HRN.out,yf.out];rfl,hbr⟩
    ·have hTe:T=47 :: E:=by rw [HT.out];unfold iI;rw [if_neg hden,HE.out]
     have hsz2:s.size=j+1+E.length:=by rw [fU HS.out,hTe];simp;omega
     have hjs:j<s.size:=by omega
     have hsl:s[j]=47:=by
      have h1:=Bn (A:=A++D) (D:=T) (T:=[]) (s:=s) (by rw [HS.out];simp) (k:=0) (by rw [hTe];simp) (by simp;omega)
      have hidx:(A++D).length+0=j:=by simp;omega
      simp only [hidx] at h1
      rw [h1]
      simp [hTe]
     have hn47:((s[j].toNat:Int) != 47)=false:=by rw [hsl];rfl
     have BR:((s[j].toNat:Int) == 47)=true:=by rw [hsl];rfl
     have HS2:Hid (s.data.toList=(A++D ++ [47])++(E ++ [])):=hid (by rw [HS.out,hTe];simp)
     have hl2:(A++D ++ [47]).length=j+1:=by simp;omega
     have yf:=hid hden
     clear hts Mv hden hTe hsl hdv
     go_wp2
     go_loopw [3,5] (fun dv iv wz=>∃ i:Nat,j+1≤i∧i-(j+1)≤E.length∧dv=.int .i64 ((aJ (E.take (i-(j+1))):Nat):Int)∧iv=.int .i64 (i:Int)∧Below w.heap.size w wz) (fun _ iv _=>s.size-(intOf iv).toNat)
     case atStart=>exact ⟨j+1,Nat.le_refl _,by simp,by simp [aJ],congrArg (Value.int .i64) (by omega),hbr⟩
     case round =>
      obtain ⟨i,hi1,hiE,rfl,rfl,hbz⟩:=hrel
      have hi9:i-(j+1)≤9:=by omega
      have hel:=dV YO.out (i-(j+1)) hi9
      by_cases hlt2:i-(j+1)<E.length
      ·have his:i<s.size:=by omega
       obtain ⟨hc1,hc2,hc3⟩:=jb HS2.out YO.out (i-(j+1)) i hlt2 (by omega) his
       have IJ:=hid (show ((aJ (E.take (i+1-(j+1))):Nat):Int)=10*((aJ (E.take (i-(j+1))):Nat):Int)+((s[i].toNat:Int)-48) by rw [show i+1-(j+1)=i-(j+1)+1 by omega];exact hc3)
       clear hc3
       go_wp2
       refine ⟨⟨i+1,by omega,by omega,congrArg (Value.int .i64) (by rw [IJ.out]),congrArg (Value.int .i64) (by omega),hbz⟩,?_⟩
       show s.size-((i:Int)+1).toNat<s.size-((i:Int)).toNat
       omega
      ·have hie:i-(j+1)=E.length:=by omega
       have hts:E.take (i-(j+1))=E:=by rw [hie];exact List.take_length
       rw [hts]
       rw [hts] at hel
       have hlt3:decide (i<s.size)=false:=by simp;omega
       have agw:¬ i<s.size:=by omega
       have hev:=HEV.out
       have HRD:=hid (show ((aJ E:Nat):Int)=(q.den:Int) by rw [hev])
       clear hts hie hev
       go_wp2
       go_ret3
       exact ⟨by rw [←HRN.out,←HRD.out];rfl,hbz⟩
 ·have hneg':¬ q<0:=fun hh=>hneg (hq0.1 hh)
  have SX:=hid (show q.num=(q.num.natAbs:Int) by omega)
  clear hq0
  have hb0:A.length=0:=by rw [hA];unfold kU;rw [if_neg hneg];rfl
  have hfb:((s[0].toNat:Int) == 45)=false:=by rw [h.first hp0];simpa using hneg'
  clear hA
  go_enter Tryz.func57,Tryz.ntmps57
  go_wp2_with fail
  go_loopw [2,5] (fun nv iv wr=>∃ j:Nat,j≤D.length∧nv=.int .i64 ((aJ (D.take j):Nat):Int)∧iv=.int .i64 (j:Int)∧Below w.heap.size w wr) (fun _ iv _=>s.size-(intOf iv).toNat)
  case atStart=>exact ⟨0,by simp,by simp [aJ],rfl,Below.refl _ _⟩
  case round =>
   obtain ⟨j,hjD,rfl,rfl,hbr⟩:=hrel
   have hj9:j≤9:=by omega
   have hnl:=dV YN.out j hj9
   by_cases hlt:j<D.length
   ·have hjs:j<s.size:=by omega
    obtain ⟨hc1,hc2,hc3⟩:=jb HS.out YN.out j j hlt (by omega) hjs
    have hn47:((s[j].toNat:Int) != 47)=true:=by simp;omega
    have BR:((s[j].toNat:Int) == 47)=false:=by simp;omega
    have IJ:=hid (show ((aJ (D.take (j+1)):Nat):Int)=10*((aJ (D.take j):Nat):Int)+((s[j].toNat:Int)-48) by rw [show j+1=j+1 by omega];exact hc3)
    clear hc3
    go_wp2
    refine ⟨⟨j+1,by omega,congrArg (Value.int .i64) (by rw [IJ.out]),congrArg (Value.int .i64) (by omega),hbr⟩,?_⟩
    show s.size-((j:Int)+1).toNat<s.size-((j:Int)).toNat
    omega
   ·have Mv:j=D.length:=by omega
    have hts:D.take j=D:=by rw [Mv];exact List.take_length
    rw [hts]
    rw [hts] at hnl
    have hdv:=HNV.out
    have HRN:=hid (show ((aJ D:Nat):Int)=q.num by have:=SX.out;rw [←hdv];omega)
    by_cases hden:q.den=1
    ·have hsz2:s.size=j:=by rw [fU HS.out,HT.out];unfold iI;rw [if_pos hden];simp;omega
     have hlt2:decide (j<s.size)=false:=by simp;omega
     have hlt3:¬ j<s.size:=by omega
     have yf:=hid hden
     clear hts Mv hden hsz2 hdv
     go_wp2
     go_ret3
     exact ⟨by rw [←HRN.out,yf.out];rfl,hbr⟩
    ·have hTe:T=47 :: E:=by rw [HT.out];unfold iI;rw [if_neg hden,HE.out]
     have hsz2:s.size=j+1+E.length:=by rw [fU HS.out,hTe];simp;omega
     have hjs:j<s.size:=by omega
     have hsl:s[j]=47:=by
      have h1:=Bn (A:=A++D) (D:=T) (T:=[]) (s:=s) (by rw [HS.out];simp) (k:=0) (by rw [hTe];simp) (by simp;omega)
      have hidx:(A++D).length+0=j:=by simp;omega
      simp only [hidx] at h1
      rw [h1]
      simp [hTe]
     have hn47:((s[j].toNat:Int) != 47)=false:=by rw [hsl];rfl
     have BR:((s[j].toNat:Int) == 47)=true:=by rw [hsl];rfl
     have HS2:Hid (s.data.toList=(A++D ++ [47])++(E ++ [])):=hid (by rw [HS.out,hTe];simp)
     have hl2:(A++D ++ [47]).length=j+1:=by simp;omega
     have yf:=hid hden
     clear hts Mv hden hTe hsl hdv
     go_wp2
     go_loopw [3,5] (fun dv iv wz=>∃ i:Nat,j+1≤i∧i-(j+1)≤E.length∧dv=.int .i64 ((aJ (E.take (i-(j+1))):Nat):Int)∧iv=.int .i64 (i:Int)∧Below w.heap.size w wz) (fun _ iv _=>s.size-(intOf iv).toNat)
     case atStart=>exact ⟨j+1,Nat.le_refl _,by simp,by simp [aJ],congrArg (Value.int .i64) (by omega),hbr⟩
     case round =>
      obtain ⟨i,hi1,hiE,rfl,rfl,hbz⟩:=hrel
      have hi9:i-(j+1)≤9:=by omega
      have hel:=dV YO.out (i-(j+1)) hi9
      by_cases hlt2:i-(j+1)<E.length
      ·have his:i<s.size:=by omega
       obtain ⟨hc1,hc2,hc3⟩:=jb HS2.out YO.out (i-(j+1)) i hlt2 (by omega) his
       have IJ:=hid (show ((aJ (E.take (i+1-(j+1))):Nat):Int)=10*((aJ (E.take (i-(j+1))):Nat):Int)+((s[i].toNat:Int)-48) by rw [show i+1-(j+1)=i-(j+1)+1 by omega];exact hc3)
       clear hc3
       go_wp2
       refine ⟨⟨i+1,by omega,by omega,congrArg (Value.int .i64) (by rw [IJ.out]),congrArg (Value.int .i64) (by omega),hbz⟩,?_⟩
       show s.size-((i:Int)+1).toNat<s.size-((i:Int)).toNat
       omega
      ·have hie:i-(j+1)=E.length:=by omega
       have hts:E.take (i-(j+1))=E:=by rw [hie];exact List.take_length
       rw [hts]
       rw [hts] at hel
       have hlt3:decide (i<s.size)=false:=by simp;omega
       have agw:¬ i<s.size:=by omega
       have hev:=HEV.out
       have HRD:=hid (show ((aJ E:Nat):Int)=(q.den:Int) by rw [hev])
       clear hts hie hev
       go_wp2
       go_ret3
       exact ⟨by rw [←HRN.out,←HRD.out];rfl,hbz⟩
theorem ae5 (p q:Rat) (hs1:(tx p).size≤9) (hs2:(tx q).size≤9) (w:World) (hw:Good w) :
  Calls Tryz.prog 20 #[.string (tx p),.string (tx q)] w (RV (.string (tx (p+q))) w):=by
 have adi:=hid (fun w'=>Aa p hs1 w')
 have adj:=hid (fun w'=>Aa q hs2 w')
 unfold RV at adi adj
 have hsp:=@uE p
 have Qb:=@uE q
 have HLW:=hid (fun (h1:bI p) (h2:bI q) w' hg=>(by obtain ⟨r1,r2⟩:=h1.JD h2;obtain ⟨r3,r4⟩:=h2.JD h1;obtain ⟨r5,r6⟩:=h1.PW h2;obtain ⟨r7,r8⟩:=h1.nums h2;exact Td (p.num*(q.den:Int)+q.num*(p.den:Int)) ((p.den:Int)*(q.den:Int)) r5 (by omega) (by omega) w' hg:Calls Tryz.prog 58 #[.int .i64 (p.num*(q.den:Int)+q.num*(p.den:Int)),.int .i64 ((p.den:Int)*(q.den:Int))] w' _))
 unfold RV at HLW
 have HRE:=hid (show tx (Rat.divInt (p.num*(q.den:Int)+q.num*(p.den:Int)) ((p.den:Int)*(q.den:Int)))=tx (p+q) by rw [BS p q])
 rw [HRE.out] at HLW
 clear HRE
 generalize tx (p+q)=r at *
 obtain ⟨r1,r2⟩:=(hsp hs1).JD (Qb hs2)
 obtain ⟨r3,r4⟩:=(Qb hs2).JD (hsp hs1)
 obtain ⟨r5,r6⟩:=(hsp hs1).PW (Qb hs2)
 obtain ⟨r7,r8⟩:=(hsp hs1).nums (Qb hs2)
 have HL:=hid (HLW.out (hsp hs1) (Qb hs2))
 have HA:=adi
 have HB:=adj
 clear hs1 hs2 hsp Qb HLW adi adj
 generalize tx p=tp at *
 generalize tx q=tq at *
 have z1:IntKind.i64.wrap (p.num*(q.den:Int))=p.num*(q.den:Int):=IntWalk.i64_in _ (by omega)
 have z2:IntKind.i64.wrap (q.num*(p.den:Int))=q.num*(p.den:Int):=IntWalk.i64_in _ (by omega)
 have z3:IntKind.i64.wrap ((p.den:Int)*(q.den:Int))=(p.den:Int)*(q.den:Int):=IntWalk.i64_in _ (by omega)
 have z4:IntKind.i64.wrap (p.num*(q.den:Int)+q.num*(p.den:Int))=p.num*(q.den:Int)+q.num*(p.den:Int):=IntWalk.i64_in _ (by omega)
 clear r1 r2 r3 r4 r5 r6 r7 r8
 go_enter Tryz.func20,Tryz.ntmps20
 go_wp2_with fail
 refine (HA.out _).mono ?_
 rintro e w1 ⟨rfl,hw1⟩
 have Qx:=hw1
 go_wp2_with fail
 refine (HB.out _).mono ?_
 rintro e w2 ⟨rfl,hw2⟩
 have hbw2:=Qx.trans (hw2.mono Qx.size)
 go_wp2_with fail
 refine (HL.out _ (hw.below hbw2)).mono ?_
 rintro e w3 ⟨rfl,hw3⟩
 have ace:=hbw2.trans (hw3.mono hbw2.size)
 go_wp2
 go_ret
 exact ⟨rfl,ace⟩
theorem ku.two {W:World} {v:Value} {L:List Stp} (h:ku W v L) {b:Nat} {cs:Array Value} {fz:Nat × Nat} (hz:W.heap[b]?=some (.cells cs 54 fz)) (x y:Value):ku ((W.setCell ⟨b,0,none⟩ x).setCell ⟨b,1,none⟩ y) v L:=by
 obtain ⟨p,c,h1,h2,h3,h4⟩:=h
 refine ⟨p,c,h1,h2,h3,fun h0=>?_⟩
 obtain ⟨g,off,k1,⟨ds,fy,kt⟩,k3⟩:=h4 h0
 have hne:g≠b:=fun e=>by
  rw [e,hz] at kt
  simp at kt
 have he:((W.setCell ⟨b,0,none⟩ x).setCell ⟨b,1,none⟩ y).heap[g]?=W.heap[g]?:=by
  rw [Below.heap_setCell _ _ _ _ hne,Below.heap_setCell _ _ _ _ hne]
 refine ⟨g,off,k1,⟨ds,fy,he.trans kt⟩,fun i hi=>?_⟩
 obtain ⟨m1,m2,m3⟩:=k3 i hi
 exact ⟨(World.cell?_of_block he).trans m1,(World.cell?_of_block he).trans m2,(World.cell?_of_block he).trans m3⟩
theorem X8 {w:World} (vg va vt:Value) (P:dB) (k:Nat) (hk:k+1<P.lg.length) (hO:dw P) (hP:ma w vg va vt P) (hw:Good w) :
  Calls Tryz.prog 19 #[j6 vg va vt P.cs,.int .i64 (k:Int)] w fun e w'=>∃ ps cs,e=.returned (.agg #[.slice ps (bD P k).length cs,.string (tx (pR P k))])∧ku w' (.slice ps (bD P k).length cs) (bD P k)∧Below w.heap.size w w':=by
 have Aq:=hO.n20
 obtain ⟨pg,cg,rfl,hcg,mf⟩:=hP.g.slice
 obtain ⟨pa,ca,rfl,IK,oD⟩:=hP.a.slice
 obtain ⟨xm,ct,rfl,hct,oF⟩:=hP.t.slice
 obtain ⟨b,off,vl,rfl,hbl,c0,hvl⟩:=hP.g.at (k:=k) (by omega)
 obtain ⟨b',off',vr,e,_,c1,eT⟩:=hP.g.at (k:=k+1) hk
 cases e
 unfold maxLen at mf
 obtain ⟨pl,cl,rfl,_,_⟩:=hvl.slice
 obtain ⟨pr,cr,rfl,_,_⟩:=eT.slice
 have hbe:=fun W' (hb:Below w.heap.size w W')=>OI _ _ P.cs (ai P k) (ai P (k+1)) (hO.log k (by omega)).1 (hO.log (k+1) hk).1 (by have:=(hO.log k (by omega)).2;omega) (by have:=(hO.log (k+1) hk).2;omega) hO.Zj (hO.link hk).1 ((hO.link hk).2.ok (by decide)) (hvl.below hb) (eT.below hb) (hw.below hb)
 obtain ⟨iL,yT⟩ : ∃ q,q=(bD P k).length:=⟨_,rfl⟩
 obtain ⟨tt,MW⟩ : ∃ q,q=tx (pR P k):=⟨_,rfl⟩
 rw [←yT,←MW]
 have xL:Go.RowKit.Hid (∀ W',Below w.heap.size w W'→Calls _ _ _ W' fun e w'=>∃ ps cs,e=.returned (.tuple #[.agg #[.slice ps iL cs,.string tt],.int .i64 0])∧ku w' (.slice ps iL cs) (bD P k)∧Below W'.heap.size W' w'):=hid (fun W' hb=>(hbe W' hb).mono fun e w' ⟨vs,he,hs,hb2⟩=>by
  obtain ⟨ps,cs,rfl,_,_⟩:=hs.slice
  rw [yT,MW]
  exact ⟨ps,cs,he,hs,hb2⟩)
 clear hbe yT MW
 generalize (P.lg.getD k []).length=nl at *
 generalize (P.lg.getD (k+1) []).length=nr at *
 have i1:(0:Int)≤(k:Int):=by omega
 have i2:(k:Int)<(P.lg.length:Int):=by omega
 have i3:IntKind.i64.wrap ((k:Int)+1)=(k:Int)+1:=IntWalk.i64_in _ (by omega)
 have i4:(0:Int)≤(k:Int)+1:=by omega
 have i5:(k:Int)+1<(P.lg.length:Int):=by omega
 have i6:((k:Int)+1).toNat=k+1:=by omega
 unfold j6
 unfold uo at xL
 clear hP hvl eT hk hO
 generalize tx P.cs.ch=t1 at *
 generalize tx P.cs.mi=t2 at *
 generalize tx P.cs.ga=t3 at *
 generalize tx P.cs.re=t4 at *
 generalize P.lg.length=n at *
 generalize (P.xs.map tx).length=na at *
 generalize (P.tp.map tx).length=nt at *
 go_enter Tryz.func19,Tryz.ntmps19
 go_wp2_with fail
 obtain ⟨wA,aX⟩ : ∃ wA,wA=(w.alloc (Obj.cells #[.slice (some ⟨b,off,none⟩) n cg,.slice pa na ca,.slice xm nt ct,.string t1,.string t2,.string t3,.string t4] 37)).alloc (Obj.cells #[.slice none 0 0,.string ⟨#[]⟩] 54):=⟨_,rfl⟩
 obtain ⟨aS,hsA,kG,DD⟩:=jL aX
 rw [←aX]
 clear aX
 obtain ⟨p0,_,_,p3,p4,p5,p6⟩:=au kG
 have l0:=aa kG
 have lb:=Nat.lt_of_lt_of_le hbl aS.size
 have c0:=(aS.cell (p:=⟨b,off+k,none⟩) hbl).trans c0
 have c1:=(aS.cell (p:=⟨b,off+(k+1),none⟩) hbl).trans c1
 have J9:=hid DD
 clear kG DD hsA
 have mG:=hid (fun W' (hS':Below wA.heap.size wA W')=>And.intro ((hS'.cell (p:=⟨w.heap.size,0,none⟩) l0).trans p0) (And.intro ((hS'.cell (p:=⟨w.heap.size,3,none⟩) l0).trans p3) (And.intro ((hS'.cell (p:=⟨w.heap.size,4,none⟩) l0).trans p4) (And.intro ((hS'.cell (p:=⟨w.heap.size,5,none⟩) l0).trans p5) (And.intro ((hS'.cell (p:=⟨w.heap.size,6,none⟩) l0).trans p6) (And.intro ((hS'.cell (p:=⟨b,off+k,none⟩) lb).trans c0) ((hS'.cell (p:=⟨b,off+(k+1),none⟩) lb).trans c1)))))))
 refine gI (fun W'=>Below wA.heap.size wA W') (.take 0 (.take 1 (.take 2 (.take 3 (.take 4 (.take 5 (.take 6 (.take 7 (.take 8 (.take 9 (.take 10 (.take 11 (.take 12 (.take 13 (.two 14 (.take 15 (.take 16 (.take 17 (.one 18 (.one 19 .fin))))) 18 (.one 14 (.take 15 (.take 16 (.take 17 (.one 19 .fin)))))))))))))))))))) 20 (by kernel_rfl) (by kernel_rfl) ⟨rfl,rfl,rfl,Nat.le_refl _,fun _ _=>rfl⟩ ?_
 have cO:Below wA.heap.size wA wA.drew:=⟨rfl,rfl,rfl,Nat.le_refl _,fun _ _=>rfl⟩
 generalize wA.drew=dP at *
 iterate 14
  refine bJ rfl ?_ rfl ?_ ?_
  rotate_left
  ·intro W' hS'
   obtain ⟨s0,s1,s2,s3,s4,s5,s6⟩:=mG.out _ hS'
   go_simp
   try with_reducible rfl
  try simp only [zA,zB,zC,Act.put,zD,zE,zF]
 refine I6 ?_ ?_
 ·refine aM rfl rfl (fun K hK=>?_)
  go_simp
  refine (xL.out _ (aS.trans (cO.mono aS.size))).mono ?_
  rintro e gy ⟨ps,cs,rfl,hst,bR⟩
  have hP1:=cO.trans (bR.mono cO.size)
  refine hK _ _ ⟨hP1,?_⟩
  clear hK K
  try simp only [zA,zB,zC,Act.put,zD,zE,zF]
  iterate 3
   refine bJ rfl ?_ rfl ?_ ?_
   rotate_left
   ·intro W' hS'
    obtain ⟨s0,s1,s2,s3,s4,s5,s6⟩:=mG.out _ hS'
    go_simp
    try with_reducible rfl
   try simp only [zA,zB,zC,Act.put,zD,zE,zF]
  refine aM rfl rfl (fun K hK=>?_)
  go_simp
  obtain ⟨sI,jo⟩ : ∃ q,q=gy.alloc (Obj.cells #[.slice none 0 0,.string ⟨#[]⟩] 54):=⟨_,rfl⟩
  have PK:sI.heap[gy.heap.size]?=some (.cells #[.slice none 0 0,.string ⟨#[]⟩] 54 (0,0)):=by rw [jo];exact World.alloc_heap_new _ _
  have dL:Below gy.heap.size gy sI:=by rw [jo];exact ae _ _
  have hP2:=hP1.trans (dL.mono hP1.size)
  rw [←jo]
  clear jo
  refine hK _ _ ⟨hP2,?_⟩
  clear hK K
  try simp only [zA,zB,zC,Act.put,zD,zE,zF]
  obtain ⟨_,_,_,_⟩:=aj PK
  refine aM rfl rfl (fun K hK=>?_)
  go_simp
  refine hK _ _ ⟨(hP2.setCell (p:=⟨_,0,none⟩) hP1.size _).setCell (p:=⟨_,1,none⟩) hP1.size _,?_⟩
  clear hK K
  try simp only [zA,zB,zC,Act.put,zD,zE,zF]
  unfold gU
  simp only [List.drop_succ_cons,List.drop_zero]
  have hsn:ku sI (.slice ps iL cs) (bD P k):=by first | exact hst | exact hst.below (by assumption)
  obtain ⟨_,_,_,_⟩:=aj PK
  obtain ⟨wF,hwF⟩ : ∃ q,q=((sI.setCell ⟨gy.heap.size,0,none⟩ (.slice ps iL cs)).setCell ⟨gy.heap.size,1,none⟩ (.string tt)):=⟨_,rfl⟩
  have Zl:Below wA.heap.size wA wF:=by rw [hwF];exact (hP2.setCell (p:=⟨_,0,none⟩) hP1.size _).setCell (p:=⟨_,1,none⟩) hP1.size _
  have hzF:wF.heap[gy.heap.size]?=some (.cells #[.slice ps iL cs,.string tt] 54 (0,0)):=by rw [hwF];exact aW _ (aT _ PK)
  have HSF:=hid (show ku wF (.slice ps iL cs) (bD P k) by rw [hwF];exact hsn.two PK _ _)
  have hrF:=(Zl.block _ (aa J9.out)).trans J9.out
  obtain ⟨_,_,_,_⟩:=aj hrF
  have HZF:=hid (aW (.string tt) (aT (.slice ps iL cs) hrF))
  have HSE:=hid (HSF.out.two hrF (.slice ps iL cs) (.string tt))
  have HBF:=hid (aS.trans (Zl.mono aS.size))
  rw [←hwF]
  clear hwF hsn Zl
  obtain ⟨_,_,_,_⟩:=aj hzF
  go_wp2
  refine ag.mk ?_
  go_wp2
  obtain ⟨z0,z1,_,_⟩:=aj HZF.out
  refine bodyPost_ret (v:=.agg #[.slice ps iL cs,.string tt]) (by simp [results,Tryz.results19,go_sem,z0,z1]) rfl ⟨ps,cs,rfl,HSE.out,?_⟩
  exact (HBF.out.setCell (p:=⟨w.heap.size+1,0,none⟩) (Nat.le_succ _) _).setCell (p:=⟨w.heap.size+1,1,none⟩) (Nat.le_succ _) _
 ·refine aM rfl rfl (fun K hK=>?_)
  go_simp
  obtain ⟨iV,gz⟩ : ∃ q,q=dP.alloc (Obj.cells #[.slice none 0 0,.string ⟨#[]⟩] 54):=⟨_,rfl⟩
  have abq:iV.heap[dP.heap.size]?=some (.cells #[.slice none 0 0,.string ⟨#[]⟩] 54 (0,0)):=by rw [gz];exact World.alloc_heap_new _ _
  have jq:Below dP.heap.size dP iV:=by rw [gz];exact ae _ _
  have lY:=cO.trans (jq.mono cO.size)
  rw [←gz]
  clear gz
  refine hK _ _ ⟨lY,?_⟩
  clear hK K
  try simp only [zA,zB,zC,Act.put,zD,zE,zF]
  refine aM rfl rfl (fun K hK=>?_)
  go_simp
  refine (xL.out _ (aS.trans (lY.mono aS.size))).mono ?_
  rintro e pK ⟨ps,cs,rfl,hst,jr⟩
  have yw:=lY.trans (jr.mono lY.size)
  have AU:=(jr.block _ (lt_of_some abq)).trans abq
  refine hK _ _ ⟨yw,?_⟩
  clear hK K
  try simp only [zA,zB,zC,Act.put,zD,zE,zF]
  iterate 3
   refine bJ rfl ?_ rfl ?_ ?_
   rotate_left
   ·intro W' hS'
    obtain ⟨s0,s1,s2,s3,s4,s5,s6⟩:=mG.out _ hS'
    go_simp
    try with_reducible rfl
   try simp only [zA,zB,zC,Act.put,zD,zE,zF]
  obtain ⟨_,_,_,_⟩:=aj AU
  refine aM rfl rfl (fun K hK=>?_)
  go_simp
  refine hK _ _ ⟨(yw.setCell (p:=⟨_,0,none⟩) cO.size _).setCell (p:=⟨_,1,none⟩) cO.size _,?_⟩
  clear hK K
  try simp only [zA,zB,zC,Act.put,zD,zE,zF]
  unfold gU
  simp only [List.drop_succ_cons,List.drop_zero]
  have hsn:ku pK (.slice ps iL cs) (bD P k):=by first | exact hst | exact hst.below (by assumption)
  obtain ⟨_,_,_,_⟩:=aj AU
  obtain ⟨wF,hwF⟩ : ∃ q,q=((pK.setCell ⟨dP.heap.size,0,none⟩ (.slice ps iL cs)).setCell ⟨dP.heap.size,1,none⟩ (.string tt)):=⟨_,rfl⟩
  have Zl:Below wA.heap.size wA wF:=by rw [hwF];exact (yw.setCell (p:=⟨_,0,none⟩) cO.size _).setCell (p:=⟨_,1,none⟩) cO.size _
  have hzF:wF.heap[dP.heap.size]?=some (.cells #[.slice ps iL cs,.string tt] 54 (0,0)):=by rw [hwF];exact aW _ (aT _ AU)
  have HSF:=hid (show ku wF (.slice ps iL cs) (bD P k) by rw [hwF];exact hsn.two AU _ _)
  have hrF:=(Zl.block _ (aa J9.out)).trans J9.out
  obtain ⟨_,_,_,_⟩:=aj hrF
  have HZF:=hid (aW (.string tt) (aT (.slice ps iL cs) hrF))
  have HSE:=hid (HSF.out.two hrF (.slice ps iL cs) (.string tt))
  have HBF:=hid (aS.trans (Zl.mono aS.size))
  rw [←hwF]
  clear hwF hsn Zl
  obtain ⟨_,_,_,_⟩:=aj hzF
  go_wp2
  refine ag.mk ?_
  go_wp2
  obtain ⟨z0,z1,_,_⟩:=aj HZF.out
  refine bodyPost_ret (v:=.agg #[.slice ps iL cs,.string tt]) (by simp [results,Tryz.results19,go_sem,z0,z1]) rfl ⟨ps,cs,rfl,HSE.out,?_⟩
  exact (HBF.out.setCell (p:=⟨w.heap.size+1,0,none⟩) (Nat.le_succ _) _).setCell (p:=⟨w.heap.size+1,1,none⟩) (Nat.le_succ _) _
theorem aaP:Tryz.prog.underlying 57=some (.struct (Tryz.prog.fieldsOf 57)):=by kernel_rfl
theorem aaQ:Tryz.prog.stoodInHeld 57=false:=by kernel_rfl
theorem aaR:Tryz.prog.eqGuardType Tryz.prog.depth 57=false:=by kernel_rfl
theorem aaS (x y z:Int) (w:World):(binOp .neq 57 (.agg #[.int .i64 x,.int .i64 y,.int .i64 z]) (.agg #[.int .i64 x,.int .i64 y,.int .i64 z])).run Tryz.prog w=.ok (.bool false) w:=by
 rw [run_neq_struct,run_equalIn_struct _ 9999 _ _ _ aaP aaQ]
 have hf:(Tryz.prog.fieldsOf 57).toList=[(Tryz.prog.fieldsOf 57)[0]!,(Tryz.prog.fieldsOf 57)[1]!,(Tryz.prog.fieldsOf 57)[2]!]:=by kernel_rfl
 have t0:((Tryz.prog.fieldsOf 57)[0]!).type=3:=by kernel_rfl
 have t1:((Tryz.prog.fieldsOf 57)[1]!).type=3:=by kernel_rfl
 have t2:((Tryz.prog.fieldsOf 57)[2]!).type=3:=by kernel_rfl
 have o0:((Tryz.prog.fieldsOf 57)[0]!).offset=0:=by kernel_rfl
 have o1:((Tryz.prog.fieldsOf 57)[1]!).offset=1:=by kernel_rfl
 have o2:((Tryz.prog.fieldsOf 57)[2]!).offset=2:=by kernel_rfl
 have n0 : ((Tryz.prog.fieldsOf 57)[0]!).name ≠ "_" := of_decide_eq_true (by kernel_rfl)
 have n1 : ((Tryz.prog.fieldsOf 57)[1]!).name ≠ "_" := of_decide_eq_true (by kernel_rfl)
 have n2 : ((Tryz.prog.fieldsOf 57)[2]!).name ≠ "_" := of_decide_eq_true (by kernel_rfl)
 have hp:∀ (t:TypeId) (cs:Array Value) (i:Nat) (v:Value),(isAgg t).run Tryz.prog w=.ok false w→cs[i]?=some v→(part t cs i).run Tryz.prog w=.ok v w:=by
  intro t cs i v ha h
  unfold part
  simp only [Sem.run_bind,ha,Result.andThen_ok,Bool.false_eq_true,if_false,h,Sem.run_pure]
 have a9:(isAgg 3).run Tryz.prog w=.ok false w:=Tryz.isAgg3 _
 rw [hf]
 simp only [Op.eqFields,if_pos n0,if_pos n1,if_pos n2,t0,t1,t2,o0,o1,o2,Sem.run_bind]
 rw [hp _ _ 0 (.int .i64 x) a9 rfl]
 simp only [Result.andThen_ok]
 rw [hp _ _ 0 (.int .i64 x) a9 rfl]
 simp only [Result.andThen_ok]
 rw [run_equalIn_int w 9998 _ .i64 .i64 _ _ Tryz.underlying3]
 simp only [Result.andThen_ok,BEq.rfl,Bool.not_true,Bool.false_eq_true,if_false,Sem.run_bind]
 rw [hp _ _ 1 (.int .i64 y) a9 rfl]
 simp only [Result.andThen_ok]
 rw [hp _ _ 1 (.int .i64 y) a9 rfl]
 simp only [Result.andThen_ok]
 rw [run_equalIn_int w 9998 _ .i64 .i64 _ _ Tryz.underlying3]
 simp only [Result.andThen_ok,BEq.rfl,Bool.not_true,Bool.false_eq_true,if_false,Sem.run_bind]
 rw [hp _ _ 2 (.int .i64 z) a9 rfl]
 simp only [Result.andThen_ok]
 rw [hp _ _ 2 (.int .i64 z) a9 rfl]
 simp only [Result.andThen_ok]
 rw [run_equalIn_int w 9998 _ .i64 .i64 _ _ Tryz.underlying3]
 simp
theorem X9 (op:BinOp) (a b:Operand) (xs ys:Array Value) (w:World):(eqGuard op 57 a b (.agg xs) (.agg ys)).run Tryz.prog w=.ok () w:=run_eqGuard_agg w op _ a b xs ys aaR
theorem Lc {n:Nat} {q:Rat} (h:Q4 n q) (hn:n<1000000):(tx q).size≤9:=by
 have h1:=h.fr
 have h2:nDigits q.num.natAbs≤6:=dX (by have:=h1.1;omega) (by decide)
 have h3:nDigits q.den≤1:=dX (by have:=h1.2;omega) (by decide)
 rw [(bP q).size,oV,dE]
 split <;> split <;> omega
theorem Ld (D:bV):(aY D).lg.length=nP D:=by unfold aY Dx;simp
theorem Le {D:bV} (h4:∀ i,i<4→(D.lg i).length≤4) {k:Nat} (hk:k<(aY D).lg.length):(ai (aY D) k).length≤4:=by
 rw [Ld] at hk
 rw [show ai (aY D) k=mJ (D.lg k) from mq _ _ hk,gP]
 exact h4 k (by unfold nP at hk;omega)
theorem Lf {D:bV} (h4:∀ i,i<4→(D.lg i).length≤4) {k:Nat} (hk:k+1<(aY D).lg.length):Q4 65536 (pR (aY D) k):=by
 have h:=Ir h4
 have h1:=Le h4 (show k<(aY D).lg.length by omega)
 have h2:=Le h4 hk
 have hh:=Gi (C:=(aY D).cs) (L:=ai (aY D) k) (R:=ai (aY D) (k+1)) (B:=8192) (fun kk i j hkk hcq=>GY h.cs (fun i hi=>h.iv k i (by omega) hi) (fun i hi=>h.iv (k+1) i hk hi) hkk hcq) ((ai (aY D) k).length+(ai (aY D) (k+1)).length) 0 0 (Nat.zero_le _) (Nat.zero_le _) (by omega)
 exact hh.mono (by omega)
theorem Lg {D:bV} (h4:∀ i,i<4→(D.lg i).length≤4):∀ k,k+1≤(aY D).lg.length→Q4 (65536*k) (jM (aY D) k)
 | 0,_=>Q4.zero
 | k+1,hk=>by
  rw [sK]
  exact ((Lg h4 k (by omega)).add (Lf h4 (k:=k) hk)).mono (by omega)
end Go.Proofs.YtglncfkoohgdaaaGreatDoor
