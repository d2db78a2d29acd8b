import Derived.Test.YtglncfkoohgdaaaGreatDoorTxR
import Derived.Test.YtglncfkoohgdaaaGreatDoorMathR
import Derived.BigQuiet
import Derived.Lib.ConvBytes
import Derived.Test.YtglncfkoohgdaaaGreatDoorStillR
set_option maxRecDepth 100000
set_option maxHeartbeats 4000000
namespace Go.Proofs.YtglncfkoohgdaaaGreatDoor
open Go.RowKit Go.Shelf
open Go.Lib (decDigits itoa nDigits)
open Go.Lib (hid)
abbrev us (u:List UInt8):ByteArray:=⟨u.toArray⟩
def RO (x:Iv):Value:=.agg #[.string (us x.u),.string (tx x.a),.string (tx x.b)]
def gm (w:World) (v:Value) (L:List Iv):Prop:=∃ p c,v=.slice p L.length c∧L.length≤c∧c≤maxLen∧(0<L.length→∃ b off,p=some ⟨b,off,none⟩∧b<w.heap.size ∧
 ∀ i,i<L.length→w.cell? ⟨b,off+i*3,none⟩=some (.string (us (ah L i).u))∧w.cell? ⟨b,off+i*3+1,none⟩=some (.string (tx (ah L i).a))∧w.cell? ⟨b,off+i*3+2,none⟩=some (.string (tx (ah L i).b)))
theorem gm.below {w w':World} {v:Value} {L:List Iv} (h:gm w v L) (hb:Below w.heap.size w w'):gm w' v L:=by
 obtain ⟨p,c,h1,h2,h3,h4⟩:=h
 refine ⟨p,c,h1,h2,h3,fun h0=>?_⟩
 obtain ⟨b,off,k1,k2,k3⟩:=h4 h0
 refine ⟨b,off,k1,Nat.lt_of_lt_of_le k2 hb.size,fun i hi=>?_⟩
 obtain ⟨m1,m2,m3⟩:=k3 i hi
 exact ⟨(hb.cell (p:=⟨b,off+i*3,none⟩) k2).trans m1,(hb.cell (p:=⟨b,off+i*3+1,none⟩) k2).trans m2,(hb.cell (p:=⟨b,off+i*3+2,none⟩) k2).trans m3⟩
theorem gm.slice {w:World} {v:Value} {L:List Iv} (h:gm w v L):∃ p c,v=.slice p L.length c∧L.length≤c∧c≤maxLen:=by
 obtain ⟨p,c,h1,h2,h3,_⟩:=h
 exact ⟨p,c,h1,h2,h3⟩
theorem gm.at {w:World} {p:Option Addr} {n c:Nat} {L:List Iv} (h:gm w (.slice p n c) L) {i:Nat} (hi:i<L.length):∃ b off,p=some ⟨b,off,none⟩∧b<w.heap.size ∧
  w.cell? ⟨b,off+i*3,none⟩=some (.string (us (ah L i).u))∧w.cell? ⟨b,off+i*3+1,none⟩=some (.string (tx (ah L i).a))∧w.cell? ⟨b,off+i*3+2,none⟩=some (.string (tx (ah L i).b)):=by
 obtain ⟨p',c',h1,h2,h3,h4⟩:=h
 cases h1
 obtain ⟨b,off,k1,k2,k3⟩:=h4 (by omega)
 exact ⟨b,off,k1,k2,k3 i hi⟩
theorem az {W:World} {B:Nat} {t:TypeId} {a b c:Value} (h:W.heap[B]?=some (.cells #[a,b,c] t (0,0))) :
  W.cell? ⟨B,0,none⟩=some a∧W.cell? ⟨B,1,none⟩=some b∧W.cell? ⟨B,2,none⟩=some c:=by
 refine ⟨by simp [World.cell?,h],by simp [World.cell?,h],by simp [World.cell?,h]⟩
theorem aY {w wA:World} {a b c:Value} {t:TypeId} (aS:wA=w.alloc (Obj.cells #[a,b,c] t)) :
  Below w.heap.size w wA∧w.heap.size<wA.heap.size∧wA.cell? ⟨w.heap.size,0,none⟩=some a∧wA.cell? ⟨w.heap.size,1,none⟩=some b∧wA.cell? ⟨w.heap.size,2,none⟩=some c:=by
 rw [aS]
 have h:=World.alloc_heap_new w (Obj.cells #[a,b,c] t)
 exact ⟨ae _ _,aa h,az h⟩
def rF (u:List UInt8):Prop:=u=[]∨∃ c:UInt8,u=[c]∧97≤c.toNat∧c.toNat≤122
structure Cx (L:List Iv):Prop where
 len:L.length≤200
 unit:∀ i,i<L.length→rF (ah L i).u
 ok:∀ i,i<L.length→oz (ah L i).a∧oz (ah L i).b
 pos:∀ i,i<L.length→0≤(ah L i).a∧(ah L i).a<(ah L i).b
 I6:∀ i,i+1<L.length→(ah L i).b≤(ah L (i+1)).a
theorem MO (c:UInt8) (h1:97≤c.toNat) (h2:c.toNat≤122) (w:World):Calls Tryz.prog 97 #[.string ⟨#[c]⟩] w (RV (.bool true) w):=by
 have e1:((⟨#[c]⟩ : ByteArray).toList == [])=false:=by
  rw [Lib.toList_data];rfl
 have e2:(⟨#[c]⟩ : ByteArray).size=1:=rfl
 have d1:decide ((97:Int)≤(c.toNat:Int))=true:=decide_eq_true (by omega)
 have d2:decide ((c.toNat:Int)≤122)=true:=decide_eq_true (by omega)
 have hcv:=Lib.run_convert_string_bytes (P:=Tryz.prog) w 9 216 5 ⟨#[c]⟩ (u:=.string) Tryz.underlying9 Tryz.underlying216 Tryz.underlying5
 have hcell:=Lib.bytesWorld_cell w 5 ⟨#[c]⟩ 0 (by show 0<1;decide)
 have il:Below w.heap.size w (Lib.bytesWorld w 5 ⟨#[c]⟩):=⟨rfl,rfl,rfl,by rw [Lib.bytesWorld_size];omega,fun k hk=>Lib.bytesWorld_at_old w _ _ k hk⟩
 have hlB:w.heap.size<(Lib.bytesWorld w 5 ⟨#[c]⟩).heap.size:=by rw [Lib.bytesWorld_size];omega
 have ec:((⟨#[c]⟩ : ByteArray).data.toList.getD 0 0).toNat=c.toNat:=rfl
 rw [ec] at hcell
 generalize Lib.bytesWorld w 5 ⟨#[c]⟩=wB at *
 generalize grownCap w (⟨#[c]⟩ : ByteArray).size 0 5=cap at *
 rw [e2] at hcv
 unfold RV
 clear ec e2
 obtain ⟨n,hn⟩ : ∃ n:Int,n=(c.toNat:Int):=⟨_,rfl⟩
 rw [←hn] at hcell d1 d2
 clear hn h1 h2
 go_enter Tryz.func97,Tryz.ntmps97
 have e2:(⟨#[c]⟩ : ByteArray).size=1:=rfl
 go_wp2_with fail
 go_loopw [2,17] (fun _ iv wr=>(iv=.int .i64 0∨iv=.int .i64 1)∧Below wB.heap.size wB wr) (fun _ iv _=>1-(intOf iv).toNat)
 case atStart=>exact ⟨.inl rfl,Below.refl _ _⟩
 case round =>
  obtain ⟨hi,hbr⟩:=hrel
  rcases hi with rfl | rfl
  ·have d0:=(hbr.cell (p:=⟨w.heap.size,0,none⟩) hlB).trans hcell
   have hlr:=Nat.lt_of_lt_of_le hlB hbr.size
   go_wp2
   all_goals exact ⟨⟨.inr rfl,hbr⟩,by decide⟩
  ·go_wp2
   go_ret
   exact ⟨rfl,il.trans (hbr.mono il.size)⟩
theorem Ug (v:Value) (L:List Iv) (hL:Cx L) (w:World) (hw:Good w) (hv:gm w v L):Calls Tryz.prog 171 #[v] w (RV (.int .i64 0) w):=by
 have Zo:=hid (fun i (hi:i<L.length)=>And.intro (fun w' (hg:Good w')=>gY (ah L i).a (hL.ok i hi).1 w' hg) (fun w' (hg:Good w')=>gY (ah L i).b (hL.ok i hi).2 w' hg))
 have HSG:=hid (fun i (hi:i<L.length) w'=>nK (tx (ah L i).a) (ah L i).a (bU _) (oz.siz (hL.ok i hi).1) w')
 have HCM:=hid (fun i (hi:i<L.length) w' (hg:Good w')=>rq (ah L i).b (ah L i).a ((hL.ok i hi).2.sz.mono (by decide)) ((hL.ok i hi).1.sz.mono (by decide)) w' hg)
 have YQ:=hid (fun i (hi:i+1<L.length) w' (hg:Good w')=>rq (ah L (i+1)).a (ah L i).b ((hL.ok (i+1) hi).1.sz.mono (by decide)) ((hL.ok i (by omega)).2.sz.mono (by decide)) w' hg)
 have HNM:=hid (fun (c:UInt8) (h1:97≤c.toNat) (h2:c.toNat≤122) w'=>MO c h1 h2 w')
 have G5:=hid hL
 have hn:=hL.len
 obtain ⟨p,cc,rfl,hcl,hcm⟩:=hv.slice
 have HV:=hid hv
 have q1:decide ((200:Int)<(L.length:Int))=false:=decide_eq_false (by omega)
 have hb:=Below.refl w.heap.size w
 have HT0:=hid (show (⟨#[48]⟩ : ByteArray)=tx 0 from tx0.symm)
 unfold RV at *
 unfold maxLen at hcm
 clear hL hv
 go_enter Tryz.func171,Tryz.ntmps171
 go_wp2_with fail
 go_loopw [2,3,11] (fun _ sv iv wr=>∃ (k:Nat) (s:ByteArray),k≤L.length∧iv=.int .i64 (k:Int)∧sv=.string s∧(∀ j,k=j+1→s=tx (ah L j).b)∧Below w.heap.size w wr) (fun _ _ iv _=>L.length-(intOf iv).toNat)
 case atStart=>exact ⟨0,_,Nat.zero_le _,rfl,rfl,fun j hj=>absurd hj (by omega),hb⟩
 case round =>
  clear hb
  obtain ⟨k,s,hkl,rfl,rfl,hs,hbr⟩:=hrel
  have HS:=hid hs
  clear hs
  by_cases hk:k<L.length
  ·have hkn:decide ((k:Int)<(L.length:Int))=true:=decide_eq_true (by omega)
   have i1:(0:Int)≤(k:Int):=by omega
   have i2:(k:Int)<(L.length:Int):=by omega
   obtain ⟨B,off,hpe,hbl,c0,c1,c2⟩:=HV.out.at hk
   subst hpe
   have c0:=(hbr.cell (p:=⟨B,off+k*3,none⟩) hbl).trans c0
   have c1:=(hbr.cell (p:=⟨B,off+k*3+1,none⟩) hbl).trans c1
   have c2:=(hbr.cell (p:=⟨B,off+k*3+2,none⟩) hbl).trans c2
   have oD:B<wr.heap.size:=Nat.lt_of_lt_of_le hbl hbr.size
   have HA:=hid (Zo.out k hk).1
   have HB:=hid (Zo.out k hk).2
   have J7:=hid (HSG.out k hk)
   have YR:=hid (HCM.out k hk)
   have hpo:=G5.out.pos k hk
   have d1:decide (nJ (ah L k).a<0)=false:=decide_eq_false (by
    unfold nJ
    have:0≤(ah L k).a.num:=Rat.num_nonneg.2 hpo.1
    rcases dA (ah L k).a.num with ⟨x1,x2⟩ | ⟨x1,x2⟩ | ⟨x1,x2⟩ <;> omega)
   have d2:decide (dx (ah L k).b (ah L k).a≤0)=false:=decide_eq_false (by have:=qM.2 hpo.2;omega)
   have Uh:=G5.out.unit k hk
   have vC:∀ j,k=j+1→Go.RowKit.Hid (∀ w',Good w'→Calls Tryz.prog 69 #[.string (tx (ah L k).a),.string s] w' (RV (.int .i64 (dx (ah L k).a (ah L j).b)) w'))∧decide (dx (ah L k).a (ah L j).b<0)=false:=fun j hj=>by
    subst hj
    rw [HS.out j rfl]
    exact ⟨fun w' hg=>YQ.out j hk w' hg,decide_eq_false (fun h=>by have h1:=jV.1 h;exact absurd h1 (Rat.not_lt.2 (G5.out.I6 j hk)))⟩
   have HX:=hid vC
   obtain ⟨sg,hsg⟩ : ∃ q,q=nJ (ah L k).a:=⟨_,rfl⟩
   obtain ⟨cm,hcm'⟩ : ∃ q,q=dx (ah L k).b (ah L k).a:=⟨_,rfl⟩
   obtain ⟨ta,RH⟩ : ∃ q,q=tx (ah L k).a:=⟨_,rfl⟩
   obtain ⟨tb,htb⟩ : ∃ q,q=tx (ah L k).b:=⟨_,rfl⟩
   rw [←RH] at HA J7 YR HX c1
   rw [←htb] at HB YR c2
   rw [←hsg] at d1 J7
   rw [←hcm'] at d2 YR
   have HTB:=hid htb
   clear RH htb hsg hcm' vC hpo Zo HSG HCM YQ G5
   have fin:∀ wz:World,Below w.heap.size w wz→∃ (k':Nat) (s':ByteArray),k'≤L.length∧Value.int .i64 ((k:Int)+1)=.int .i64 (k':Int)∧Value.string tb=.string s'∧(∀ j,k'=j+1→s'=tx (ah L j).b)∧Below w.heap.size w wz:=fun wz hz =>
    ⟨k+1,tb,hk,aA k,rfl,fun j hj=>by rw [HTB.out,show j=k by omega],hz⟩
   have ZA:=hid fin
   clear fin
   obtain ⟨u,hu⟩ : ∃ q,q=(ah L k).u:=⟨_,rfl⟩
   rw [←hu] at Uh c0
   clear hu
   have hms:L.length-((k:Int)+1).toNat<L.length-((k:Int)).toNat:=by omega
   have MP:=hid hms
   clear hms
   go_upto_region 7 with fail
   obtain ⟨wC,EZ⟩ : ∃ wC,wC=wr.alloc (Obj.cells #[.string (us u),.string ta,.string tb] 89):=⟨_,rfl⟩
   obtain ⟨hbC,hlC,z0,z1,z2⟩:=aY EZ
   rw [←EZ]
   clear EZ c0 c1 c2
   have hb1:=hbr.trans (hbC.mono hbr.size)
   go_cut [16] from 12 to 62 (fun s16 wx=>s16=.bool false∧Below wC.heap.size wC wx)
   case first =>
    rcases Uh with rfl | ⟨c,rfl,h1,h2⟩
    ·have e0:((us []).toList != [])=false:=by decide +kernel
     go_wp2_with fail
     go_meet
     exact ⟨rfl,Below.refl _ _⟩
    ·have e0:((us [c]).toList != [])=true:=by
      rw [Lib.toList_data];rfl
     go_wp2_with fail
     refine (HNM.out c h1 h2 wC).mono ?_
     rintro e w1 ⟨rfl,hw1⟩
     go_wp2_with fail
     go_meet
     exact ⟨rfl,hw1⟩
   case rest =>
   obtain ⟨rfl,hcx⟩:=hcut
   have y0:=(hcx.cell (p:=⟨wr.heap.size,0,none⟩) hlC).trans z0
   have y1:=(hcx.cell (p:=⟨wr.heap.size,1,none⟩) hlC).trans z1
   have y2:=(hcx.cell (p:=⟨wr.heap.size,2,none⟩) hlC).trans z2
   have hl1:=Nat.lt_of_lt_of_le hlC hcx.size
   have hb2:=hb1.trans (hcx.mono hb1.size)
   clear z0 z1 z2 Uh HNM hcx
   go_wp2_with fail
   refine (HA.out wc (hw.below hb2)).mono ?_
   rintro e u1 ⟨rfl,hu1⟩
   have y1:=(hu1.cell (p:=⟨wr.heap.size,1,none⟩) hl1).trans y1
   have y2:=(hu1.cell (p:=⟨wr.heap.size,2,none⟩) hl1).trans y2
   have hl1:=Nat.lt_of_lt_of_le hl1 hu1.size
   have hb3:=hb2.trans (hu1.mono hb2.size)
   go_wp2_with fail
   refine (HB.out u1 (hw.below hb3)).mono ?_
   rintro e u2 ⟨rfl,hu2⟩
   have y1:=(hu2.cell (p:=⟨wr.heap.size,1,none⟩) hl1).trans y1
   have y2:=(hu2.cell (p:=⟨wr.heap.size,2,none⟩) hl1).trans y2
   have hl1:=Nat.lt_of_lt_of_le hl1 hu2.size
   have hb4:=hb3.trans (hu2.mono hb3.size)
   go_wp2_with fail
   refine (J7.out u2).mono ?_
   rintro e u2' ⟨rfl,af1⟩
   subst af1
   go_wp2_with fail
   refine (YR.out u2 (hw.below hb4)).mono ?_
   rintro e u3 ⟨rfl,hu3⟩
   have y1:=(hu3.cell (p:=⟨wr.heap.size,1,none⟩) hl1).trans y1
   have y2:=(hu3.cell (p:=⟨wr.heap.size,2,none⟩) hl1).trans y2
   have hl1:=Nat.lt_of_lt_of_le hl1 hu3.size
   have hb5:=hb4.trans (hu3.mono hb4.size)
   rcases Nat.eq_zero_or_pos k with h0 | h0
   ·have k0:decide (0<(k:Int))=false:=decide_eq_false (by omega)
    have k0':decide (0<k)=false:=decide_eq_false (by omega)
    clear h0
    go_wp2
    exact ⟨ZA.out _ hb5,MP.out⟩
   ·have k0:decide (0<(k:Int))=true:=decide_eq_true (by omega)
    have k0':decide (0<k)=true:=decide_eq_true (by omega)
    obtain ⟨H2,hd⟩:=HX.out (k-1) (by omega)
    obtain ⟨c2v,adY⟩ : ∃ q,q=dx (ah L k).a (ah L (k-1)).b:=⟨_,rfl⟩
    rw [←adY] at H2 hd
    clear adY
    go_wp2_with fail
    refine (H2.out u3 (hw.below hb5)).mono ?_
    rintro e u4 ⟨rfl,hu4⟩
    have y2:=(hu4.cell (p:=⟨wr.heap.size,2,none⟩) hl1).trans y2
    have hl1:=Nat.lt_of_lt_of_le hl1 hu4.size
    have hb6:=hb5.trans (hu4.mono hb5.size)
    go_wp2
    exact ⟨ZA.out _ hb6,MP.out⟩
  ·have hkn:decide ((k:Int)<(L.length:Int))=false:=decide_eq_false (by omega)
   go_wp2
   go_ret
   exact ⟨rfl,hbr⟩
theorem ZB (q:Rat) (w:World):Calls Tryz.prog 260 #[.string (tx q)] w (RV (.string (tx (tT q))) w):=by
 obtain ⟨s,hs⟩ : ∃ s,s=tx q:=⟨_,rfl⟩
 have h:gN s q:=by rw [hs];exact bU q
 rw [←hs]
 have hp:=h.pos
 have hf:=h.first hp
 have H:=hid h
 have hp1:1≤s.size:=hp
 by_cases h1:q<0
 ·rw [decide_eq_true h1] at hf
  have HU:=hid (fun (r:ByteArray) (h:gN r (-q))=>show r=tx (tT q) by unfold tT;rw [if_pos h1];exact h.unique (bU (-q)))
  have H1:=hid h1
  clear h1 h hs
  generalize tx (tT q)=t at *
  go_enter Tryz.func260,Tryz.ntmps260
  go_wp2
  go_ret
  have e:s.extract 1 s.size=t:=HU.out _ (by
   unfold gN
   have h2:s.data.toList=45 :: aX (-q):=H.out.trans (qL H1.out)
   have h3:s.size=(aX (-q)).length+1:=by rw [Lib.size_eq,h2];rfl
   rw [Lib.extract_data,h2,h3]
   simp)
  exact ⟨by rw [←e];rfl,Below.refl _ _⟩
 ·rw [decide_eq_false h1] at hf
  have HU:=hid (show s=tx (tT q) by unfold tT;rw [if_neg h1];exact hs)
  clear h1 h hs
  generalize tx (tT q)=t at *
  go_enter Tryz.func260,Tryz.ntmps260
  go_wp2
  go_ret
  exact ⟨by rw [←HU.out];rfl,Below.refl _ _⟩
theorem rG (x:Iv) (ha:Sz 1000000 x.a) (hb:Sz 1000000 x.b) (w:World) (hw:Good w):Calls Tryz.prog 261 #[RO x] w (RV (.string (tx (aH x))) w):=by
 have HS:=hid (fun w' (hg:Good w')=>jX x.b x.a (hb.sm) (ha.sm) w' hg)
 unfold RO aH
 unfold RV at *
 clear ha hb
 generalize tx (x.b-x.a)=r at *
 generalize tx x.a=ta at *
 generalize tx x.b=tb at *
 generalize us x.u=u at *
 go_enter Tryz.func261,Tryz.ntmps261
 go_upto_region 1 with fail
 obtain ⟨wA,aS⟩ : ∃ wA,wA=w.alloc (Obj.cells #[.string u,.string ta,.string tb] 89):=⟨_,rfl⟩
 obtain ⟨aP,hlA,c0,c1,c2⟩:=aY aS
 rw [←aS]
 clear aS
 go_wp2_with fail
 refine (HS.out wA (hw.below aP)).mono ?_
 rintro e w1 ⟨rfl,hb1⟩
 go_wp2
 go_ret
 exact ⟨rfl,aP.trans (hb1.mono aP.size)⟩
def oF (k i j:Nat):Value:=.agg #[.int .i64 (k:Int),.int .i64 (i:Int),.int .i64 (j:Int)]
theorem xz (k i j:Nat) (hk:k∈kinds) (hi:i≤1000) (hj:j≤1000) (w:World):Calls Tryz.prog 123 #[oF k i j] w (RV (.tuple #[.int .i64 ((gD k i:Nat):Int),.int .i64 ((iD k j:Nat):Int)]) w):=by
 have m1:IntKind.i64.wrap ((i:Int)+1)=(i:Int)+1:=IntWalk.i64_in _ (by omega)
 have m2:IntKind.i64.wrap ((j:Int)+1)=(j:Int)+1:=IntWalk.i64_in _ (by omega)
 unfold oF RV
 unfold kinds at hk
 simp only [List.mem_cons,List.not_mem_nil,or_false] at hk
 obtain ⟨P,hP⟩ : ∃ P,P=gD k i:=⟨_,rfl⟩
 obtain ⟨Q,hQ⟩ : ∃ Q,Q=iD k j:=⟨_,rfl⟩
 rw [←hP,←hQ]
 have mG:=hid (And.intro hP hQ)
 clear hP hQ
 rcases hk with rfl | rfl | rfl | rfl | rfl
 ·have e1:(P:Int)=(i:Int)+1:=by have:=mG.out.1;unfold gD at this;simp at this;omega
  have e2:(Q:Int)=(j:Int)+1:=by have:=mG.out.2;unfold iD at this;simp at this;omega
  rw [e1,e2]
  clear e1 e2
  go_enter Tryz.func123,Tryz.ntmps123
  go_upto_region 1 with fail
  obtain ⟨wA,aS⟩ : ∃ wA,wA=w.alloc (Obj.cells #[.int .i64 1,.int .i64 (i:Int),.int .i64 (j:Int)] 57):=⟨_,rfl⟩
  obtain ⟨aP,hlA,c0,c1,c2⟩:=aY aS
  rw [←aS]
  clear aS
  go_wp2_with fail
  go_quiet (fail)
  go_wp2
  go_ret2
  exact ⟨rfl,⟨aP.os,aP.tape,aP.output,aP.size,aP.block⟩⟩
 ·have e1:(P:Int)=(i:Int)+1:=by have:=mG.out.1;unfold gD at this;simp at this;omega
  have e2:(Q:Int)=(j:Int):=by have:=mG.out.2;unfold iD at this;simp at this;omega
  rw [e1,e2]
  clear e1 e2
  go_enter Tryz.func123,Tryz.ntmps123
  go_upto_region 1 with fail
  obtain ⟨wA,aS⟩ : ∃ wA,wA=w.alloc (Obj.cells #[.int .i64 2,.int .i64 (i:Int),.int .i64 (j:Int)] 57):=⟨_,rfl⟩
  obtain ⟨aP,hlA,c0,c1,c2⟩:=aY aS
  rw [←aS]
  clear aS
  go_wp2_with fail
  go_quiet (fail)
  go_wp2
  go_ret2
  exact ⟨rfl,⟨aP.os,aP.tape,aP.output,aP.size,aP.block⟩⟩
 ·have e1:(P:Int)=(i:Int):=by have:=mG.out.1;unfold gD at this;simp at this;omega
  have e2:(Q:Int)=(j:Int)+1:=by have:=mG.out.2;unfold iD at this;simp at this;omega
  rw [e1,e2]
  clear e1 e2
  go_enter Tryz.func123,Tryz.ntmps123
  go_upto_region 1 with fail
  obtain ⟨wA,aS⟩ : ∃ wA,wA=w.alloc (Obj.cells #[.int .i64 3,.int .i64 (i:Int),.int .i64 (j:Int)] 57):=⟨_,rfl⟩
  obtain ⟨aP,hlA,c0,c1,c2⟩:=aY aS
  rw [←aS]
  clear aS
  go_wp2_with fail
  go_quiet (fail)
  go_wp2
  go_ret2
  exact ⟨rfl,⟨aP.os,aP.tape,aP.output,aP.size,aP.block⟩⟩
 ·have e1:(P:Int)=(i:Int)+1:=by have:=mG.out.1;unfold gD at this;simp at this;omega
  have e2:(Q:Int)=(j:Int):=by have:=mG.out.2;unfold iD at this;simp at this;omega
  rw [e1,e2]
  clear e1 e2
  go_enter Tryz.func123,Tryz.ntmps123
  go_upto_region 1 with fail
  obtain ⟨wA,aS⟩ : ∃ wA,wA=w.alloc (Obj.cells #[.int .i64 4,.int .i64 (i:Int),.int .i64 (j:Int)] 57):=⟨_,rfl⟩
  obtain ⟨aP,hlA,c0,c1,c2⟩:=aY aS
  rw [←aS]
  clear aS
  go_wp2_with fail
  go_quiet (fail)
  go_wp2
  go_ret2
  exact ⟨rfl,⟨aP.os,aP.tape,aP.output,aP.size,aP.block⟩⟩
 ·have e1:(P:Int)=(i:Int):=by have:=mG.out.1;unfold gD at this;simp at this;omega
  have e2:(Q:Int)=(j:Int)+1:=by have:=mG.out.2;unfold iD at this;simp at this;omega
  rw [e1,e2]
  clear e1 e2
  go_enter Tryz.func123,Tryz.ntmps123
  go_upto_region 1 with fail
  obtain ⟨wA,aS⟩ : ∃ wA,wA=w.alloc (Obj.cells #[.int .i64 5,.int .i64 (i:Int),.int .i64 (j:Int)] 57):=⟨_,rfl⟩
  obtain ⟨aP,hlA,c0,c1,c2⟩:=aY aS
  rw [←aS]
  clear aS
  go_wp2_with fail
  go_quiet (fail)
  go_wp2
  go_ret2
  exact ⟨rfl,⟨aP.os,aP.tape,aP.output,aP.size,aP.block⟩⟩
theorem Cy (v:Value) (L:List Iv) (i:Nat) (hi:i<L.length) (_hn:L.length≤1000) (w:World) (hv:gm w v L):Calls Tryz.prog 259 #[v,.int .i64 (i:Int)] w (RV (.bool (qO L i)) w):=by
 have hb:=Below.refl w.heap.size w
 obtain ⟨p,c,rfl,hcl,hcm⟩:=hv.slice
 unfold maxLen at hcm
 unfold RV
 rcases Nat.eq_zero_or_pos i with h0 | h0
 ·subst h0
  rw [show qO L 0=false from rfl]
  go_enter Tryz.func259,Tryz.ntmps259
  go_wp2_with fail
  go_quiet (fail)
  go_wp2
  go_ret
  exact ⟨rfl,⟨hb.os,hb.tape,hb.output,hb.size,hb.block⟩⟩
 ·obtain ⟨j,rfl⟩ : ∃ j,i=j+1:=⟨i-1,by omega⟩
  obtain ⟨B,off,rfl,hbl,c0,_,_⟩:=hv.at (i:=j) (by omega)
  obtain ⟨B',off',e,_,d0,_,_⟩:=hv.at hi
  cases e
  have hs:((us (ah L j).u).toList == (us (ah L (j+1)).u).toList)=qO L (j+1):=by
   unfold qO
   rw [decide_eq_true (show 0<j+1 by omega),Bool.true_and,Nat.add_sub_cancel,Bool.eq_iff_iff,beq_iff_eq,decide_eq_true_eq,Lib.toList_data,Lib.toList_data]
  generalize qO L (j+1)=r at *
  generalize us (ah L j).u=s at *
  generalize us (ah L (j+1)).u=t at *
  have t1:IntKind.i64.wrap ((j:Int)+1-1)=(j:Int):=(IntWalk.i64_in _ (by omega)).trans (by omega)
  have t2:IntKind.i64.wrap (j:Int)=(j:Int):=IntWalk.i64_in _ (by omega)
  have t3:decide (0<(j:Int)+1)=true:=decide_eq_true (by omega)
  have j1:(0:Int)≤(j:Int):=by omega
  have j2:(j:Int)<(L.length:Int):=by omega
  have j3:(0:Int)≤(j:Int)+1:=by omega
  have j4:(j:Int)+1<(L.length:Int):=by omega
  have j5:((j:Int)+1).toNat=j+1:=by omega
  go_enter Tryz.func259,Tryz.ntmps259
  go_wp2_with fail
  go_quiet (fail)
  go_wp2
  go_ret
  exact ⟨rfl,⟨hb.os,hb.tape,hb.output,hb.size,hb.block⟩⟩
def uC (vl vr:Value) (C:Cs):Value:=.agg #[vl,vr,.string (tx C.ch),.string (tx C.mi),.string (tx C.ga),.string (tx C.re)]
def OA (vl vr:Value) (C:Cs):Obj:=.cells #[vl,vr,.string (tx C.ch),.string (tx C.mi),.string (tx C.ga),.string (tx C.re)] 122
structure CsZ (_:Nat) (C:Cs):Prop where
 ch:Fc 8 2 C.ch
 mi:Fc 8 2 C.mi
 ga:Fc 8 2 C.ga
 re:Fc 8 2 C.re
def I7 (_:Nat) (x:Iv):Prop:=Fc 32 2 x.a∧Fc 32 2 x.b
theorem oG {n:Nat} {x:Iv} (h:I7 n x):Fc 64 2 (aH x):=h.2.sub h.1
theorem aW {W:World} {B:Nat} {t:TypeId} {a b c d e f:Value} (h:W.heap[B]?=some (.cells #[a,b,c,d,e,f] t (0,0))) :
  W.cell? ⟨B,0,none⟩=some a∧W.cell? ⟨B,1,none⟩=some b∧W.cell? ⟨B,2,none⟩=some c∧W.cell? ⟨B,3,none⟩=some d∧W.cell? ⟨B,4,none⟩=some e∧W.cell? ⟨B,5,none⟩=some f:=by
 refine ⟨by simp [World.cell?,h],by simp [World.cell?,h],by simp [World.cell?,h],by simp [World.cell?,h],by simp [World.cell?,h],by simp [World.cell?,h]⟩
def aca (w:World) (s5 s6:Value) (a b c d e f:Value) (W:World):Prop:=∃ A D,s5=.pointer (some ⟨A,0,none⟩)∧s6=.pointer (some ⟨D,0,none⟩)∧W.heap[A]?=some (.cells #[a,b,c] 89 (0,0))∧W.heap[D]?=some (.cells #[d,e,f] 89 (0,0))∧Below w.heap.size w W
theorem bP {W:World} {B:Nat} {t:TypeId} {a b c:Value} (h:W.heap[B]?=some (.cells #[a,b,c] t (0,0))) :
  W.frozen? ⟨B,0,none⟩=false∧W.frozen? ⟨B,1,none⟩=false∧W.frozen? ⟨B,2,none⟩=false:=by
 refine ⟨by simp [World.frozen?,h],by simp [World.frozen?,h],by simp [World.frozen?,h]⟩
theorem fG {W:World} {A:Nat} {t:TypeId} {a b c:Value} (x y z:Value) (h:W.heap[A]?=some (.cells #[a,b,c] t (0,0))) :
  (((W.setCell ⟨A,0,none⟩ x).setCell ⟨A,1,none⟩ y).setCell ⟨A,2,none⟩ z).heap[A]?=some (.cells #[x,y,z] t (0,0)):=by
 have:=aJ (i:=2) z (aJ (i:=1) y (aJ (i:=0) x h))
 simpa using this
theorem fH {W:World} {A D:Nat} (x y z:Value) (hne:D≠A):(((W.setCell ⟨A,0,none⟩ x).setCell ⟨A,1,none⟩ y).setCell ⟨A,2,none⟩ z).heap[D]?=W.heap[D]?:=by
 rw [Below.heap_setCell _ _ _ _ hne,Below.heap_setCell _ _ _ _ hne,Below.heap_setCell _ _ _ _ hne]
theorem bW {w W:World} {A:Nat} (x y z:Value) (h1:w.heap.size≤A) (hb:Below w.heap.size w W):Below w.heap.size w (((W.setCell ⟨A,0,none⟩ x).setCell ⟨A,1,none⟩ y).setCell ⟨A,2,none⟩ z):=
 ((hb.setCell (p:=⟨A,0,none⟩) h1 _).setCell (p:=⟨A,1,none⟩) h1 _).setCell (p:=⟨A,2,none⟩) h1 _
theorem Ui {w:World} (vl vr:Value) (C:Cs) (L R:List Iv) (i j:Nat) (hc:i<L.length) (_hn:L.length≤1000) (hC:CsZ 1000 C) (hz:I7 1000 (ah L i)) (hvl:gm w vl L) (eO:gm w vr R) (hw:Good w) :
  Calls Tryz.prog 239 #[uC vl vr C,oF 2 i j] w (RV (.string (tx (C.ga*aH (ah L i)))) w):=by
 have htk:∀ (x:Iv),I7 1000 x→Go.RowKit.Hid (∀ w',Good w'→Calls Tryz.prog 261 #[RO x] w' (RV (.string (tx (aH x))) w')):=fun x hx w' hg=>rG x (hx.1.sm) (hx.2.sm) w' hg
 have HT:=htk _ hz
 have HM:=hid (fun w' (hg:Good w')=>uA C.ga (aH (ah L i)) (hC.ga.sm) ((oG hz).sm) w' hg)
 obtain ⟨B,off,e0,e1,e2,lb,hq⟩ : ∃ B off,w.cell? ⟨B,off+i*3,none⟩=some (.string (us (ah L i).u))∧w.cell? ⟨B,off+i*3+1,none⟩=some (.string (tx (ah L i).a))∧w.cell? ⟨B,off+i*3+2,none⟩=some (.string (tx (ah L i).b))∧B<w.heap.size∧∃ c,vl=.slice (some ⟨B,off,none⟩) L.length c∧L.length≤c∧c≤maxLen:=by
  obtain ⟨p,c,hv,h2,h3⟩:=hvl.slice
  rw [hv] at hvl
  obtain ⟨B,off,e,hb,a0,a1,a2⟩:=hvl.at hc
  subst e
  exact ⟨B,off,a0,a1,a2,hb,c,hv,h2,h3⟩
 obtain ⟨cl,rfl,hcl,hcm⟩:=hq
 obtain ⟨pr,cr,rfl,gZ,hcm2⟩:=eO.slice
 obtain ⟨nr,hnr⟩ : ∃ q,q=R.length:=⟨_,rfl⟩
 rw [←hnr]
 unfold maxLen at hcm
 unfold uC oF
 unfold RO at HT
 unfold RV at *
 clear hvl eO hC hz htk gZ hcm2 hnr
 generalize tx (C.ga*aH (ah L i))=r at *
 generalize tx (aH (ah L i))=tk at *
 generalize tx C.ch=t1 at *
 generalize tx C.mi=t2 at *
 generalize tx C.ga=t3 at *
 generalize tx C.re=t4 at *
 generalize us (ah L i).u=u at *
 generalize tx (ah L i).a=a at *
 generalize tx (ah L i).b=b at *
 have i1:(0:Int)≤(i:Int):=by omega
 have i2:(i:Int)<(L.length:Int):=by omega
 go_enter Tryz.func239,Tryz.ntmps239
 go_upto_region 1 with fail
 obtain ⟨wP,bX⟩ : ∃ wP,wP=w.alloc (Obj.cells #[.slice (some ⟨B,off,none⟩) L.length cl,.slice pr nr cr,.string t1,.string t2,.string t3,.string t4] 122):=⟨_,rfl⟩
 obtain ⟨wA,aS⟩ : ∃ wA,wA=wP.alloc (Obj.cells #[.int .i64 2,.int .i64 (i:Int),.int .i64 (j:Int)] 57):=⟨_,rfl⟩
 have hsP:wP.heap.size=w.heap.size+1:=by rw [bX];simp
 have eT:Below w.heap.size w wP:=by rw [bX];exact ae _ _
 have hpq:wP.heap[w.heap.size]?=some (.cells #[.slice (some ⟨B,off,none⟩) L.length cl,.slice pr nr cr,.string t1,.string t2,.string t3,.string t4] 122 (0,0)):=by rw [bX];exact World.alloc_heap_new _ _
 obtain ⟨fO,ls,g0,g1,g2⟩:=aY aS
 have kI:=(fO.block _ (lt_of_some hpq)).trans hpq
 obtain ⟨q0,q1,q2,q3,q4,q5⟩:=aW kI
 have lq:=lt_of_some kI
 have aP:=eT.trans (fO.mono eT.size)
 rw [bX] at aS
 rw [←aS]
 rw [hsP] at ls g0 g1 g2
 clear aS bX hsP eT hpq fO kI
 have e0:=(aP.cell (p:=⟨B,off+i*3,none⟩) lb).trans e0
 have e1:=(aP.cell (p:=⟨B,off+i*3+1,none⟩) lb).trans e1
 have e2:=(aP.cell (p:=⟨B,off+i*3+2,none⟩) lb).trans e2
 have lb:=Nat.lt_of_lt_of_le lb aP.size
 go_wp2_with fail
 refine gG (fun W'=>Below wA.heap.size wA W') (.take 0 (.take 1 (.take 2 (.take 3 (.take 4 (.take 5 (.take 6 (.take 7 (.take 8 (.one 9 (.one 10 .fin))))))))))) 11 (by kernel_rfl) (by kernel_rfl) ⟨rfl,rfl,rfl,Nat.le_refl _,fun _ _=>rfl⟩ ?_
 have bZ:Below wA.heap.size wA wA.drew:=⟨rfl,rfl,rfl,Nat.le_refl _,fun _ _=>rfl⟩
 generalize wA.drew=dW at *
 iterate 9
  refine bJ rfl ?_ rfl ?_ ?_
  rotate_left
  ·intro W' hS'
   have s0:=(hS'.cell (p:=⟨w.heap.size,0,none⟩) lq).trans q0
   have s1:=(hS'.cell (p:=⟨w.heap.size,1,none⟩) lq).trans q1
   have s2:=(hS'.cell (p:=⟨w.heap.size,2,none⟩) lq).trans q2
   have s3:=(hS'.cell (p:=⟨w.heap.size,3,none⟩) lq).trans q3
   have s4:=(hS'.cell (p:=⟨w.heap.size,4,none⟩) lq).trans q4
   have s5:=(hS'.cell (p:=⟨w.heap.size,5,none⟩) lq).trans q5
   have s6:=(hS'.cell (p:=⟨w.heap.size+1,0,none⟩) ls).trans g0
   have s7:=(hS'.cell (p:=⟨w.heap.size+1,1,none⟩) ls).trans g1
   have s8:=(hS'.cell (p:=⟨w.heap.size+1,2,none⟩) ls).trans g2
   have s9:=(hS'.cell (p:=⟨B,off+i*3,none⟩) lb).trans e0
   have s10:=(hS'.cell (p:=⟨B,off+i*3+1,none⟩) lb).trans e1
   have s11:=(hS'.cell (p:=⟨B,off+i*3+2,none⟩) lb).trans e2
   go_simp
   try with_reducible rfl
  try simp only [zA,zB,zC,Act.put,zD,zE,zF]
 refine aK rfl rfl (fun K hK=>?_)
 go_simp
 refine (HT.out _ (hw.below (aP.trans (bZ.mono aP.size)))).mono ?_
 rintro e gK ⟨rfl,cK⟩
 have hP1:=bZ.trans (cK.mono bZ.size)
 refine hK _ _ ⟨hP1,?_⟩
 clear hK K
 try simp only [zA,zB,zC,Act.put,zD,zE,zF]
 refine aK rfl rfl (fun K hK=>?_)
 go_simp
 refine (HM.out _ (hw.below (aP.trans (hP1.mono aP.size)))).mono ?_
 rintro e sW ⟨rfl,dK⟩
 have hP2:=hP1.trans (dK.mono hP1.size)
 refine hK _ _ ⟨hP2,?_⟩
 clear hK K
 try simp only [zA,zB,zC,Act.put,zD,zE,zF]
 unfold gP
 simp only [List.drop_succ_cons,List.drop_zero]
 have hbu:=aP.trans (hP2.mono aP.size)
 go_wp2
 refine ag.mk ?_
 go_wp2
 go_ret
 exact ⟨rfl,hbu⟩
theorem Uj {w:World} (vl vr:Value) (C:Cs) (L R:List Iv) (i j:Nat) (hc:j<R.length) (_hn:R.length≤1000) (hC:CsZ 1000 C) (hz:I7 1000 (ah R j)) (hvl:gm w vl L) (eO:gm w vr R) (hw:Good w) :
  Calls Tryz.prog 239 #[uC vl vr C,oF 3 i j] w (RV (.string (tx (C.ga*aH (ah R j)))) w):=by
 have htk:∀ (x:Iv),I7 1000 x→Go.RowKit.Hid (∀ w',Good w'→Calls Tryz.prog 261 #[RO x] w' (RV (.string (tx (aH x))) w')):=fun x hx w' hg=>rG x (hx.1.sm) (hx.2.sm) w' hg
 have HT:=htk _ hz
 have HM:=hid (fun w' (hg:Good w')=>uA C.ga (aH (ah R j)) (hC.ga.sm) ((oG hz).sm) w' hg)
 obtain ⟨B,off,e0,e1,e2,lb,hq⟩ : ∃ B off,w.cell? ⟨B,off+j*3,none⟩=some (.string (us (ah R j).u))∧w.cell? ⟨B,off+j*3+1,none⟩=some (.string (tx (ah R j).a))∧w.cell? ⟨B,off+j*3+2,none⟩=some (.string (tx (ah R j).b))∧B<w.heap.size∧∃ c,vr=.slice (some ⟨B,off,none⟩) R.length c∧R.length≤c∧c≤maxLen:=by
  obtain ⟨p,c,hv,h2,h3⟩:=eO.slice
  rw [hv] at eO
  obtain ⟨B,off,e,hb,a0,a1,a2⟩:=eO.at hc
  subst e
  exact ⟨B,off,a0,a1,a2,hb,c,hv,h2,h3⟩
 obtain ⟨cr,rfl,hcl,hcm⟩:=hq
 obtain ⟨pl,cl,rfl,gZ,hcm2⟩:=hvl.slice
 obtain ⟨nl,hnl⟩ : ∃ q,q=L.length:=⟨_,rfl⟩
 rw [←hnl]
 unfold maxLen at hcm
 unfold uC oF
 unfold RO at HT
 unfold RV at *
 clear hvl eO hC hz htk gZ hcm2 hnl
 generalize tx (C.ga*aH (ah R j))=r at *
 generalize tx (aH (ah R j))=tk at *
 generalize tx C.ch=t1 at *
 generalize tx C.mi=t2 at *
 generalize tx C.ga=t3 at *
 generalize tx C.re=t4 at *
 generalize us (ah R j).u=u at *
 generalize tx (ah R j).a=a at *
 generalize tx (ah R j).b=b at *
 have i1:(0:Int)≤(j:Int):=by omega
 have i2:(j:Int)<(R.length:Int):=by omega
 go_enter Tryz.func239,Tryz.ntmps239
 go_upto_region 1 with fail
 obtain ⟨wP,bX⟩ : ∃ wP,wP=w.alloc (Obj.cells #[.slice pl nl cl,.slice (some ⟨B,off,none⟩) R.length cr,.string t1,.string t2,.string t3,.string t4] 122):=⟨_,rfl⟩
 obtain ⟨wA,aS⟩ : ∃ wA,wA=wP.alloc (Obj.cells #[.int .i64 3,.int .i64 (i:Int),.int .i64 (j:Int)] 57):=⟨_,rfl⟩
 have hsP:wP.heap.size=w.heap.size+1:=by rw [bX];simp
 have eT:Below w.heap.size w wP:=by rw [bX];exact ae _ _
 have hpq:wP.heap[w.heap.size]?=some (.cells #[.slice pl nl cl,.slice (some ⟨B,off,none⟩) R.length cr,.string t1,.string t2,.string t3,.string t4] 122 (0,0)):=by rw [bX];exact World.alloc_heap_new _ _
 obtain ⟨fO,ls,g0,g1,g2⟩:=aY aS
 have kI:=(fO.block _ (lt_of_some hpq)).trans hpq
 obtain ⟨q0,q1,q2,q3,q4,q5⟩:=aW kI
 have lq:=lt_of_some kI
 have aP:=eT.trans (fO.mono eT.size)
 rw [bX] at aS
 rw [←aS]
 rw [hsP] at ls g0 g1 g2
 clear aS bX hsP eT hpq fO kI
 have e0:=(aP.cell (p:=⟨B,off+j*3,none⟩) lb).trans e0
 have e1:=(aP.cell (p:=⟨B,off+j*3+1,none⟩) lb).trans e1
 have e2:=(aP.cell (p:=⟨B,off+j*3+2,none⟩) lb).trans e2
 have lb:=Nat.lt_of_lt_of_le lb aP.size
 go_wp2_with fail
 refine gG (fun W'=>Below wA.heap.size wA W') (.take 0 (.take 1 (.take 2 (.take 3 (.take 4 (.take 5 (.take 6 (.take 7 (.take 8 (.one 9 (.one 10 .fin))))))))))) 11 (by kernel_rfl) (by kernel_rfl) ⟨rfl,rfl,rfl,Nat.le_refl _,fun _ _=>rfl⟩ ?_
 have bZ:Below wA.heap.size wA wA.drew:=⟨rfl,rfl,rfl,Nat.le_refl _,fun _ _=>rfl⟩
 generalize wA.drew=dW at *
 iterate 9
  refine bJ rfl ?_ rfl ?_ ?_
  rotate_left
  ·intro W' hS'
   have s0:=(hS'.cell (p:=⟨w.heap.size,0,none⟩) lq).trans q0
   have s1:=(hS'.cell (p:=⟨w.heap.size,1,none⟩) lq).trans q1
   have s2:=(hS'.cell (p:=⟨w.heap.size,2,none⟩) lq).trans q2
   have s3:=(hS'.cell (p:=⟨w.heap.size,3,none⟩) lq).trans q3
   have s4:=(hS'.cell (p:=⟨w.heap.size,4,none⟩) lq).trans q4
   have s5:=(hS'.cell (p:=⟨w.heap.size,5,none⟩) lq).trans q5
   have s6:=(hS'.cell (p:=⟨w.heap.size+1,0,none⟩) ls).trans g0
   have s7:=(hS'.cell (p:=⟨w.heap.size+1,1,none⟩) ls).trans g1
   have s8:=(hS'.cell (p:=⟨w.heap.size+1,2,none⟩) ls).trans g2
   have s9:=(hS'.cell (p:=⟨B,off+j*3,none⟩) lb).trans e0
   have s10:=(hS'.cell (p:=⟨B,off+j*3+1,none⟩) lb).trans e1
   have s11:=(hS'.cell (p:=⟨B,off+j*3+2,none⟩) lb).trans e2
   go_simp
   try with_reducible rfl
  try simp only [zA,zB,zC,Act.put,zD,zE,zF]
 refine aK rfl rfl (fun K hK=>?_)
 go_simp
 refine (HT.out _ (hw.below (aP.trans (bZ.mono aP.size)))).mono ?_
 rintro e gK ⟨rfl,cK⟩
 have hP1:=bZ.trans (cK.mono bZ.size)
 refine hK _ _ ⟨hP1,?_⟩
 clear hK K
 try simp only [zA,zB,zC,Act.put,zD,zE,zF]
 refine aK rfl rfl (fun K hK=>?_)
 go_simp
 refine (HM.out _ (hw.below (aP.trans (hP1.mono aP.size)))).mono ?_
 rintro e sW ⟨rfl,dK⟩
 have hP2:=hP1.trans (dK.mono hP1.size)
 refine hK _ _ ⟨hP2,?_⟩
 clear hK K
 try simp only [zA,zB,zC,Act.put,zD,zE,zF]
 unfold gP
 simp only [List.drop_succ_cons,List.drop_zero]
 have hbu:=aP.trans (hP2.mono aP.size)
 go_wp2
 refine ag.mk ?_
 go_wp2
 go_ret
 exact ⟨rfl,hbu⟩
theorem Uk {w:World} (vl vr:Value) (C:Cs) (L R:List Iv) (i j:Nat) (hc:i<L.length) (_hn:L.length≤1000) (hC:CsZ 1000 C) (hz:I7 1000 (ah L i)) (hvl:gm w vl L) (eO:gm w vr R) (hw:Good w) :
  Calls Tryz.prog 239 #[uC vl vr C,oF 4 i j] w (RV (.string (tx (C.re*aH (ah L i)))) w):=by
 have htk:∀ (x:Iv),I7 1000 x→Go.RowKit.Hid (∀ w',Good w'→Calls Tryz.prog 261 #[RO x] w' (RV (.string (tx (aH x))) w')):=fun x hx w' hg=>rG x (hx.1.sm) (hx.2.sm) w' hg
 have HT:=htk _ hz
 have HM:=hid (fun w' (hg:Good w')=>uA C.re (aH (ah L i)) (hC.re.sm) ((oG hz).sm) w' hg)
 obtain ⟨B,off,e0,e1,e2,lb,hq⟩ : ∃ B off,w.cell? ⟨B,off+i*3,none⟩=some (.string (us (ah L i).u))∧w.cell? ⟨B,off+i*3+1,none⟩=some (.string (tx (ah L i).a))∧w.cell? ⟨B,off+i*3+2,none⟩=some (.string (tx (ah L i).b))∧B<w.heap.size∧∃ c,vl=.slice (some ⟨B,off,none⟩) L.length c∧L.length≤c∧c≤maxLen:=by
  obtain ⟨p,c,hv,h2,h3⟩:=hvl.slice
  rw [hv] at hvl
  obtain ⟨B,off,e,hb,a0,a1,a2⟩:=hvl.at hc
  subst e
  exact ⟨B,off,a0,a1,a2,hb,c,hv,h2,h3⟩
 obtain ⟨cl,rfl,hcl,hcm⟩:=hq
 obtain ⟨pr,cr,rfl,gZ,hcm2⟩:=eO.slice
 obtain ⟨nr,hnr⟩ : ∃ q,q=R.length:=⟨_,rfl⟩
 rw [←hnr]
 unfold maxLen at hcm
 unfold uC oF
 unfold RO at HT
 unfold RV at *
 clear hvl eO hC hz htk gZ hcm2 hnr
 generalize tx (C.re*aH (ah L i))=r at *
 generalize tx (aH (ah L i))=tk at *
 generalize tx C.ch=t1 at *
 generalize tx C.mi=t2 at *
 generalize tx C.ga=t3 at *
 generalize tx C.re=t4 at *
 generalize us (ah L i).u=u at *
 generalize tx (ah L i).a=a at *
 generalize tx (ah L i).b=b at *
 have i1:(0:Int)≤(i:Int):=by omega
 have i2:(i:Int)<(L.length:Int):=by omega
 go_enter Tryz.func239,Tryz.ntmps239
 go_upto_region 1 with fail
 obtain ⟨wP,bX⟩ : ∃ wP,wP=w.alloc (Obj.cells #[.slice (some ⟨B,off,none⟩) L.length cl,.slice pr nr cr,.string t1,.string t2,.string t3,.string t4] 122):=⟨_,rfl⟩
 obtain ⟨wA,aS⟩ : ∃ wA,wA=wP.alloc (Obj.cells #[.int .i64 4,.int .i64 (i:Int),.int .i64 (j:Int)] 57):=⟨_,rfl⟩
 have hsP:wP.heap.size=w.heap.size+1:=by rw [bX];simp
 have eT:Below w.heap.size w wP:=by rw [bX];exact ae _ _
 have hpq:wP.heap[w.heap.size]?=some (.cells #[.slice (some ⟨B,off,none⟩) L.length cl,.slice pr nr cr,.string t1,.string t2,.string t3,.string t4] 122 (0,0)):=by rw [bX];exact World.alloc_heap_new _ _
 obtain ⟨fO,ls,g0,g1,g2⟩:=aY aS
 have kI:=(fO.block _ (lt_of_some hpq)).trans hpq
 obtain ⟨q0,q1,q2,q3,q4,q5⟩:=aW kI
 have lq:=lt_of_some kI
 have aP:=eT.trans (fO.mono eT.size)
 rw [bX] at aS
 rw [←aS]
 rw [hsP] at ls g0 g1 g2
 clear aS bX hsP eT hpq fO kI
 have e0:=(aP.cell (p:=⟨B,off+i*3,none⟩) lb).trans e0
 have e1:=(aP.cell (p:=⟨B,off+i*3+1,none⟩) lb).trans e1
 have e2:=(aP.cell (p:=⟨B,off+i*3+2,none⟩) lb).trans e2
 have lb:=Nat.lt_of_lt_of_le lb aP.size
 go_wp2_with fail
 refine gG (fun W'=>Below wA.heap.size wA W') (.take 0 (.take 1 (.take 2 (.take 3 (.take 4 (.take 5 (.take 6 (.take 7 (.take 8 (.one 9 (.one 10 .fin))))))))))) 11 (by kernel_rfl) (by kernel_rfl) ⟨rfl,rfl,rfl,Nat.le_refl _,fun _ _=>rfl⟩ ?_
 have bZ:Below wA.heap.size wA wA.drew:=⟨rfl,rfl,rfl,Nat.le_refl _,fun _ _=>rfl⟩
 generalize wA.drew=dW at *
 iterate 9
  refine bJ rfl ?_ rfl ?_ ?_
  rotate_left
  ·intro W' hS'
   have s0:=(hS'.cell (p:=⟨w.heap.size,0,none⟩) lq).trans q0
   have s1:=(hS'.cell (p:=⟨w.heap.size,1,none⟩) lq).trans q1
   have s2:=(hS'.cell (p:=⟨w.heap.size,2,none⟩) lq).trans q2
   have s3:=(hS'.cell (p:=⟨w.heap.size,3,none⟩) lq).trans q3
   have s4:=(hS'.cell (p:=⟨w.heap.size,4,none⟩) lq).trans q4
   have s5:=(hS'.cell (p:=⟨w.heap.size,5,none⟩) lq).trans q5
   have s6:=(hS'.cell (p:=⟨w.heap.size+1,0,none⟩) ls).trans g0
   have s7:=(hS'.cell (p:=⟨w.heap.size+1,1,none⟩) ls).trans g1
   have s8:=(hS'.cell (p:=⟨w.heap.size+1,2,none⟩) ls).trans g2
   have s9:=(hS'.cell (p:=⟨B,off+i*3,none⟩) lb).trans e0
   have s10:=(hS'.cell (p:=⟨B,off+i*3+1,none⟩) lb).trans e1
   have s11:=(hS'.cell (p:=⟨B,off+i*3+2,none⟩) lb).trans e2
   go_simp
   try with_reducible rfl
  try simp only [zA,zB,zC,Act.put,zD,zE,zF]
 refine aK rfl rfl (fun K hK=>?_)
 go_simp
 refine (HT.out _ (hw.below (aP.trans (bZ.mono aP.size)))).mono ?_
 rintro e gK ⟨rfl,cK⟩
 have hP1:=bZ.trans (cK.mono bZ.size)
 refine hK _ _ ⟨hP1,?_⟩
 clear hK K
 try simp only [zA,zB,zC,Act.put,zD,zE,zF]
 refine aK rfl rfl (fun K hK=>?_)
 go_simp
 refine (HM.out _ (hw.below (aP.trans (hP1.mono aP.size)))).mono ?_
 rintro e sW ⟨rfl,dK⟩
 have hP2:=hP1.trans (dK.mono hP1.size)
 refine hK _ _ ⟨hP2,?_⟩
 clear hK K
 try simp only [zA,zB,zC,Act.put,zD,zE,zF]
 unfold gP
 simp only [List.drop_succ_cons,List.drop_zero]
 have hbu:=aP.trans (hP2.mono aP.size)
 go_wp2
 refine ag.mk ?_
 go_wp2
 go_ret
 exact ⟨rfl,hbu⟩
theorem Ul {w:World} (vl vr:Value) (C:Cs) (L R:List Iv) (i j:Nat) (hc:j<R.length) (_hn:R.length≤1000) (hC:CsZ 1000 C) (hz:I7 1000 (ah R j)) (hvl:gm w vl L) (eO:gm w vr R) (hw:Good w) :
  Calls Tryz.prog 239 #[uC vl vr C,oF 5 i j] w (RV (.string (tx (C.re*aH (ah R j)))) w):=by
 have htk:∀ (x:Iv),I7 1000 x→Go.RowKit.Hid (∀ w',Good w'→Calls Tryz.prog 261 #[RO x] w' (RV (.string (tx (aH x))) w')):=fun x hx w' hg=>rG x (hx.1.sm) (hx.2.sm) w' hg
 have HT:=htk _ hz
 have HM:=hid (fun w' (hg:Good w')=>uA C.re (aH (ah R j)) (hC.re.sm) ((oG hz).sm) w' hg)
 obtain ⟨B,off,e0,e1,e2,lb,hq⟩ : ∃ B off,w.cell? ⟨B,off+j*3,none⟩=some (.string (us (ah R j).u))∧w.cell? ⟨B,off+j*3+1,none⟩=some (.string (tx (ah R j).a))∧w.cell? ⟨B,off+j*3+2,none⟩=some (.string (tx (ah R j).b))∧B<w.heap.size∧∃ c,vr=.slice (some ⟨B,off,none⟩) R.length c∧R.length≤c∧c≤maxLen:=by
  obtain ⟨p,c,hv,h2,h3⟩:=eO.slice
  rw [hv] at eO
  obtain ⟨B,off,e,hb,a0,a1,a2⟩:=eO.at hc
  subst e
  exact ⟨B,off,a0,a1,a2,hb,c,hv,h2,h3⟩
 obtain ⟨cr,rfl,hcl,hcm⟩:=hq
 obtain ⟨pl,cl,rfl,gZ,hcm2⟩:=hvl.slice
 obtain ⟨nl,hnl⟩ : ∃ q,q=L.length:=⟨_,rfl⟩
 rw [←hnl]
 unfold maxLen at hcm
 unfold uC oF
 unfold RO at HT
 unfold RV at *
 clear hvl eO hC hz htk gZ hcm2 hnl
 generalize tx (C.re*aH (ah R j))=r at *
 generalize tx (aH (ah R j))=tk at *
 generalize tx C.ch=t1 at *
 generalize tx C.mi=t2 at *
 generalize tx C.ga=t3 at *
 generalize tx C.re=t4 at *
 generalize us (ah R j).u=u at *
 generalize tx (ah R j).a=a at *
 generalize tx (ah R j).b=b at *
 have i1:(0:Int)≤(j:Int):=by omega
 have i2:(j:Int)<(R.length:Int):=by omega
 go_enter Tryz.func239,Tryz.ntmps239
 go_upto_region 1 with fail
 obtain ⟨wP,bX⟩ : ∃ wP,wP=w.alloc (Obj.cells #[.slice pl nl cl,.slice (some ⟨B,off,none⟩) R.length cr,.string t1,.string t2,.string t3,.string t4] 122):=⟨_,rfl⟩
 obtain ⟨wA,aS⟩ : ∃ wA,wA=wP.alloc (Obj.cells #[.int .i64 5,.int .i64 (i:Int),.int .i64 (j:Int)] 57):=⟨_,rfl⟩
 have hsP:wP.heap.size=w.heap.size+1:=by rw [bX];simp
 have eT:Below w.heap.size w wP:=by rw [bX];exact ae _ _
 have hpq:wP.heap[w.heap.size]?=some (.cells #[.slice pl nl cl,.slice (some ⟨B,off,none⟩) R.length cr,.string t1,.string t2,.string t3,.string t4] 122 (0,0)):=by rw [bX];exact World.alloc_heap_new _ _
 obtain ⟨fO,ls,g0,g1,g2⟩:=aY aS
 have kI:=(fO.block _ (lt_of_some hpq)).trans hpq
 obtain ⟨q0,q1,q2,q3,q4,q5⟩:=aW kI
 have lq:=lt_of_some kI
 have aP:=eT.trans (fO.mono eT.size)
 rw [bX] at aS
 rw [←aS]
 rw [hsP] at ls g0 g1 g2
 clear aS bX hsP eT hpq fO kI
 have e0:=(aP.cell (p:=⟨B,off+j*3,none⟩) lb).trans e0
 have e1:=(aP.cell (p:=⟨B,off+j*3+1,none⟩) lb).trans e1
 have e2:=(aP.cell (p:=⟨B,off+j*3+2,none⟩) lb).trans e2
 have lb:=Nat.lt_of_lt_of_le lb aP.size
 go_wp2_with fail
 refine gG (fun W'=>Below wA.heap.size wA W') (.take 0 (.take 1 (.take 2 (.take 3 (.take 4 (.take 5 (.take 6 (.take 7 (.take 8 (.one 9 (.one 10 .fin))))))))))) 11 (by kernel_rfl) (by kernel_rfl) ⟨rfl,rfl,rfl,Nat.le_refl _,fun _ _=>rfl⟩ ?_
 have bZ:Below wA.heap.size wA wA.drew:=⟨rfl,rfl,rfl,Nat.le_refl _,fun _ _=>rfl⟩
 generalize wA.drew=dW at *
 iterate 9
  refine bJ rfl ?_ rfl ?_ ?_
  rotate_left
  ·intro W' hS'
   have s0:=(hS'.cell (p:=⟨w.heap.size,0,none⟩) lq).trans q0
   have s1:=(hS'.cell (p:=⟨w.heap.size,1,none⟩) lq).trans q1
   have s2:=(hS'.cell (p:=⟨w.heap.size,2,none⟩) lq).trans q2
   have s3:=(hS'.cell (p:=⟨w.heap.size,3,none⟩) lq).trans q3
   have s4:=(hS'.cell (p:=⟨w.heap.size,4,none⟩) lq).trans q4
   have s5:=(hS'.cell (p:=⟨w.heap.size,5,none⟩) lq).trans q5
   have s6:=(hS'.cell (p:=⟨w.heap.size+1,0,none⟩) ls).trans g0
   have s7:=(hS'.cell (p:=⟨w.heap.size+1,1,none⟩) ls).trans g1
   have s8:=(hS'.cell (p:=⟨w.heap.size+1,2,none⟩) ls).trans g2
   have s9:=(hS'.cell (p:=⟨B,off+j*3,none⟩) lb).trans e0
   have s10:=(hS'.cell (p:=⟨B,off+j*3+1,none⟩) lb).trans e1
   have s11:=(hS'.cell (p:=⟨B,off+j*3+2,none⟩) lb).trans e2
   go_simp
   try with_reducible rfl
  try simp only [zA,zB,zC,Act.put,zD,zE,zF]
 refine aK rfl rfl (fun K hK=>?_)
 go_simp
 refine (HT.out _ (hw.below (aP.trans (bZ.mono aP.size)))).mono ?_
 rintro e gK ⟨rfl,cK⟩
 have hP1:=bZ.trans (cK.mono bZ.size)
 refine hK _ _ ⟨hP1,?_⟩
 clear hK K
 try simp only [zA,zB,zC,Act.put,zD,zE,zF]
 refine aK rfl rfl (fun K hK=>?_)
 go_simp
 refine (HM.out _ (hw.below (aP.trans (hP1.mono aP.size)))).mono ?_
 rintro e sW ⟨rfl,dK⟩
 have hP2:=hP1.trans (dK.mono hP1.size)
 refine hK _ _ ⟨hP2,?_⟩
 clear hK K
 try simp only [zA,zB,zC,Act.put,zD,zE,zF]
 unfold gP
 simp only [List.drop_succ_cons,List.drop_zero]
 have hbu:=aP.trans (hP2.mono aP.size)
 go_wp2
 refine ag.mk ?_
 go_wp2
 go_ret
 exact ⟨rfl,hbu⟩
end Go.Proofs.YtglncfkoohgdaaaGreatDoor
