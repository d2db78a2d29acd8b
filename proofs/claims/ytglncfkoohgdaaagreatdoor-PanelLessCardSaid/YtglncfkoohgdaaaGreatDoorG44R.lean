import Derived.Test.YtglncfkoohgdaaaGreatDoorG4R
import Derived.Test.YtglncfkoohgdaaaGreatDoorG20R
import Derived.Test.YtglncfkoohgdaaaGreatDoorT3R
import Derived.Test.YtglncfkoohgdaaaGreatDoorG40R
set_option maxRecDepth 100000
set_option maxHeartbeats 4000000
namespace Go.Proofs.YtglncfkoohgdaaaGreatDoor
structure Bt where
 g:Nat
 t:Nat
 u:Nat
def xG (n:Nat):List UInt8:=if n % 6=5 then [] else [UInt8.ofNat (97+n % 6)]
def hf (k:Int):Rat:=Rat.divInt k 2
theorem y8 (k:Int):hf k*2=(k:Rat):=by
 unfold hf
 rw [Rat.divInt_eq_div]
 exact Rat.div_mul_cancel (by decide)
theorem zY {k:Int} {n:Nat} (h:k.natAbs≤n):H2 n (hf k):=⟨k,h,y8 k⟩
theorem aa9 {a b:Int} (h:a<b):hf a<hf b:=by
 have h1:=y8 a
 have h2:=y8 b
 have h3:(a:Rat)<(b:Rat):=Rat.intCast_lt_intCast.2 h
 grind
theorem aeH {a b:Int} (h:a≤b):hf a≤hf b:=by
 have h1:=y8 a
 have h2:=y8 b
 have h3:(a:Rat)≤(b:Rat):=Rat.intCast_le_intCast.2 h
 grind
theorem oM {a:Int} (h:0≤a):0≤hf a:=by
 have h1:=y8 a
 have h3:(0:Rat)≤(a:Rat):=by
  have:=Rat.intCast_le_intCast.2 h
  simpa using this
 grind
def jP (L:List Bt) (i:Nat):Bt:=L.getD i ⟨0,0,0⟩
def NJ (L:List Bt):Nat→Nat
 | 0=>0
 | i+1=>NJ L i+(jP L i).g % 3+(1+(jP L i).t % 6)
theorem Iq (L:List Bt):∀ i,NJ L i≤8*i
 | 0=>Nat.le_refl _
 | i+1=>by
  have:=Iq L i
  show NJ L i+(jP L i).g % 3+(1+(jP L i).t % 6)≤_
  omega
def ivB (L:List Bt) (i:Nat):Iv:=⟨xG (jP L i).u,hf ((NJ L i+(jP L i).g % 3:Nat):Int),hf (NJ L (i+1):Int)⟩
def mJ (L:List Bt):List Iv:=(List.range L.length).map (ivB L)
theorem gP (L:List Bt):(mJ L).length=L.length:=by unfold mJ;simp
theorem sS {L:List Bt} {i:Nat} (h:i<L.length):ah (mJ L) i=ivB L i:=by
 unfold ah mJ
 rw [List.getD_eq_getElem?_getD,List.getElem?_map,List.getElem?_range h]
 rfl
theorem VW (n:Nat):qZ (xG n):=by
 unfold xG
 split
 ·exact .inl rfl
 ·right
  have h:97+n % 6<256:=by omega
  have e:(UInt8.ofNat (97+n % 6)).toNat=97+n % 6:=by
   rw [UInt8.toNat_ofNat']
   exact Nat.mod_eq_of_lt h
  exact ⟨_,rfl,by omega,by omega⟩
theorem Ps {L:List Bt} (h:L.length≤8):Cq (mJ L)∧∀ i,i<L.length→H2 64 (ah (mJ L) i).a∧H2 64 (ah (mJ L) i).b:=by
 have hb:∀ i,i<L.length→H2 64 (ah (mJ L) i).a∧H2 64 (ah (mJ L) i).b:=fun i hi=>by
  rw [sS hi]
  have h1:=Iq L i
  have h2:=Iq L (i+1)
  exact ⟨zY (by omega),zY (by omega)⟩
 refine ⟨⟨by rw [gP];omega,fun i hi=>?_,fun i hi=>?_,fun i hi=>?_,fun i hi=>?_⟩,hb⟩
 ·rw [gP] at hi
  rw [sS hi]
  exact VW _
 ·rw [gP] at hi
  exact ⟨(hb i hi).1.ok (by decide),(hb i hi).2.ok (by decide)⟩
 ·rw [gP] at hi
  rw [sS hi]
  refine ⟨oM (by omega),aa9 ?_⟩
  show ((NJ L i+(jP L i).g % 3:Nat):Int)<((NJ L i+(jP L i).g % 3+(1+(jP L i).t % 6):Nat):Int)
  omega
 ·rw [gP] at hi
  rw [sS hi,sS (show i<L.length by omega)]
  exact aeH (by omega)
structure bV where
 lg:Nat→List Bt
 cnt:Nat
 st:Nat→Nat
 tp:Nat→Int
 co:Nat→Nat
def nP (D:bV):Nat:=2+D.cnt % 3
def LG (D:bV):Nat→Nat
 | 0=>0
 | i+1=>LG D i+(1+D.st i % 6)
theorem NK (D:bV):∀ i,LG D i≤6*i
 | 0=>Nat.le_refl _
 | i+1=>by
  have:=NK D i
  show LG D i+(1+D.st i % 6)≤_
  omega
def LH (D:bV):Cs:=⟨hf (D.co 0 % 8:Nat),hf (D.co 1 % 8:Nat),hf (D.co 2 % 8:Nat),hf (D.co 3 % 8:Nat)⟩
def Dx (D:bV) (n:Nat):List (List Iv):=(List.range n).map fun i=>mJ (D.lg i)
def Dy (D:bV) (n:Nat):List Rat:=(List.range n).map fun i=>hf (LG D i:Int)
def rP (D:bV) (n:Nat):List Rat:=(List.range n).map fun i=>hf ((D.tp i).tmod 8)
def aY (D:bV):dB:=⟨Dx D (nP D),Dy D (nP D),rP D (nP D),LH D⟩
theorem mq {α:Type} (f:Nat→α) (d:α) {n i:Nat} (h:i<n):((List.range n).map f).getD i d=f i:=by
 rw [List.getD_eq_getElem?_getD,List.getElem?_map,List.getElem?_range h]
 rfl
theorem Ir {D:bV} (h4:∀ i,i<4→(D.lg i).length≤4):dw (aY D):=by
 have hn:nP D≤4∧2≤nP D:=by unfold nP;omega
 have hl:(aY D).lg.length=nP D:=by unfold aY Dx;simp
 have e1:∀ k,k<nP D→ai (aY D) k=mJ (D.lg k):=fun k hk=>mq _ _ hk
 have e2:∀ k,k<nP D→cZ (aY D) k=hf (LG D k:Int):=fun k hk=>mq _ _ hk
 have e3:∀ k,k<nP D→bF (aY D) k=hf ((D.tp k).tmod 8):=fun k hk=>mq _ _ hk
 have ht:∀ k:Nat,((k % 8:Nat):Int).natAbs≤16:=fun k=>by omega
 refine ⟨by omega,by omega,by rw [hl];unfold aY Dy;simp,by rw [hl];unfold aY rP;simp,fun k hk=>?_,fun k i hk hi=>?_,fun k hk=>?_,fun k hk=>?_,fun k hk=>?_,⟨zY (ht _),zY (ht _),zY (ht _),zY (ht _)⟩,⟨oM (by omega),oM (by omega),oM (by omega),oM (by omega)⟩⟩
 ·rw [hl] at hk
  rw [e1 k hk,gP]
  have:=h4 k (by omega)
  exact ⟨(Ps (by omega)).1,by omega⟩
 ·rw [hl] at hk
  rw [e1 k hk] at hi ⊢
  rw [gP] at hi
  have:=h4 k (by omega)
  exact (Ps (by omega)).2 i hi
 ·rw [hl] at hk
  rw [e2 k hk]
  have:=NK D k
  exact zY (by omega)
 ·rw [hl] at hk
  rw [e3 k hk]
  have h1:=Int.tmod_lt_of_pos (D.tp k) (show (0:Int)<8 by decide)
  have h2:=Int.lt_tmod_of_pos (D.tp k) (show (0:Int)<8 by decide)
  exact zY (by omega)
 ·rw [hl] at hk
  rw [e2 k (by omega),e2 (k+1) hk]
  refine aa9 ?_
  show (LG D k:Int)<((LG D k+(1+D.st k % 6):Nat):Int)
  omega
open Go.RowKit Go.Shelf
open Go.Lib (decDigits itoa nDigits)
open Go.Lib (hid)
theorem aas (a b:ByteArray) (n d:Int) (ha:eG a n) (hb:eG b d) (hn0:0≤n) (hdp:0<d) (hdl:d<1000000000) (hsa:a.size≤17) (hsb:b.size≤17) (w:World) (hw:Good w) :
  Calls Tryz.prog 167 #[.string a,.string b] w (RV (.tuple #[.string (tx (Rat.divInt n d)),.int .i64 0]) w):=by
 have HS:=hid (fun w'=>jl b d hb w')
 have HL:=hid (fun w' (hg:Good w')=>Ak a b n d ha hb hn0 hdp hdl (by omega) (by omega) w' hg)
 have HU:=hid (fun (r:ByteArray) (h:gm r (Rat.divInt n d))=>show r=tx (Rat.divInt n d) from h.unique (bP _))
 have hs:((mM d:Int) == 0)=false:=by
  refine beq_false_of_ne fun h=>(show d≠0 by omega) ?_
  rcases Int.lt_trichotomy d 0 with h1 | h1 | h1
  ·rw [vP h1] at h;simp at h
  ·exact h1
  ·rw [rW h1] at h;simp at h
 generalize tx (Rat.divInt n d)=t at *
 generalize mM d=sd at *
 clear ha hb
 go_enter Tryz.func167,Tryz.ntmps167
 go_wp2_with fail
 refine (HS.out w).mono ?_
 rintro e w1 ⟨rfl,rfl⟩
 go_wp2_with fail
 refine (HL.out _ hw).mono ?_
 rintro e w2 ⟨r,rfl,hr,hb2⟩
 obtain rfl:=HU.out r hr
 clear hr
 go_wp2
 go_ret2
 exact ⟨rfl,hb2⟩
theorem K5 {s:ByteArray} {n:Int} (h:eG s n) (h1:n.natAbs≤1000000):s.size≤9:=by
 rw [h.size]
 exact itoa_length_le n (k:=8) (by omega) (by omega)
theorem acV (n d:Int) (hn0:0≤n) (hn1:n≤1000000) (hd0:0<d) (hd1:d≤1000000) (_hd:d≠0) (w:World) (hw:Good w) :
  Calls Tryz.prog 93 #[.int .i64 n,.int .i64 d] w (RV (.tuple #[.string (tx (Rat.divInt n d)),.int .i64 0]) w):=by
 have HX:=hid (fun w' (hg:Good w')=>uL n (by omega) (by omega) w' hg)
 have HY:=hid (fun w' (hg:Good w')=>uL d (by omega) (by omega) w' hg)
 have HN:=hid (fun (a b:ByteArray) (ha:eG a n) (hb:eG b d) w' (hg:Good w')=>aas a b n d ha hb hn0 hd0 (by omega) (Nat.le_trans (K5 ha (by omega)) (by decide)) (Nat.le_trans (K5 hb (by omega)) (by decide)) w' hg)
 unfold RV at HN
 generalize tx (Rat.divInt n d)=t at *
 clear hn0 hn1 hd0 hd1 _hd
 go_enter Tryz.func93,Tryz.ntmps93
 go_wp2_with fail
 refine (HX.out w hw).mono ?_
 rintro e w1 ⟨a,rfl,ha,hb1⟩
 have HA:=hid ha
 clear ha
 go_wp2_with fail
 refine (HY.out _ (hw.below hb1)).mono ?_
 rintro e w2 ⟨b,rfl,hb,hb2⟩
 have HB:=hid hb
 have acW:=hb1.trans (hb2.mono hb1.size)
 clear hb
 go_wp2_with fail
 refine (HN.out a b HA.out HB.out _ (hw.below acW)).mono ?_
 rintro e w3 ⟨rfl,hb3⟩
 go_wp2
 go_ret2
 exact ⟨rfl,acW.trans (hb3.mono acW.size)⟩
theorem oN (a b:Nat):Int.tmod (a:Int) (b:Int)=((a % b:Nat):Int):=by
 rw [Int.tmod_eq_emod_of_nonneg (by omega)]
 simp
theorem Rn (n:Nat) (_hn:n<256) (w:World):Calls Tryz.prog 94 #[.int .u8 (n:Int)] w (RV (.string (us (xG n))) w):=by
 have h6:Int.tmod (n:Int) 6=((n % 6:Nat):Int):=oN n 6
 have hr:n % 6<6:=Nat.mod_lt _ (by decide)
 have hu:us (xG n)=us (xG (n % 6)):=by unfold xG;rw [Nat.mod_mod]
 rw [hu]
 clear hu
 generalize n % 6=r at *
 have hr':r=0∨r=1∨r=2∨r=3∨r=4∨r=5:=by omega
 go_enter Tryz.func94,Tryz.ntmps94
 rcases hr' with rfl | rfl | rfl | rfl | rfl | rfl
 all_goals
  go_wp2
  go_ret
  exact ⟨rfl,ae _ _⟩
def Yz (w:World) (v:Value) (L:List Bt):Prop:=(∃ p c,v=.slice p L.length c∧L.length≤c∧c≤maxLen∧(0<L.length→∃ b off,p=some ⟨b,off,none⟩∧b<w.heap.size ∧
 ∀ i,i<L.length→w.cell? ⟨b,off+i*3,none⟩=some (.int .u8 ((jP L i).g:Int))∧w.cell? ⟨b,off+i*3+1,none⟩=some (.int .u8 ((jP L i).t:Int))∧w.cell? ⟨b,off+i*3+2,none⟩=some (.int .u8 ((jP L i).u:Int)))) ∧
 ∀ i,i<L.length→(jP L i).g<256∧(jP L i).t<256∧(jP L i).u<256
theorem Yz.below {w w':World} {v:Value} {L:List Bt} (h:Yz w v L) (hb:Below w.heap.size w w'):Yz w' v L:=by
 obtain ⟨⟨p,c,h1,h2,h3,h4⟩,h5⟩:=h
 refine ⟨⟨p,c,h1,h2,h3,fun h0=>?_⟩,h5⟩
 obtain ⟨b,off,k1,k2,k3⟩:=h4 h0
 refine ⟨b,off,k1,Nat.lt_of_lt_of_le k2 hb.size,fun i hi=>?_⟩
 obtain ⟨m1,m2,m3⟩:=k3 i hi
 exact ⟨(hb.cell (p:=⟨b,off+i*3,none⟩) k2).trans m1,(hb.cell (p:=⟨b,off+i*3+1,none⟩) k2).trans m2,(hb.cell (p:=⟨b,off+i*3+2,none⟩) k2).trans m3⟩
theorem Yz.slice {w:World} {v:Value} {L:List Bt} (h:Yz w v L):∃ p c,v=.slice p L.length c∧L.length≤c∧c≤maxLen:=by
 obtain ⟨⟨p,c,h1,h2,h3,_⟩,_⟩:=h
 exact ⟨p,c,h1,h2,h3⟩
theorem Yz.at {w:World} {p:Option Addr} {n c:Nat} {L:List Bt} (h:Yz w (.slice p n c) L) {i:Nat} (hi:i<L.length):∃ b off,p=some ⟨b,off,none⟩∧b<w.heap.size ∧
  w.cell? ⟨b,off+i*3,none⟩=some (.int .u8 ((jP L i).g:Int))∧w.cell? ⟨b,off+i*3+1,none⟩=some (.int .u8 ((jP L i).t:Int))∧w.cell? ⟨b,off+i*3+2,none⟩=some (.int .u8 ((jP L i).u:Int)):=by
 obtain ⟨⟨p',c',h1,h2,h3,h4⟩,_⟩:=h
 cases h1
 obtain ⟨b,off,k1,k2,k3⟩:=h4 (by omega)
 exact ⟨b,off,k1,k2,k3 i hi⟩
theorem VX (k:Nat) (hk:k≤1000) (w:World) (hw:Good w):Calls Tryz.prog 93 #[.int .i64 (k:Int),.int .i64 2] w (RV (.tuple #[.string (tx (hf (k:Int))),.int .i64 0]) w):=acV (k:Int) 2 (by omega) (by omega) (by decide) (by decide) (by decide) w hw
theorem Ro {L:List Bt} {i:Nat} (h:i<L.length):zX ((mJ L).take (i+1))=zX ((mJ L).take i) ++ [.string (us (xG (jP L i).u)),.string (tx (hf ((NJ L i+(jP L i).g % 3:Nat):Int))),.string (tx (hf (NJ L (i+1):Int)))]:=by
 have hl:i<(mJ L).length:=by rw [gP];exact h
 have e:=sS h
 rw [Dr hl] at e
 rw [List.take_succ_eq_append_getElem hl,KU,e]
 rfl
theorem VY {w:World} (v:Value) (L:List Bt) (h8:L.length≤8) (hv:Yz w v L) (hw:Good w) :
  Calls Tryz.prog 35 #[v] w fun e w'=>∃ v',e=.returned v'∧w'.ownsRow w.heap.size 89 3 v' L.length (zX (mJ L))∧Below w.heap.size w w':=by
 obtain ⟨p,c,rfl,hc,hcm⟩:=hv.slice
 unfold maxLen at hcm
 have HV:=hid hv
 have HOF:=hid (fun (k:Nat) (hk:k≤1000) w' (hg:Good w')=>VX k hk w' hg)
 have HUN:=hid (fun (k:Nat) (hk:k<256) w'=>Rn k hk w')
 have HTK:=hid (fun i (hi:i<L.length)=>Ro hi)
 have HDP:=hid (Iq L)
 have HD0:=hid (show (0:Int)=(NJ L 0:Int) from rfl)
 have QF:=hid (fun i=>show NJ L (i+1)=NJ L i+(jP L i).g % 3+(1+(jP L i).t % 6) from rfl)
 have HLL:=hid (show zX ((mJ L).take L.length)=zX (mJ L) by rw [←gP L,List.take_length])
 unfold RV at HOF HUN
 generalize hn:L.length=n at *
 have HN:=hid hn
 clear hv hn
 go_enter Tryz.func35,Tryz.ntmps35
 go_wp2_with fail
 go_loopw [3,4,5,6,7,8,9] (fun vo dv iv _ _ _ _ wr=>∃ i:Nat,i≤n∧iv=.int .i64 (i:Int)∧dv=.int .i64 (NJ L i:Int)∧wr.ownsRow w.heap.size 89 3 vo i (zX ((mJ L).take i))∧Below w.heap.size w wr) (fun _ _ iv _ _ _ _ _=>n-(intOf iv).toNat)
 case atStart=>exact ⟨0,Nat.zero_le _,rfl,rfl,World.ownsRow_nil _ _ _ _,Below.refl _ _⟩
 case round =>
  obtain ⟨i,hin,rfl,rfl,hrow,hbr⟩:=hrel
  by_cases hi:i<n
  ·have kn:decide ((i:Int)<(n:Int))=true:=decide_eq_true (by omega)
   have IX:decide (i<n)=true:=decide_eq_true hi
   have k8:decide ((i:Int)<8)=true:=decide_eq_true (by omega)
   have k82:decide (i<8)=true:=decide_eq_true (by omega)
   have i1:(0:Int)≤(i:Int):=by omega
   have i2:(i:Int)<(n:Int):=by omega
   have i5:IntKind.i64.wrap ((i:Int)+1)=(i:Int)+1:=IntWalk.i64_in _ (by omega)
   obtain ⟨b,off,rfl,hbl,c0,c1,c2⟩:=(HV.out.below hbr).at (show i<L.length by rw [HN.out];exact hi)
   obtain ⟨hg,ht,hu⟩:=HV.out.2 i (by rw [HN.out];exact hi)
   have htk:=HTK.out i hi
   have hds:=QF.out i
   have hd:=HDP.out i
   have hd2:=HDP.out (i+1)
   have HDN:=hid hds
   generalize hd1:NJ L (i+1)=d2 at *
   generalize NJ L i=d at *
   generalize (jP L i).g=g at *
   generalize (jP L i).t=t at *
   generalize (jP L i).u=u at *
   obtain ⟨m,hm⟩ : ∃ m,m=d+g % 3:=⟨_,rfl⟩
   rw [←hm] at htk
   have a1:Int.tmod (g:Int) 3=((g % 3:Nat):Int):=oN g 3
   have a2:Int.tmod (t:Int) 6=((t % 6:Nat):Int):=oN t 6
   obtain ⟨q,hq⟩ : ∃ q,q=1+t % 6:=⟨_,rfl⟩
   have a3:IntKind.i64.wrap ((d:Int)+(g:Int) % 3)=(m:Int):=by rw [IntWalk.i64_in _ (by omega)];omega
   have a4:IntKind.i64.wrap (1+(t:Int) % 6)=(q:Int):=by rw [IntWalk.i64_in _ (by omega)];omega
   have a5:IntKind.i64.wrap ((m:Int)+(q:Int))=(d2:Int):=by rw [IntWalk.i64_in _ (by omega)];omega
   have HM:=hid (show m≤1000 by omega)
   have HD2:=hid (show d2≤1000 by omega)
   have agl:=hid htk
   have HD1:=hid hd1
   have HR:=hid hrow
   have HB:=hid hbr
   clear hds hm hd1 htk hrow hbr hd hd2 hq
   obtain ⟨i0,hii,hz0,hz1,hz2⟩:=info_parts nD.info
   go_wp2_with fail
   refine (HOF.out m HM.out wr (hw.below HB.out)).mono ?_
   rintro e w1 ⟨rfl,hb1⟩
   have c1:=(hb1.cell (p:=⟨b,off+i*3+1,none⟩) hbl).trans c1
   have c2:=(hb1.cell (p:=⟨b,off+i*3+2,none⟩) hbl).trans c2
   have M3:=Nat.lt_of_lt_of_le hbl hb1.size
   have HB1:=hid hb1
   clear hb1 c0
   go_wp2_with fail
   refine (HOF.out d2 HD2.out w1 (hw.below (HB.out.trans (HB1.out.mono HB.out.size)))).mono ?_
   rintro e w2 ⟨rfl,hb2⟩
   have c2:=(hb2.cell (p:=⟨b,off+i*3+2,none⟩) M3).trans c2
   have Ie:=Nat.lt_of_lt_of_le M3 hb2.size
   have HB2:=hid (HB1.out.trans (hb2.mono HB1.out.size))
   clear hb2 c1
   go_wp2_with fail
   refine (HUN.out u hu w2).mono ?_
   rintro e w3 ⟨rfl,hb3⟩
   have HB3:=hid (HB2.out.trans (hb3.mono HB2.out.size))
   have hrow3:=l5 HR.out HB3.out
   have hs3:w.heap.size≤w3.heap.size:=Nat.le_trans HB.out.size HB3.out.size
   have HTX:=agl.out
   generalize us (xG u)=su at *
   generalize tx (hf (m:Int))=tm at *
   generalize tx (hf (d2:Int))=td at *
   have agm:=hid HTX
   clear hb3 c2 HTX
   go_wp2_with (at_builtin;refine wpList_append_own _ rfl _ _ 66 rfl w.heap.size 89 i0 (.agg #[.string ⟨#[]⟩,.string ⟨#[]⟩,.string ⟨#[]⟩]) 3 48 nD.ht hii hz0 hz1 hz2 nD.hzs nD.hsz _ i _ rfl (hrow3.alloc _) ⟨w3.heap.size,0,none⟩ 1 1 [.string su,.string tm,.string td] rfl rfl (jw _ _ _ _ _) (by simp [Value.oneCell']) (by unfold maxLen;omega) (by omega) (by simpa using Nat.le_succ_of_le hs3) ?_;intro v' w5 hown5 hg5 VV;have HOW:=hid hown5;have HG5:=hid hg5;clear hown5 hg5 VV)
   refine ⟨⟨i+1,hi,aH i,by rw [HD1.out],by rw [agm.out];exact HOW.out,?_⟩,?_⟩
   ·have h3:=HB.out.trans (HB3.out.mono HB.out.size)
    have h4:=h3.trans ((ae w3 (Obj.cells #[.string su,.string tm,.string td] 89)).mono h3.size)
    exact h4.grown HG5.out h4.size (fun j hj=>(hrow3.lt j hj).1)
   ·show n-((i:Int)+1).toNat<n-((i:Int)).toNat
    omega
  ·obtain rfl:i=n:=by omega
   have kn:decide ((i:Int)<(i:Int))=false:=decide_eq_false (by omega)
   have IX:decide (i<i)=false:=decide_eq_false (by omega)
   rw [HLL.out] at hrow
   have HR:=hid hrow
   clear hrow
   go_wp2
   go_ret
   exact ⟨_,rfl,HR.out,hbr⟩
def xH (s:Nat→Value) (D:bV):Array Value:=#[s 0,s 1,s 2,s 3,.int .u8 (D.cnt:Int),.int .u8 (D.st 0:Int),.int .u8 (D.st 1:Int),.int .u8 (D.st 2:Int),.int .u8 (D.st 3:Int),.int .i8 (D.tp 0),.int .i8 (D.tp 1),.int .i8 (D.tp 2),.int .i8 (D.tp 3),.int .u8 (D.co 0:Int),.int .u8 (D.co 1:Int),.int .u8 (D.co 2:Int),.int .u8 (D.co 3:Int)]
structure zZ (w:World) (s:Nat→Value) (D:bV):Prop where
 bts:∀ i,i<4→Yz w (s i) (D.lg i)
 cnt:D.cnt<256
 st:∀ i,i<4→D.st i<256
 tp:∀ i,i<4 → -128≤D.tp i∧D.tp i≤127
 co:∀ i,i<4→D.co i<256
theorem zZ.below {w w':World} {s:Nat→Value} {D:bV} (h:zZ w s D) (hb:Below w.heap.size w w'):zZ w' s D:=⟨fun i hi=>(h.bts i hi).below hb,h.cnt,h.st,h.tp,h.co⟩
theorem mr {P:Nat→Prop} (h0:P 0) (h1:P 1) (h2:P 2) (h3:P 3):∀ i,i<4→P i
 | 0,_=>h0
 | 1,_=>h1
 | 2,_=>h2
 | 3,_=>h3
 | _+4,h=>absurd h (by omega)
theorem mD {W:World} {B:Nat} {s:Nat→Value} {D:bV} {t:TypeId} {fz:Nat × Nat} (h:W.heap[B]?=some (.cells (xH s D) t fz)) :
  (∀ i,i<4→W.cell? ⟨B,i,none⟩=some (s i))∧W.cell? ⟨B,4,none⟩=some (.int .u8 (D.cnt:Int))∧(∀ i,i<4→W.cell? ⟨B,5+i,none⟩=some (.int .u8 (D.st i:Int)))∧(∀ i,i<4→W.cell? ⟨B,9+i,none⟩=some (.int .i8 (D.tp i)))∧(∀ i,i<4→W.cell? ⟨B,13+i,none⟩=some (.int .u8 (D.co i:Int))):=by
 unfold xH at h
 refine ⟨mr ?_ ?_ ?_ ?_,?_,mr ?_ ?_ ?_ ?_,mr ?_ ?_ ?_ ?_,mr ?_ ?_ ?_ ?_⟩ <;> simp [World.cell?,h]
def NL (D:bV):Bool:=(List.range 4).all fun i=>decide ((D.lg i).length≤4)
theorem xI (D:bV):NL D=true↔∀ i,i<4→(D.lg i).length≤4:=by
 unfold NL
 rw [List.all_eq_true]
 constructor
 ·intro h i hi
  exact of_decide_eq_true (h i (List.mem_range.2 hi))
 ·intro h i hi
  exact decide_eq_true (h i (List.mem_range.1 hi))
theorem K6 {w:World} (s:Nat→Value) (D:bV) (hP:zZ w s D):Calls Tryz.prog 13 #[.agg (xH s D)] w (RV (.bool (NL D)) w):=by
 unfold RV
 have hBB:∃ wB,wB=w.alloc (Obj.cells (xH s D) 28):=⟨_,rfl⟩
 obtain ⟨wB,jD⟩:=hBB
 have hb:Below w.heap.size w wB:=by rw [jD];exact ae _ _
 have hc:wB.heap[w.heap.size]?=some (.cells (xH s D) 28 (0,0)):=by rw [jD];exact World.alloc_heap_new _ _
 have HC:=hid (mD hc).1
 have HP:=hid hP
 have HB:=hid hb
 have yF:=hid jD
 clear jD hb hc hP
 unfold xH at *
 go_enter Tryz.func13,Tryz.ntmps13
 go_upto_region 1 with fail
 rw [←yF.out]
 go_wp2_with fail
 go_loopw [2,3] (fun r2 iv wr=>∃ i:Nat,i≤4∧iv=.int .i64 (i:Int)∧r2=.bool false∧wr=wB∧∀ j,j<i→(D.lg j).length≤4) (fun _ iv _=>4-(intOf iv).toNat)
 case atStart=>exact ⟨0,by decide,rfl,rfl,rfl,fun j hj=>absurd hj (Nat.not_lt_zero _)⟩
 case round =>
  obtain ⟨i,hi4,rfl,rfl,rfl,hall⟩:=hrel
  by_cases hi:i<4
  ·have kn:decide ((i:Int)<4)=true:=decide_eq_true (by omega)
   have IX:decide (i<4)=true:=decide_eq_true hi
   have i1:(0:Int)≤(i:Int):=by omega
   have i2:(i:Int)<4:=by omega
   have i5:IntKind.i64.wrap ((i:Int)+1)=(i:Int)+1:=IntWalk.i64_in _ (by omega)
   have c0:=HC.out i hi
   obtain ⟨p,c,hs,hcl,hcm⟩:=(HP.out.bts i hi).slice
   rw [hs] at c0
   unfold maxLen at hcm
   have SI:=hid hall
   generalize hn:(D.lg i).length=n at *
   have HN:=hid hn
   clear hall hs hn
   by_cases hn4:n≤4
   ·have kk:decide ((4:Int)<(n:Int))=false:=decide_eq_false (by omega)
    have kk2:decide (4<n)=false:=decide_eq_false (by omega)
    go_wp2
    refine ⟨⟨i+1,hi,aH i,by first | rfl | trivial,by first | rfl | trivial,fun j hj=>?_⟩,?_⟩
    ·rcases Nat.lt_or_ge j i with h | h
     ·exact SI.out j h
     ·obtain rfl:j=i:=by omega
      rw [HN.out]
      exact hn4
    ·show 4-((i:Int)+1).toNat<4-((i:Int)).toNat
     omega
   ·have kk:decide ((4:Int)<(n:Int))=true:=decide_eq_true (by omega)
    have kk2:decide (4<n)=true:=decide_eq_true (by omega)
    go_wp2
    go_ret
    have hf:NL D=false:=by
     cases h:NL D with
     | false=>rfl
     | true=>exact absurd ((xI D).1 h i hi) (by rw [HN.out];exact hn4)
    exact ⟨nX hf.symm,HB.out⟩
  ·obtain rfl:i=4:=by omega
   go_wp2
   go_ret
   exact ⟨nX ((xI D).2 hall).symm,HB.out⟩
def NM (L:List Rat):List Value:=L.map fun q=>.string (tx q)
structure Ay (base:Nat) (D:bV) (ig ia it:Nat) (vg va vt:Value) (U:List Value) (W:World):Prop where
 g:W.ownsRow base 66 1 vg ig U
 n:U.length=ig
 u:∀ j (h:j<U.length),W.ownsRow base 89 3 U[j] (D.lg j).length (zX (mJ (D.lg j)))
 a:W.ownsRow base 33 1 va ia (NM (Dy D ia))
 t:W.ownsRow base 33 1 vt it (NM (rP D it))
 ap:Cn va vt
theorem Ay.nil (base:Nat) (D:bV) (W:World):Ay base D 0 0 0 (.slice none 0 0) (.slice none 0 0) (.slice none 0 0) [] W:=
 ⟨World.ownsRow_nil _ _ _ _,rfl,fun _ h=>absurd h (Nat.not_lt_zero _),World.ownsRow_nil _ _ _ _,World.ownsRow_nil _ _ _ _,.inl rfl⟩
theorem Ay.kept {base:Nat} {D:bV} {ig ia it:Nat} {vg va vt:Value} {U:List Value} {W W':World} {row:Option Nat} (h:Ay base D ig ia it vg va vt U W) (hg:W.grownBy W' row) (hr:∀ r,row=some r→r<base):Ay base D ig ia it vg va vt U W':=by
 have hk:∀ {e:TypeId} {s n:Nat} {v:Value} {xs:List Value},W.ownsRow base e s v n xs→W'.ownsRow base e s v n xs:=fun {e s n v xs} ho=>ho.kept hg (by
  cases hv:v.ownBlock with
  | none=>exact .inl rfl
  | some k=>exact .inr fun e=>by have:=hr k e.symm;have:=(ho.lt k hv).1;omega)
 exact ⟨hk h.g,h.n,fun j hj=>hk (h.u j hj),hk h.a,hk h.t,h.ap⟩
theorem Ay.below {base:Nat} {D:bV} {ig ia it:Nat} {vg va vt:Value} {U:List Value} {W W':World} (h:Ay base D ig ia it vg va vt U W) (hb:Below W.heap.size W W'):Ay base D ig ia it vg va vt U W':=h.kept (je none hb) (fun r e=>by cases e)
theorem Ay.set {base:Nat} {D:bV} {ig ia it:Nat} {vg va vt:Value} {U:List Value} {W:World} (h:Ay base D ig ia it vg va vt U W) {B j:Nat} (hB:B<base) (v:Value):Ay base D ig ia it vg va vt U (W.setCell ⟨B,j,none⟩ v):=
 h.kept (bQ _ _ _ v) (fun r e=>by cases e;exact hB)
theorem Ay.aeI {base:Nat} {D:bV} {ig ia it:Nat} {vg vg' va vt u:Value} {U:List Value} {W W':World} (h:Ay base D ig ia it vg va vt U W) (hu:W.ownsRow base 89 3 u (D.lg ig).length (zX (mJ (D.lg ig))))
  (hg:W.grownBy W' vg.ownBlock) (hown:W'.ownsRow base 66 1 vg' (ig+1) (U ++ [u])):Ay base D (ig+1) ia it vg' va vt (U ++ [u]) W':=by
 refine ⟨hown,by rw [List.length_append,h.n];rfl,fun j hj=>?_,h.a.kept hg (eB h.a h.g (by decide)),h.t.kept hg (eB h.t h.g (by decide)),h.ap⟩
 rcases Nat.lt_or_ge j U.length with h1 | h1
 ·rw [List.getElem_append_left h1]
  exact (h.u j h1).kept hg (eB (h.u j h1) h.g (by decide))
 ·rw [List.length_append,List.length_singleton] at hj
  obtain rfl:j=U.length:=by omega
  rw [List.getElem_append_right (Nat.le_refl _)]
  simp only [Nat.sub_self,List.getElem_cons_zero]
  rw [h.n]
  exact hu.kept hg (eB hu h.g (by decide))
theorem Rp (D:bV) (i:Nat):NM (Dy D (i+1))=NM (Dy D i) ++ [.string (tx (hf (LG D i:Int)))]:=by unfold Dy NM;rw [List.range_succ];simp
theorem NN (D:bV) (i:Nat):NM (rP D (i+1))=NM (rP D i) ++ [.string (tx (hf ((D.tp i).tmod 8)))]:=by unfold rP NM;rw [List.range_succ];simp
theorem Ay.aeJ {base:Nat} {D:bV} {ig ia it:Nat} {vg va va' vt:Value} {U:List Value} {W W':World} (h:Ay base D ig ia it vg va vt U W)
  (hg:W.grownBy W' va.ownBlock) (hown:W'.ownsRow base 33 1 va' (ia+1) (NM (Dy D (ia+1)))) (hloc:va'.ownBlock=va.ownBlock∨∃ g,va'.ownBlock=some g∧W.heap.size≤g):Ay base D ig (ia+1) it vg va' vt U W':=by
 obtain ⟨h1,h2⟩:=Cn.grown h.ap.symm h.t hg hloc
 exact ⟨h.g.kept hg (eB h.g h.a (by decide)),h.n,fun j hj=>(h.u j hj).kept hg (eB (h.u j hj) h.a (by decide)),hown,h2,h1.symm⟩
theorem Ay.aeK {base:Nat} {D:bV} {ig ia it:Nat} {vg va vt vt':Value} {U:List Value} {W W':World} (h:Ay base D ig ia it vg va vt U W)
  (hg:W.grownBy W' vt.ownBlock) (hown:W'.ownsRow base 33 1 vt' (it+1) (NM (rP D (it+1)))) (hloc:vt'.ownBlock=vt.ownBlock∨∃ g,vt'.ownBlock=some g∧W.heap.size≤g):Ay base D ig ia (it+1) vg va vt' U W':=by
 obtain ⟨h1,h2⟩:=Cn.grown h.ap h.a hg hloc
 exact ⟨h.g.kept hg (eB h.g h.t (by decide)),h.n,fun j hj=>(h.u j hj).kept hg (eB (h.u j hj) h.t (by decide)),h2,hown,h1⟩
theorem z8 {W:World} {base n:Nat} {v:Value} {L:List Rat} (h:W.ownsRow base 33 1 v n (NM L)) (hn:L.length=n):nO W v (L.map tx):=by
 subst hn
 obtain ⟨_,p,c,rfl,hc,hm,hx⟩:=Reads.bO h
 refine ⟨p,c,by rw [List.length_map],by rw [List.length_map];exact hc,hm,fun h0=>?_⟩
 rw [List.length_map] at h0
 obtain ⟨b,off,hpe,hbl,hcell⟩:=hx h0
 refine ⟨b,off,hpe,hbl,fun i hi=>?_⟩
 rw [List.length_map] at hi
 have:=hcell i (by unfold NM;rw [List.length_map];exact hi)
 rw [this]
 unfold NM
 simp
theorem Ay.agn {base:Nat} {D:bV} {n:Nat} {vg va vt:Value} {U:List Value} {W:World} (h:Ay base D n n n vg va vt U W) (hn:n=nP D):ma W vg va vt (aY D):=by
 have hla:(Dy D n).length=n:=by unfold Dy;simp
 have hlt:(rP D n).length=n:=by unfold rP;simp
 refine ⟨?_,by rw [show (aY D).xs=Dy D n by rw [hn];rfl];exact z8 h.a hla,by rw [show (aY D).tp=rP D n by rw [hn];rfl];exact z8 h.t hlt⟩
 have Yr:(aY D).lg=Dx D n:=by rw [hn];rfl
 have hll:(Dx D n).length=n:=by unfold Dx;simp
 rw [Yr]
 obtain ⟨_,p,c,rfl,hc,hm,hx⟩:=Reads.bO h.g
 refine ⟨p,c,by rw [hll],by rw [hll];exact hc,hm,fun h0=>?_⟩
 rw [hll] at h0
 obtain ⟨b,off,hpe,hbl,hcell⟩:=hx h0
 refine ⟨b,off,hpe,hbl,fun k hk=>?_⟩
 rw [hll] at hk
 have hk':k<U.length:=by rw [h.n];exact hk
 refine ⟨U[k],?_,?_⟩
 ·exact hcell k hk'
 ·have e:(Dx D n).getD k []=mJ (D.lg k):=mq _ _ hk
  rw [e]
  have:=h.u k hk'
  rw [←gP] at this
  exact pW this
end Go.Proofs.YtglncfkoohgdaaaGreatDoor
