import Derived.Test.YtglncfkoohgdaaaGreatDoorG4R
import Derived.Test.YtglncfkoohgdaaaGreatDoorG20R
import Derived.Test.YtglncfkoohgdaaaGreatDoorT3R
import Derived.Test.YtglncfkoohgdaaaGreatDoorG40R
set_option maxRecDepth 100000
set_option maxHeartbeats 4000000
namespace Go.Proofs.YtglncfkoohgdaaaGreatDoor
structure Bt where
 g:Nat
 t:Nat
 u:Nat
def xX (n:Nat):List UInt8:=if n % 6=5 then [] else [UInt8.ofNat (97+n % 6)]
def hf (k:Int):Rat:=Rat.divInt k 2
theorem zn (k:Int):hf k*2=(k:Rat):=by
 unfold hf
 rw [Rat.divInt_eq_div]
 exact Rat.div_mul_cancel (by decide)
theorem Ai {k:Int} {n:Nat} (h:k.natAbs≤n):H2 n (hf k):=⟨k,h,zn k⟩
theorem abC {a b:Int} (h:a<b):hf a<hf b:=by
 have h1:=zn a
 have h2:=zn b
 have h3:(a:Rat)<(b:Rat):=Rat.intCast_lt_intCast.2 h
 grind
theorem aeZ {a b:Int} (h:a≤b):hf a≤hf b:=by
 have h1:=zn a
 have h2:=zn b
 have h3:(a:Rat)≤(b:Rat):=Rat.intCast_le_intCast.2 h
 grind
theorem oO {a:Int} (h:0≤a):0≤hf a:=by
 have h1:=zn a
 have h3:(0:Rat)≤(a:Rat):=by
  have:=Rat.intCast_le_intCast.2 h
  simpa using this
 grind
def jN (L:List Bt) (i:Nat):Bt:=L.getD i ⟨0,0,0⟩
def NK (L:List Bt):Nat→Nat
 | 0=>0
 | i+1=>NK L i+(jN L i).g % 3+(1+(jN L i).t % 6)
theorem II (L:List Bt):∀ i,NK L i≤8*i
 | 0=>Nat.le_refl _
 | i+1=>by
  have:=II L i
  show NK L i+(jN L i).g % 3+(1+(jN L i).t % 6)≤_
  omega
def ivB (L:List Bt) (i:Nat):Iv:=⟨xX (jN L i).u,hf ((NK L i+(jN L i).g % 3:Nat):Int),hf (NK L (i+1):Int)⟩
def nS (L:List Bt):List Iv:=(List.range L.length).map (ivB L)
theorem iJ (L:List Bt):(nS L).length=L.length:=by unfold nS;simp
theorem tN {L:List Bt} {i:Nat} (h:i<L.length):ah (nS L) i=ivB L i:=by
 unfold ah nS
 rw [List.getD_eq_getElem?_getD,List.getElem?_map,List.getElem?_range h]
 rfl
theorem Wd (n:Nat):rF (xX n):=by
 unfold xX
 split
 ·exact .inl rfl
 ·right
  have h:97+n % 6<256:=by omega
  have e:(UInt8.ofNat (97+n % 6)).toNat=97+n % 6:=by
   rw [UInt8.toNat_ofNat']
   exact Nat.mod_eq_of_lt h
  exact ⟨_,rfl,by omega,by omega⟩
theorem Pv {L:List Bt} (h:L.length≤8):Cx (nS L)∧∀ i,i<L.length→H2 64 (ah (nS L) i).a∧H2 64 (ah (nS L) i).b:=by
 have hb:∀ i,i<L.length→H2 64 (ah (nS L) i).a∧H2 64 (ah (nS L) i).b:=fun i hi=>by
  rw [tN hi]
  have h1:=II L i
  have h2:=II L (i+1)
  exact ⟨Ai (by omega),Ai (by omega)⟩
 refine ⟨⟨by rw [iJ];omega,fun i hi=>?_,fun i hi=>?_,fun i hi=>?_,fun i hi=>?_⟩,hb⟩
 ·rw [iJ] at hi
  rw [tN hi]
  exact Wd _
 ·rw [iJ] at hi
  exact ⟨(hb i hi).1.ok (by decide),(hb i hi).2.ok (by decide)⟩
 ·rw [iJ] at hi
  rw [tN hi]
  refine ⟨oO (by omega),abC ?_⟩
  show ((NK L i+(jN L i).g % 3:Nat):Int)<((NK L i+(jN L i).g % 3+(1+(jN L i).t % 6):Nat):Int)
  omega
 ·rw [iJ] at hi
  rw [tN hi,tN (show i<L.length by omega)]
  exact aeZ (by omega)
structure dD where
 lg:Nat→List Bt
 cnt:Nat
 st:Nat→Nat
 tp:Nat→Int
 co:Nat→Nat
def nP (D:dD):Nat:=2+D.cnt % 3
def LJ (D:dD):Nat→Nat
 | 0=>0
 | i+1=>LJ D i+(1+D.st i % 6)
theorem NL (D:dD):∀ i,LJ D i≤6*i
 | 0=>Nat.le_refl _
 | i+1=>by
  have:=NL D i
  show LJ D i+(1+D.st i % 6)≤_
  omega
def Y3 (D:dD):Cs:=⟨hf (D.co 0 % 8:Nat),hf (D.co 1 % 8:Nat),hf (D.co 2 % 8:Nat),hf (D.co 3 % 8:Nat)⟩
def Gi (D:dD) (n:Nat):List (List Iv):=(List.range n).map fun i=>nS (D.lg i)
def DL (D:dD) (n:Nat):List Rat:=(List.range n).map fun i=>hf (LJ D i:Int)
def rZ (D:dD) (n:Nat):List Rat:=(List.range n).map fun i=>hf ((D.tp i).tmod 8)
def iq (D:dD):bQ:=⟨Gi D (nP D),DL D (nP D),rZ D (nP D),Y3 D⟩
theorem qg {α:Type} (f:Nat→α) (d:α) {n i:Nat} (h:i<n):((List.range n).map f).getD i d=f i:=by
 rw [List.getD_eq_getElem?_getD,List.getElem?_map,List.getElem?_range h]
 rfl
theorem aaO {D:dD} (h4:∀ i,i<4→(D.lg i).length≤4):dm (iq D):=by
 have hn:nP D≤4∧2≤nP D:=by unfold nP;omega
 have hl:(iq D).lg.length=nP D:=by unfold iq Gi;simp
 have e1:∀ k,k<nP D→ai (iq D) k=nS (D.lg k):=fun k hk=>qg _ _ hk
 have e2:∀ k,k<nP D→cZ (iq D) k=hf (LJ D k:Int):=fun k hk=>qg _ _ hk
 have e3:∀ k,k<nP D→bG (iq D) k=hf ((D.tp k).tmod 8):=fun k hk=>qg _ _ hk
 have ht:∀ k:Nat,((k % 8:Nat):Int).natAbs≤16:=fun k=>by omega
 refine ⟨by omega,by omega,by rw [hl];unfold iq DL;simp,by rw [hl];unfold iq rZ;simp,fun k hk=>?_,fun k i hk hi=>?_,fun k hk=>?_,fun k hk=>?_,fun k hk=>?_,⟨Ai (ht _),Ai (ht _),Ai (ht _),Ai (ht _)⟩,⟨oO (by omega),oO (by omega),oO (by omega),oO (by omega)⟩⟩
 ·rw [hl] at hk
  rw [e1 k hk,iJ]
  have:=h4 k (by omega)
  exact ⟨(Pv (by omega)).1,by omega⟩
 ·rw [hl] at hk
  rw [e1 k hk] at hi ⊢
  rw [iJ] at hi
  have:=h4 k (by omega)
  exact (Pv (by omega)).2 i hi
 ·rw [hl] at hk
  rw [e2 k hk]
  have:=NL D k
  exact Ai (by omega)
 ·rw [hl] at hk
  rw [e3 k hk]
  have h1:=Int.tmod_lt_of_pos (D.tp k) (show (0:Int)<8 by decide)
  have h2:=Int.lt_tmod_of_pos (D.tp k) (show (0:Int)<8 by decide)
  exact Ai (by omega)
 ·rw [hl] at hk
  rw [e2 k (by omega),e2 (k+1) hk]
  refine abC ?_
  show (LJ D k:Int)<((LJ D k+(1+D.st k % 6):Nat):Int)
  omega
open Go.RowKit Go.Shelf
open Go.Lib (decDigits itoa nDigits)
open Go.Lib (hid)
theorem aaP (a b:ByteArray) (n d:Int) (ha:eP a n) (hb:eP b d) (hn0:0≤n) (hdp:0<d) (hdl:d<1000000000) (hsa:a.size≤17) (hsb:b.size≤17) (w:World) (hw:Good w) :
  Calls Tryz.prog 167 #[.string a,.string b] w (RV (.tuple #[.string (tx (Rat.divInt n d)),.int .i64 0]) w):=by
 have HS:=hid (fun w'=>jm b d hb w')
 have HL:=hid (fun w' (hg:Good w')=>Au a b n d ha hb hn0 hdp hdl (by omega) (by omega) w' hg)
 have HU:=hid (fun (r:ByteArray) (h:gN r (Rat.divInt n d))=>show r=tx (Rat.divInt n d) from h.unique (bU _))
 have hs:((mK d:Int) == 0)=false:=by
  refine beq_false_of_ne fun h=>(show d≠0 by omega) ?_
  rcases Int.lt_trichotomy d 0 with h1 | h1 | h1
  ·rw [wh h1] at h;simp at h
  ·exact h1
  ·rw [sK h1] at h;simp at h
 generalize tx (Rat.divInt n d)=t at *
 generalize mK d=sd at *
 clear ha hb
 go_enter Tryz.func167,Tryz.ntmps167
 go_wp2_with fail
 refine (HS.out w).mono ?_
 rintro e w1 ⟨rfl,rfl⟩
 go_wp2_with fail
 refine (HL.out _ hw).mono ?_
 rintro e w2 ⟨r,rfl,hr,hb2⟩
 obtain rfl:=HU.out r hr
 clear hr
 go_wp2
 go_ret2
 exact ⟨rfl,hb2⟩
theorem La {s:ByteArray} {n:Int} (h:eP s n) (h1:n.natAbs≤1000000):s.size≤9:=by
 rw [h.size]
 exact itoa_length_le n (k:=8) (by omega) (by omega)
theorem adi (n d:Int) (hn0:0≤n) (hn1:n≤1000000) (hd0:0<d) (hd1:d≤1000000) (_hd:d≠0) (w:World) (hw:Good w) :
  Calls Tryz.prog 93 #[.int .i64 n,.int .i64 d] w (RV (.tuple #[.string (tx (Rat.divInt n d)),.int .i64 0]) w):=by
 have HX:=hid (fun w' (hg:Good w')=>uV n (by omega) (by omega) w' hg)
 have HY:=hid (fun w' (hg:Good w')=>uV d (by omega) (by omega) w' hg)
 have HN:=hid (fun (a b:ByteArray) (ha:eP a n) (hb:eP b d) w' (hg:Good w')=>aaP a b n d ha hb hn0 hd0 (by omega) (Nat.le_trans (La ha (by omega)) (by decide)) (Nat.le_trans (La hb (by omega)) (by decide)) w' hg)
 unfold RV at HN
 generalize tx (Rat.divInt n d)=t at *
 clear hn0 hn1 hd0 hd1 _hd
 go_enter Tryz.func93,Tryz.ntmps93
 go_wp2_with fail
 refine (HX.out w hw).mono ?_
 rintro e w1 ⟨a,rfl,ha,hb1⟩
 have HA:=hid ha
 clear ha
 go_wp2_with fail
 refine (HY.out _ (hw.below hb1)).mono ?_
 rintro e w2 ⟨b,rfl,hb,hb2⟩
 have HB:=hid hb
 have adj:=hb1.trans (hb2.mono hb1.size)
 clear hb
 go_wp2_with fail
 refine (HN.out a b HA.out HB.out _ (hw.below adj)).mono ?_
 rintro e w3 ⟨rfl,hb3⟩
 go_wp2
 go_ret2
 exact ⟨rfl,adj.trans (hb3.mono adj.size)⟩
theorem oP (a b:Nat):Int.tmod (a:Int) (b:Int)=((a % b:Nat):Int):=by
 rw [Int.tmod_eq_emod_of_nonneg (by omega)]
 simp
theorem Rn (n:Nat) (_hn:n<256) (w:World):Calls Tryz.prog 94 #[.int .u8 (n:Int)] w (RV (.string (us (xX n))) w):=by
 have h6:Int.tmod (n:Int) 6=((n % 6:Nat):Int):=oP n 6
 have hr:n % 6<6:=Nat.mod_lt _ (by decide)
 have hu:us (xX n)=us (xX (n % 6)):=by unfold xX;rw [Nat.mod_mod]
 rw [hu]
 clear hu
 generalize n % 6=r at *
 have hr':r=0∨r=1∨r=2∨r=3∨r=4∨r=5:=by omega
 go_enter Tryz.func94,Tryz.ntmps94
 rcases hr' with rfl | rfl | rfl | rfl | rfl | rfl
 all_goals
  go_wp2
  go_ret
  exact ⟨rfl,ae _ _⟩
def Y4 (w:World) (v:Value) (L:List Bt):Prop:=(∃ p c,v=.slice p L.length c∧L.length≤c∧c≤maxLen∧(0<L.length→∃ b off,p=some ⟨b,off,none⟩∧b<w.heap.size ∧
 ∀ i,i<L.length→w.cell? ⟨b,off+i*3,none⟩=some (.int .u8 ((jN L i).g:Int))∧w.cell? ⟨b,off+i*3+1,none⟩=some (.int .u8 ((jN L i).t:Int))∧w.cell? ⟨b,off+i*3+2,none⟩=some (.int .u8 ((jN L i).u:Int)))) ∧
 ∀ i,i<L.length→(jN L i).g<256∧(jN L i).t<256∧(jN L i).u<256
theorem Y4.below {w w':World} {v:Value} {L:List Bt} (h:Y4 w v L) (hb:Below w.heap.size w w'):Y4 w' v L:=by
 obtain ⟨⟨p,c,h1,h2,h3,h4⟩,h5⟩:=h
 refine ⟨⟨p,c,h1,h2,h3,fun h0=>?_⟩,h5⟩
 obtain ⟨b,off,k1,k2,k3⟩:=h4 h0
 refine ⟨b,off,k1,Nat.lt_of_lt_of_le k2 hb.size,fun i hi=>?_⟩
 obtain ⟨m1,m2,m3⟩:=k3 i hi
 exact ⟨(hb.cell (p:=⟨b,off+i*3,none⟩) k2).trans m1,(hb.cell (p:=⟨b,off+i*3+1,none⟩) k2).trans m2,(hb.cell (p:=⟨b,off+i*3+2,none⟩) k2).trans m3⟩
theorem Y4.slice {w:World} {v:Value} {L:List Bt} (h:Y4 w v L):∃ p c,v=.slice p L.length c∧L.length≤c∧c≤maxLen:=by
 obtain ⟨⟨p,c,h1,h2,h3,_⟩,_⟩:=h
 exact ⟨p,c,h1,h2,h3⟩
theorem Y4.at {w:World} {p:Option Addr} {n c:Nat} {L:List Bt} (h:Y4 w (.slice p n c) L) {i:Nat} (hi:i<L.length):∃ b off,p=some ⟨b,off,none⟩∧b<w.heap.size ∧
  w.cell? ⟨b,off+i*3,none⟩=some (.int .u8 ((jN L i).g:Int))∧w.cell? ⟨b,off+i*3+1,none⟩=some (.int .u8 ((jN L i).t:Int))∧w.cell? ⟨b,off+i*3+2,none⟩=some (.int .u8 ((jN L i).u:Int)):=by
 obtain ⟨⟨p',c',h1,h2,h3,h4⟩,_⟩:=h
 cases h1
 obtain ⟨b,off,k1,k2,k3⟩:=h4 (by omega)
 exact ⟨b,off,k1,k2,k3 i hi⟩
theorem We (k:Nat) (hk:k≤1000) (w:World) (hw:Good w):Calls Tryz.prog 93 #[.int .i64 (k:Int),.int .i64 2] w (RV (.tuple #[.string (tx (hf (k:Int))),.int .i64 0]) w):=adi (k:Int) 2 (by omega) (by omega) (by decide) (by decide) (by decide) w hw
theorem Ro {L:List Bt} {i:Nat} (h:i<L.length):Af ((nS L).take (i+1))=Af ((nS L).take i) ++ [.string (us (xX (jN L i).u)),.string (tx (hf ((NK L i+(jN L i).g % 3:Nat):Int))),.string (tx (hf (NK L (i+1):Int)))]:=by
 have hl:i<(nS L).length:=by rw [iJ];exact h
 have e:=tN h
 rw [Dz hl] at e
 rw [List.take_succ_eq_append_getElem hl,K3,e]
 rfl
theorem Wh {w:World} (v:Value) (L:List Bt) (h8:L.length≤8) (hv:Y4 w v L) (hw:Good w) :
  Calls Tryz.prog 35 #[v] w fun e w'=>∃ v',e=.returned v'∧w'.ownsRow w.heap.size 89 3 v' L.length (Af (nS L))∧Below w.heap.size w w':=by
 obtain ⟨p,c,rfl,hc,hcm⟩:=hv.slice
 unfold maxLen at hcm
 have HV:=hid hv
 have HOF:=hid (fun (k:Nat) (hk:k≤1000) w' (hg:Good w')=>We k hk w' hg)
 have Uh:=hid (fun (k:Nat) (hk:k<256) w'=>Rn k hk w')
 have HTK:=hid (fun i (hi:i<L.length)=>Ro hi)
 have HDP:=hid (II L)
 have HD0:=hid (show (0:Int)=(NK L 0:Int) from rfl)
 have QE:=hid (fun i=>show NK L (i+1)=NK L i+(jN L i).g % 3+(1+(jN L i).t % 6) from rfl)
 have HLL:=hid (show Af ((nS L).take L.length)=Af (nS L) by rw [←iJ L,List.take_length])
 unfold RV at HOF Uh
 generalize hn:L.length=n at *
 have HN:=hid hn
 clear hv hn
 go_enter Tryz.func35,Tryz.ntmps35
 go_wp2_with fail
 go_loopw [3,4,5,6,7,8,9] (fun vo dv iv _ _ _ _ wr=>∃ i:Nat,i≤n∧iv=.int .i64 (i:Int)∧dv=.int .i64 (NK L i:Int)∧wr.ownsRow w.heap.size 89 3 vo i (Af ((nS L).take i))∧Below w.heap.size w wr) (fun _ _ iv _ _ _ _ _=>n-(intOf iv).toNat)
 case atStart=>exact ⟨0,Nat.zero_le _,rfl,rfl,World.ownsRow_nil _ _ _ _,Below.refl _ _⟩
 case round =>
  obtain ⟨i,hin,rfl,rfl,hrow,hbr⟩:=hrel
  by_cases hi:i<n
  ·have kn:decide ((i:Int)<(n:Int))=true:=decide_eq_true (by omega)
   have Jc:decide (i<n)=true:=decide_eq_true hi
   have k8:decide ((i:Int)<8)=true:=decide_eq_true (by omega)
   have k82:decide (i<8)=true:=decide_eq_true (by omega)
   have i1:(0:Int)≤(i:Int):=by omega
   have i2:(i:Int)<(n:Int):=by omega
   have i5:IntKind.i64.wrap ((i:Int)+1)=(i:Int)+1:=IntWalk.i64_in _ (by omega)
   obtain ⟨b,off,rfl,hbl,c0,c1,c2⟩:=(HV.out.below hbr).at (show i<L.length by rw [HN.out];exact hi)
   obtain ⟨hg,ht,hu⟩:=HV.out.2 i (by rw [HN.out];exact hi)
   have htk:=HTK.out i hi
   have hds:=QE.out i
   have hd:=HDP.out i
   have hd2:=HDP.out (i+1)
   have HDN:=hid hds
   generalize hd1:NK L (i+1)=d2 at *
   generalize NK L i=d at *
   generalize (jN L i).g=g at *
   generalize (jN L i).t=t at *
   generalize (jN L i).u=u at *
   obtain ⟨m,hm⟩ : ∃ m,m=d+g % 3:=⟨_,rfl⟩
   rw [←hm] at htk
   have a1:Int.tmod (g:Int) 3=((g % 3:Nat):Int):=oP g 3
   have a2:Int.tmod (t:Int) 6=((t % 6:Nat):Int):=oP t 6
   obtain ⟨q,hq⟩ : ∃ q,q=1+t % 6:=⟨_,rfl⟩
   have a3:IntKind.i64.wrap ((d:Int)+(g:Int) % 3)=(m:Int):=by rw [IntWalk.i64_in _ (by omega)];omega
   have a4:IntKind.i64.wrap (1+(t:Int) % 6)=(q:Int):=by rw [IntWalk.i64_in _ (by omega)];omega
   have a5:IntKind.i64.wrap ((m:Int)+(q:Int))=(d2:Int):=by rw [IntWalk.i64_in _ (by omega)];omega
   have HM:=hid (show m≤1000 by omega)
   have HD2:=hid (show d2≤1000 by omega)
   have agI:=hid htk
   have HD1:=hid hd1
   have HR:=hid hrow
   have HB:=hid hbr
   clear hds hm hd1 htk hrow hbr hd hd2 hq
   obtain ⟨i0,hii,hz0,hz1,hz2⟩:=info_parts nC.info
   go_wp2_with fail
   refine (HOF.out m HM.out wr (hw.below HB.out)).mono ?_
   rintro e w1 ⟨rfl,hb1⟩
   have c1:=(hb1.cell (p:=⟨b,off+i*3+1,none⟩) hbl).trans c1
   have c2:=(hb1.cell (p:=⟨b,off+i*3+2,none⟩) hbl).trans c2
   have M5:=Nat.lt_of_lt_of_le hbl hb1.size
   have HB1:=hid hb1
   clear hb1 c0
   go_wp2_with fail
   refine (HOF.out d2 HD2.out w1 (hw.below (HB.out.trans (HB1.out.mono HB.out.size)))).mono ?_
   rintro e w2 ⟨rfl,hb2⟩
   have c2:=(hb2.cell (p:=⟨b,off+i*3+2,none⟩) M5).trans c2
   have DF:=Nat.lt_of_lt_of_le M5 hb2.size
   have HB2:=hid (HB1.out.trans (hb2.mono HB1.out.size))
   clear hb2 c1
   go_wp2_with fail
   refine (Uh.out u hu w2).mono ?_
   rintro e w3 ⟨rfl,hb3⟩
   have HB3:=hid (HB2.out.trans (hb3.mono HB2.out.size))
   have hrow3:=lZ HR.out HB3.out
   have hs3:w.heap.size≤w3.heap.size:=Nat.le_trans HB.out.size HB3.out.size
   have HTX:=agI.out
   generalize us (xX u)=su at *
   generalize tx (hf (m:Int))=tm at *
   generalize tx (hf (d2:Int))=td at *
   have agJ:=hid HTX
   clear hb3 c2 HTX
   go_wp2_with (at_builtin;refine wpList_append_own _ rfl _ _ 66 rfl w.heap.size 89 i0 (.agg #[.string ⟨#[]⟩,.string ⟨#[]⟩,.string ⟨#[]⟩]) 3 48 nC.ht hii hz0 hz1 hz2 nC.hzs nC.hsz _ i _ rfl (hrow3.alloc _) ⟨w3.heap.size,0,none⟩ 1 1 [.string su,.string tm,.string td] rfl rfl (jw _ _ _ _ _) (by simp [Value.oneCell']) (by unfold maxLen;omega) (by omega) (by simpa using Nat.le_succ_of_le hs3) ?_;intro v' w5 hown5 hg5 xW;have HOW:=hid hown5;have Wi:=hid hg5;clear hown5 hg5 xW)
   refine ⟨⟨i+1,hi,aA i,by rw [HD1.out],by rw [agJ.out];exact HOW.out,?_⟩,?_⟩
   ·have h3:=HB.out.trans (HB3.out.mono HB.out.size)
    have h4:=h3.trans ((ae w3 (Obj.cells #[.string su,.string tm,.string td] 89)).mono h3.size)
    exact h4.grown Wi.out h4.size (fun j hj=>(hrow3.lt j hj).1)
   ·show n-((i:Int)+1).toNat<n-((i:Int)).toNat
    omega
  ·obtain rfl:i=n:=by omega
   have kn:decide ((i:Int)<(i:Int))=false:=decide_eq_false (by omega)
   have Jc:decide (i<i)=false:=decide_eq_false (by omega)
   rw [HLL.out] at hrow
   have HR:=hid hrow
   clear hrow
   go_wp2
   go_ret
   exact ⟨_,rfl,HR.out,hbr⟩
def EB (s:Nat→Value) (D:dD):Array Value:=#[s 0,s 1,s 2,s 3,.int .u8 (D.cnt:Int),.int .u8 (D.st 0:Int),.int .u8 (D.st 1:Int),.int .u8 (D.st 2:Int),.int .u8 (D.st 3:Int),.int .i8 (D.tp 0),.int .i8 (D.tp 1),.int .i8 (D.tp 2),.int .i8 (D.tp 3),.int .u8 (D.co 0:Int),.int .u8 (D.co 1:Int),.int .u8 (D.co 2:Int),.int .u8 (D.co 3:Int)]
structure DN (w:World) (s:Nat→Value) (D:dD):Prop where
 bts:∀ i,i<4→Y4 w (s i) (D.lg i)
 cnt:D.cnt<256
 st:∀ i,i<4→D.st i<256
 tp:∀ i,i<4 → -128≤D.tp i∧D.tp i≤127
 co:∀ i,i<4→D.co i<256
theorem DN.below {w w':World} {s:Nat→Value} {D:dD} (h:DN w s D) (hb:Below w.heap.size w w'):DN w' s D:=⟨fun i hi=>(h.bts i hi).below hb,h.cnt,h.st,h.tp,h.co⟩
theorem mr {P:Nat→Prop} (h0:P 0) (h1:P 1) (h2:P 2) (h3:P 3):∀ i,i<4→P i
 | 0,_=>h0
 | 1,_=>h1
 | 2,_=>h2
 | 3,_=>h3
 | _+4,h=>absurd h (by omega)
theorem mD {W:World} {B:Nat} {s:Nat→Value} {D:dD} {t:TypeId} {fz:Nat × Nat} (h:W.heap[B]?=some (.cells (EB s D) t fz)) :
  (∀ i,i<4→W.cell? ⟨B,i,none⟩=some (s i))∧W.cell? ⟨B,4,none⟩=some (.int .u8 (D.cnt:Int))∧(∀ i,i<4→W.cell? ⟨B,5+i,none⟩=some (.int .u8 (D.st i:Int)))∧(∀ i,i<4→W.cell? ⟨B,9+i,none⟩=some (.int .i8 (D.tp i)))∧(∀ i,i<4→W.cell? ⟨B,13+i,none⟩=some (.int .u8 (D.co i:Int))):=by
 unfold EB at h
 refine ⟨mr ?_ ?_ ?_ ?_,?_,mr ?_ ?_ ?_ ?_,mr ?_ ?_ ?_ ?_,mr ?_ ?_ ?_ ?_⟩ <;> simp [World.cell?,h]
def Rp (D:dD):Bool:=(List.range 4).all fun i=>decide ((D.lg i).length≤4)
theorem DR (D:dD):Rp D=true↔∀ i,i<4→(D.lg i).length≤4:=by
 unfold Rp
 rw [List.all_eq_true]
 constructor
 ·intro h i hi
  exact of_decide_eq_true (h i (List.mem_range.2 hi))
 ·intro h i hi
  exact decide_eq_true (h i (List.mem_range.1 hi))
theorem Wj {w:World} (s:Nat→Value) (D:dD) (hP:DN w s D):Calls Tryz.prog 13 #[.agg (EB s D)] w (RV (.bool (Rp D)) w):=by
 unfold RV
 have hBB:∃ wB,wB=w.alloc (Obj.cells (EB s D) 28):=⟨_,rfl⟩
 obtain ⟨wB,iy⟩:=hBB
 have hb:Below w.heap.size w wB:=by rw [iy];exact ae _ _
 have hc:wB.heap[w.heap.size]?=some (.cells (EB s D) 28 (0,0)):=by rw [iy];exact World.alloc_heap_new _ _
 have HC:=hid (mD hc).1
 have HP:=hid hP
 have HB:=hid hb
 have xJ:=hid iy
 clear iy hb hc hP
 unfold EB at *
 go_enter Tryz.func13,Tryz.ntmps13
 go_upto_region 1 with fail
 rw [←xJ.out]
 go_wp2_with fail
 go_loopw [2,3] (fun r2 iv wr=>∃ i:Nat,i≤4∧iv=.int .i64 (i:Int)∧r2=.bool false∧wr=wB∧∀ j,j<i→(D.lg j).length≤4) (fun _ iv _=>4-(intOf iv).toNat)
 case atStart=>exact ⟨0,by decide,rfl,rfl,rfl,fun j hj=>absurd hj (Nat.not_lt_zero _)⟩
 case round =>
  obtain ⟨i,hi4,rfl,rfl,rfl,hall⟩:=hrel
  by_cases hi:i<4
  ·have kn:decide ((i:Int)<4)=true:=decide_eq_true (by omega)
   have Jc:decide (i<4)=true:=decide_eq_true hi
   have i1:(0:Int)≤(i:Int):=by omega
   have i2:(i:Int)<4:=by omega
   have i5:IntKind.i64.wrap ((i:Int)+1)=(i:Int)+1:=IntWalk.i64_in _ (by omega)
   have c0:=HC.out i hi
   obtain ⟨p,c,hs,hcl,hcm⟩:=(HP.out.bts i hi).slice
   rw [hs] at c0
   unfold maxLen at hcm
   have SX:=hid hall
   generalize hn:(D.lg i).length=n at *
   have HN:=hid hn
   clear hall hs hn
   by_cases hn4:n≤4
   ·have kk:decide ((4:Int)<(n:Int))=false:=decide_eq_false (by omega)
    have kk2:decide (4<n)=false:=decide_eq_false (by omega)
    go_wp2
    refine ⟨⟨i+1,hi,aA i,by first | rfl | trivial,by first | rfl | trivial,fun j hj=>?_⟩,?_⟩
    ·rcases Nat.lt_or_ge j i with h | h
     ·exact SX.out j h
     ·obtain rfl:j=i:=by omega
      rw [HN.out]
      exact hn4
    ·show 4-((i:Int)+1).toNat<4-((i:Int)).toNat
     omega
   ·have kk:decide ((4:Int)<(n:Int))=true:=decide_eq_true (by omega)
    have kk2:decide (4<n)=true:=decide_eq_true (by omega)
    go_wp2
    go_ret
    have hf:Rp D=false:=by
     cases h:Rp D with
     | false=>rfl
     | true=>exact absurd ((DR D).1 h i hi) (by rw [HN.out];exact hn4)
    exact ⟨BK hf.symm,HB.out⟩
  ·obtain rfl:i=4:=by omega
   go_wp2
   go_ret
   exact ⟨BK ((DR D).2 hall).symm,HB.out⟩
def NM (L:List Rat):List Value:=L.map fun q=>.string (tx q)
structure AJ (base:Nat) (D:dD) (ig ia it:Nat) (vg va vt:Value) (U:List Value) (W:World):Prop where
 g:W.ownsRow base 66 1 vg ig U
 n:U.length=ig
 u:∀ j (h:j<U.length),W.ownsRow base 89 3 U[j] (D.lg j).length (Af (nS (D.lg j)))
 a:W.ownsRow base 33 1 va ia (NM (DL D ia))
 t:W.ownsRow base 33 1 vt it (NM (rZ D it))
 ap:Cu va vt
theorem AJ.nil (base:Nat) (D:dD) (W:World):AJ base D 0 0 0 (.slice none 0 0) (.slice none 0 0) (.slice none 0 0) [] W:=
 ⟨World.ownsRow_nil _ _ _ _,rfl,fun _ h=>absurd h (Nat.not_lt_zero _),World.ownsRow_nil _ _ _ _,World.ownsRow_nil _ _ _ _,.inl rfl⟩
theorem AJ.kept {base:Nat} {D:dD} {ig ia it:Nat} {vg va vt:Value} {U:List Value} {W W':World} {row:Option Nat} (h:AJ base D ig ia it vg va vt U W) (hg:W.grownBy W' row) (hr:∀ r,row=some r→r<base):AJ base D ig ia it vg va vt U W':=by
 have hk:∀ {e:TypeId} {s n:Nat} {v:Value} {xs:List Value},W.ownsRow base e s v n xs→W'.ownsRow base e s v n xs:=fun {e s n v xs} ho=>ho.kept hg (by
  cases hv:v.ownBlock with
  | none=>exact .inl rfl
  | some k=>exact .inr fun e=>by have:=hr k e.symm;have:=(ho.lt k hv).1;omega)
 exact ⟨hk h.g,h.n,fun j hj=>hk (h.u j hj),hk h.a,hk h.t,h.ap⟩
theorem AJ.below {base:Nat} {D:dD} {ig ia it:Nat} {vg va vt:Value} {U:List Value} {W W':World} (h:AJ base D ig ia it vg va vt U W) (hb:Below W.heap.size W W'):AJ base D ig ia it vg va vt U W':=h.kept (jd none hb) (fun r e=>by cases e)
theorem AJ.set {base:Nat} {D:dD} {ig ia it:Nat} {vg va vt:Value} {U:List Value} {W:World} (h:AJ base D ig ia it vg va vt U W) {B j:Nat} (hB:B<base) (v:Value):AJ base D ig ia it vg va vt U (W.setCell ⟨B,j,none⟩ v):=
 h.kept (bK _ _ _ v) (fun r e=>by cases e;exact hB)
theorem AJ.ae0 {base:Nat} {D:dD} {ig ia it:Nat} {vg vg' va vt u:Value} {U:List Value} {W W':World} (h:AJ base D ig ia it vg va vt U W) (hu:W.ownsRow base 89 3 u (D.lg ig).length (Af (nS (D.lg ig))))
  (hg:W.grownBy W' vg.ownBlock) (hown:W'.ownsRow base 66 1 vg' (ig+1) (U ++ [u])):AJ base D (ig+1) ia it vg' va vt (U ++ [u]) W':=by
 refine ⟨hown,by rw [List.length_append,h.n];rfl,fun j hj=>?_,h.a.kept hg (dn h.a h.g (by decide)),h.t.kept hg (dn h.t h.g (by decide)),h.ap⟩
 rcases Nat.lt_or_ge j U.length with h1 | h1
 ·rw [List.getElem_append_left h1]
  exact (h.u j h1).kept hg (dn (h.u j h1) h.g (by decide))
 ·rw [List.length_append,List.length_singleton] at hj
  obtain rfl:j=U.length:=by omega
  rw [List.getElem_append_right (Nat.le_refl _)]
  simp only [Nat.sub_self,List.getElem_cons_zero]
  rw [h.n]
  exact hu.kept hg (dn hu h.g (by decide))
theorem Rq (D:dD) (i:Nat):NM (DL D (i+1))=NM (DL D i) ++ [.string (tx (hf (LJ D i:Int)))]:=by unfold DL NM;rw [List.range_succ];simp
theorem NN (D:dD) (i:Nat):NM (rZ D (i+1))=NM (rZ D i) ++ [.string (tx (hf ((D.tp i).tmod 8)))]:=by unfold rZ NM;rw [List.range_succ];simp
theorem AJ.ae1 {base:Nat} {D:dD} {ig ia it:Nat} {vg va va' vt:Value} {U:List Value} {W W':World} (h:AJ base D ig ia it vg va vt U W)
  (hg:W.grownBy W' va.ownBlock) (hown:W'.ownsRow base 33 1 va' (ia+1) (NM (DL D (ia+1)))) (hloc:va'.ownBlock=va.ownBlock∨∃ g,va'.ownBlock=some g∧W.heap.size≤g):AJ base D ig (ia+1) it vg va' vt U W':=by
 obtain ⟨h1,h2⟩:=Cu.grown h.ap.symm h.t hg hloc
 exact ⟨h.g.kept hg (dn h.g h.a (by decide)),h.n,fun j hj=>(h.u j hj).kept hg (dn (h.u j hj) h.a (by decide)),hown,h2,h1.symm⟩
theorem AJ.ae2 {base:Nat} {D:dD} {ig ia it:Nat} {vg va vt vt':Value} {U:List Value} {W W':World} (h:AJ base D ig ia it vg va vt U W)
  (hg:W.grownBy W' vt.ownBlock) (hown:W'.ownsRow base 33 1 vt' (it+1) (NM (rZ D (it+1)))) (hloc:vt'.ownBlock=vt.ownBlock∨∃ g,vt'.ownBlock=some g∧W.heap.size≤g):AJ base D ig ia (it+1) vg va vt' U W':=by
 obtain ⟨h1,h2⟩:=Cu.grown h.ap h.a hg hloc
 exact ⟨h.g.kept hg (dn h.g h.t (by decide)),h.n,fun j hj=>(h.u j hj).kept hg (dn (h.u j hj) h.t (by decide)),h2,hown,h1⟩
theorem Aj {W:World} {base n:Nat} {v:Value} {L:List Rat} (h:W.ownsRow base 33 1 v n (NM L)) (hn:L.length=n):tX W v (L.map tx):=by
 subst hn
 obtain ⟨_,p,c,rfl,hc,hm,hx⟩:=Reads.bu h
 refine ⟨p,c,by rw [List.length_map],by rw [List.length_map];exact hc,hm,fun h0=>?_⟩
 rw [List.length_map] at h0
 obtain ⟨b,off,hpe,hbl,hcell⟩:=hx h0
 refine ⟨b,off,hpe,hbl,fun i hi=>?_⟩
 rw [List.length_map] at hi
 have:=hcell i (by unfold NM;rw [List.length_map];exact hi)
 rw [this]
 unfold NM
 simp
theorem AJ.agK {base:Nat} {D:dD} {n:Nat} {vg va vt:Value} {U:List Value} {W:World} (h:AJ base D n n n vg va vt U W) (hn:n=nP D):l9 W vg va vt (iq D):=by
 have hla:(DL D n).length=n:=by unfold DL;simp
 have hlt:(rZ D n).length=n:=by unfold rZ;simp
 refine ⟨?_,by rw [show (iq D).xs=DL D n by rw [hn];rfl];exact Aj h.a hla,by rw [show (iq D).tp=rZ D n by rw [hn];rfl];exact Aj h.t hlt⟩
 have YW:(iq D).lg=Gi D n:=by rw [hn];rfl
 have hll:(Gi D n).length=n:=by unfold Gi;simp
 rw [YW]
 obtain ⟨_,p,c,rfl,hc,hm,hx⟩:=Reads.bu h.g
 refine ⟨p,c,by rw [hll],by rw [hll];exact hc,hm,fun h0=>?_⟩
 rw [hll] at h0
 obtain ⟨b,off,hpe,hbl,hcell⟩:=hx h0
 refine ⟨b,off,hpe,hbl,fun k hk=>?_⟩
 rw [hll] at hk
 have hk':k<U.length:=by rw [h.n];exact hk
 refine ⟨U[k],?_,?_⟩
 ·exact hcell k hk'
 ·have e:(Gi D n).getD k []=nS (D.lg k):=qg _ _ hk
  rw [e]
  have:=h.u k hk'
  rw [←iJ] at this
  exact p8 this
theorem qh {W:World} {B:Nat} {t:TypeId} {a b c d e f g:Value} (h:W.heap[B]?=some (.cells #[a,b,c,d,e,f,g] t (0,0))):W.frozen? ⟨B,0,none⟩=false∧W.frozen? ⟨B,1,none⟩=false∧W.frozen? ⟨B,2,none⟩=false:=by
 refine ⟨?_,?_,?_⟩ <;> simp [World.frozen?,h]
theorem Wm {W:World} {B:Nat} {t:TypeId} {a b c d e f g:Value} (a' b' c' d' e' f':Value) (h:W.heap[B]?=some (.cells #[a,b,c,d,e,f,g] t (0,0))) :
  ((((((W.setCell ⟨B,0,none⟩ a').setCell ⟨B,1,none⟩ b').setCell ⟨B,2,none⟩ c').setCell ⟨B,3,none⟩ d').setCell ⟨B,4,none⟩ e').setCell ⟨B,5,none⟩ f').heap[B]?=some (.cells #[a',b',c',d',e',f',g] t (0,0)):=by
 have h0:=aJ (i:=0) a' h
 have h1:=aJ (i:=1) b' h0
 have h2:=aJ (i:=2) c' h1
 have h3:=aJ (i:=3) d' h2
 have h4:=aJ (i:=4) e' h3
 have h5:=aJ (i:=5) f' h4
 simpa using h5
theorem Rt {W:World} {B:Nat} {t:TypeId} {a b c d e f g:Value} (a' b' c' d' e' f' g':Value) (h:W.heap[B]?=some (.cells #[a,b,c,d,e,f,g] t (0,0))) :
  (((((((W.setCell ⟨B,0,none⟩ a').setCell ⟨B,1,none⟩ b').setCell ⟨B,2,none⟩ c').setCell ⟨B,3,none⟩ d').setCell ⟨B,4,none⟩ e').setCell ⟨B,5,none⟩ f').setCell ⟨B,6,none⟩ g').heap[B]?=some (.cells #[a',b',c',d',e',f',g'] t (0,0)):=by
 have h5:=Wm a' b' c' d' e' f' h
 have h6:=aJ (i:=6) g' h5
 simpa using h6
theorem Gj {W:World} {B:Nat} {t:TypeId} {a b c d e f g:Value} (h:W.heap[B]?=some (.cells #[a,b,c,d,e,f,g] t (0,0))):W.frozen? ⟨B,3,none⟩=false∧W.frozen? ⟨B,4,none⟩=false∧W.frozen? ⟨B,5,none⟩=false∧W.frozen? ⟨B,6,none⟩=false:=by
 refine ⟨?_,?_,?_,?_⟩ <;> simp [World.frozen?,h]
end Go.Proofs.YtglncfkoohgdaaaGreatDoor
