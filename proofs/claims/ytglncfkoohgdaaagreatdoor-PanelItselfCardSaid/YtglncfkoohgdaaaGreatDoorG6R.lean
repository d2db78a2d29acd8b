import Derived.Test.YtglncfkoohgdaaaGreatDoorG4R
set_option maxRecDepth 100000
set_option maxHeartbeats 8000000
namespace Go.Proofs.YtglncfkoohgdaaaGreatDoor
open Go.RowKit Go.Shelf
open Go.Lib (decDigits itoa nDigits)
def lu (w:World) (v:Value) (P:bQ) (k:Nat):Prop:=∃ p c,v=.slice p k c∧k≤c∧c≤maxLen∧(0<k→∃ b off,p=some ⟨b,off,none⟩∧b<w.heap.size∧∀ i,i<k→∃ u,w.cell? ⟨b,off+i*2,none⟩=some u∧w.cell? ⟨b,off+i*2+1,none⟩=some (.string (tx (tY P i)))∧kz w u (aZ P i))
theorem lu.below {w w':World} {v:Value} {P:bQ} {k:Nat} (h:lu w v P k) (hb:Below w.heap.size w w'):lu w' v P k:=by
 obtain ⟨p,c,h1,h2,h3,h4⟩:=h
 refine ⟨p,c,h1,h2,h3,fun h0=>?_⟩
 obtain ⟨b,off,k1,k2,k3⟩:=h4 h0
 refine ⟨b,off,k1,Nat.lt_of_lt_of_le k2 hb.size,fun i hi=>?_⟩
 obtain ⟨u,m1,m2,m3⟩:=k3 i hi
 exact ⟨u,(hb.cell (p:=⟨b,off+i*2,none⟩) k2).trans m1,(hb.cell (p:=⟨b,off+i*2+1,none⟩) k2).trans m2,m3.below hb⟩
theorem lu.slice {w:World} {v:Value} {P:bQ} {k:Nat} (h:lu w v P k):∃ p c,v=.slice p k c∧k≤c∧c≤maxLen:=by
 obtain ⟨p,c,h1,h2,h3,_⟩:=h
 exact ⟨p,c,h1,h2,h3⟩
theorem lu.at {w:World} {p:Option Addr} {n c:Nat} {P:bQ} {k:Nat} (h:lu w (.slice p n c) P k) {i:Nat} (hi:i<k):∃ b off u,p=some ⟨b,off,none⟩∧b<w.heap.size∧w.cell? ⟨b,off+i*2,none⟩=some u∧w.cell? ⟨b,off+i*2+1,none⟩=some (.string (tx (tY P i)))∧kz w u (aZ P i):=by
 obtain ⟨p',c',h1,h2,h3,h4⟩:=h
 cases h1
 obtain ⟨b,off,k1,k2,k3⟩:=h4 (by omega)
 obtain ⟨u,m1,m2,m3⟩:=k3 i hi
 exact ⟨b,off,u,k1,k2,m1,m2,m3⟩
def fq (us:List Value) (P:bQ):Nat→List Value
 | 0=>[]
 | k+1=>fq us P k ++ [us.getD k undef,.string (tx (tY P k))]
theorem nu (us:List Value) (P:bQ):∀ k,(fq us P k).length=k*2
 | 0=>rfl
 | k+1=>by unfold fq;rw [List.length_append,nu us P k];simp;omega
theorem xG (us:List Value) (u:Value) (P:bQ):∀ k,k≤us.length→fq (us ++ [u]) P k=fq us P k
 | 0,_=>rfl
 | k+1,h=>by
  unfold fq
  rw [xG us u P k (by omega)]
  congr 2
  rw [List.getD_eq_getElem?_getD,List.getD_eq_getElem?_getD,List.getElem?_append_left (by omega)]
theorem rP (us:List Value) (P:bQ):∀ (k i:Nat),i<k→(fq us P k)[i*2]?=some (us.getD i undef)∧(fq us P k)[i*2+1]?=some (.string (tx (tY P i)))
 | 0,i,h=>absurd h (Nat.not_lt_zero _)
 | k+1,i,h=>by
  unfold fq
  by_cases hi:i<k
  ·obtain ⟨h1,h2⟩:=rP us P k i hi
   have hl:=nu us P k
   exact ⟨by rw [List.getElem?_append_left (by omega)];exact h1,by rw [List.getElem?_append_left (by omega)];exact h2⟩
  ·obtain rfl:i=k:=by omega
   have hl:=nu us P i
   refine ⟨?_,?_⟩
   ·rw [List.getElem?_append_right (by omega),show i*2-(fq us P i).length=0 by omega];rfl
   ·rw [List.getElem?_append_right (by omega),show i*2+1-(fq us P i).length=1 by omega];rfl
structure uG (w:World) (P:bQ) (k:Nat) (v:Value) (W:World):Prop where
 ex:∃ us:List Value,us.length=k∧W.ownsRow w.heap.size 54 2 v k (fq us P k)∧∀ i,i<k→kz W (us.getD i undef) (aZ P i)
 low:Below w.heap.size w W
theorem uG.below {w:World} {P:bQ} {k:Nat} {v:Value} {W W':World} (h:uG w P k v W) (hb:Below W.heap.size W W'):uG w P k v W':=by
 obtain ⟨⟨us,h1,h2,h3⟩,h4⟩:=h
 exact ⟨⟨us,h1,lZ h2 hb,fun i hi=>(h3 i hi).below hb⟩,h4.trans (hb.mono h4.size)⟩
theorem uG.done {w:World} {P:bQ} {k:Nat} {v:Value} {W:World} (h:uG w P k v W):lu W v P k:=by
 obtain ⟨⟨us,h1,h2,h3⟩,h4⟩:=h
 obtain ⟨hl,p,c,rfl,hc,hm,hx⟩:=Reads.bu h2
 refine ⟨p,c,rfl,hc,hm,fun h0=>?_⟩
 obtain ⟨b,off,hp,hbl,hcell⟩:=hx h0
 have hlen:=nu us P k
 refine ⟨b,off,hp,hbl,fun i hi=>⟨us.getD i undef,?_,?_,h3 i hi⟩⟩
 ·have g:=(rP us P k i hi).1
  have c1:=hcell (i*2) (by omega)
  rw [c1,←g,List.getElem?_eq_getElem]
 ·have g:=(rP us P k i hi).2
  have c1:=hcell (i*2+1) (by omega)
  rw [show off+i*2+1=off+(i*2+1) by omega,c1,←g,List.getElem?_eq_getElem]
theorem CW {W W':World} {row:Option Nat} {v:Value} {P:List Stp} (h:kz W v P) (hg:W.grownBy W' row) (hr:∀ r,row=some r→∃ c t fz,W.heap[r]?=some (.cells c t fz)∧t≠57):kz W' v P:=by
 obtain ⟨p,c,h1,h2,h3,h4⟩:=h
 refine ⟨p,c,h1,h2,h3,fun h0=>?_⟩
 obtain ⟨b,off,k1,⟨cs,fz,hcs⟩,k3⟩:=h4 h0
 have hne:row≠some b:=fun e=>by
  obtain ⟨c',t',fz',hc',hn⟩:=hr b e
  rw [hcs] at hc'
  cases hc'
  exact hn rfl
 have hb:=hg.block b (lt_of_some hcs) (fun e=>hne e.symm)
 refine ⟨b,off,k1,⟨cs,fz,hb.trans hcs⟩,fun i hi=>?_⟩
 obtain ⟨m1,m2,m3⟩:=k3 i hi
 have hcell:∀ j,W'.cell? ⟨b,j,none⟩=W.cell? ⟨b,j,none⟩:=fun j=>by simp [World.cell?,hb]
 exact ⟨by rw [hcell];exact m1,by rw [hcell];exact m2,by rw [hcell];exact m3⟩
theorem uG.push {w:World} {P:bQ} {k:Nat} {v v' u u2:Value} {W W':World} {us:List Value} (h1:us.length=k) (h2:W.ownsRow w.heap.size 54 2 v k (fq us P k)) (h3:∀ i,i<k→kz W (us.getD i undef) (aZ P i)) (hlow:Below w.heap.size w W)
  (hu:kz W u (aZ P k)) (hu2:u2=.string (tx (tY P k))) (hown:W'.ownsRow w.heap.size 54 2 v' (k+1) (fq us P k ++ [u,u2])) (hg:W.grownBy W' v.ownBlock) :
  uG w P (k+1) v' W'∧∀ (b:Nat) (c:Array Value) (t:TypeId) (fz:Nat × Nat),W.heap[b]?=some (.cells c t fz)→t≠54→W'.heap[b]?=some (.cells c t fz):=by
 have hr:∀ r,v.ownBlock=some r→∃ c t fz,W.heap[r]?=some (.cells c t fz)∧t≠57:=fun r e=>by
  obtain ⟨cur,fz,e3⟩:=bD h2 e
  exact ⟨_,_,_,e3,by decide⟩
 refine ⟨⟨⟨us ++ [u],by simp [h1],?_,fun i hi=>?_⟩,hlow.trans ⟨hg.os,hg.tape,hg.output,hg.size,fun j hj=>hg.block j (Nat.lt_of_lt_of_le hj hlow.size) fun e=>?_⟩⟩,fun b c t fz hb hn=>?_⟩
 ·unfold fq
  rw [xG us u P k (by omega)]
  have e:(us ++ [u]).getD k undef=u:=by
   rw [List.getD_eq_getElem?_getD,List.getElem?_append_right (by omega),show k-us.length=0 by omega];rfl
  rw [e,←hu2]
  exact hown
 ·by_cases hik:i<k
  ·have e:(us ++ [u]).getD i undef=us.getD i undef:=by
    rw [List.getD_eq_getElem?_getD,List.getD_eq_getElem?_getD,List.getElem?_append_left (by omega)]
   rw [e]
   exact CW (h3 i hik) hg hr
  ·obtain rfl:i=k:=by omega
   have e:(us ++ [u]).getD i undef=u:=by
    rw [List.getD_eq_getElem?_getD,List.getElem?_append_right (by omega),show i-us.length=0 by omega];rfl
   rw [e]
   exact CW hu hg hr
 ·have:=(h2.lt j e.symm).1
  omega
 ·refine (hg.block b (lt_of_some hb) fun e=>?_).trans hb
  obtain ⟨cur,fz',e3⟩:=bD h2 e.symm
  rw [hb] at e3
  cases e3
  exact hn rfl
theorem ZW:SliceOf 47 54 (.agg #[.slice none 0 0,.string ⟨#[]⟩]) 2 40:=⟨Tryz.underlying47,by kernel_rfl,rfl,by decide⟩
open Go.Lib (hid)
theorem FD (q:Rat) (h:oz q) (w:World) (hw:Good w):Calls Tryz.prog 56 #[.string (tx q)] w (RV (.tuple #[.string (tx q),.int .i64 0]) w):=by
 have HC:=hid (fun w' (hg:Good w')=>gY q h w' hg)
 unfold RV at *
 clear h
 generalize tx q=s at *
 go_enter Tryz.func56,Tryz.ntmps56
 go_wp2_with fail
 refine (HC.out w hw).mono ?_
 rintro e w1 ⟨rfl,hb1⟩
 go_wp2
 go_ret2
 exact ⟨rfl,hb1⟩
theorem xH {w:World} (vg va vt:Value) (P:bQ) (hO:dm P) (hP:l9 w vg va vt P) (hw:Good w) :
  Calls Tryz.prog 17 #[iX vg va vt P.cs] w fun e w'=>∃ v,e=.returned (.tuple #[v,.int .i64 0])∧lu w' v P (P.lg.length-1)∧Below w.heap.size w w':=by
 have HCH:=hid (fun W' (hb:Below w.heap.size w W')=>UJ vg va vt P hO (hP.below hb) (hw.below hb))
 have Zi:=hid (fun (k:Nat) (hk:k+1<P.lg.length) W' (hb:Below w.heap.size w W')=>z8 vg va vt P k hk (by have:=hO.n20;omega) (hP.below hb))
 have xI:=hid (fun (k:Nat) (hk:k+1<P.lg.length) (vl vr:Value) W' (hg:Good W') (hl:gm W' vl (ai P k)) (hr:gm W' vr (ai P (k+1)))=>OG vl vr P.cs (ai P k) (ai P (k+1)) (hO.log k (by omega)).1 (hO.log (k+1) hk).1 (by have:=(hO.log k (by omega)).2;omega) (by have:=(hO.log (k+1) hk).2;omega) hO.ZR (hO.link hk).1 ((hO.link hk).2.ok (by decide)) hl hr hg)
 obtain ⟨pg,cg,rfl,hcg,jK⟩:=hP.g.slice
 obtain ⟨pa,ca,rfl,ET,ma⟩:=hP.a.slice
 obtain ⟨oQ,ct,rfl,hct,mf⟩:=hP.t.slice
 have hn2:=hO.n2
 have xE:=hO.n20
 unfold maxLen at jK ma mf
 unfold iX at *
 unfold RV at *
 clear hO hP
 generalize tx P.cs.ch=t1 at *
 generalize tx P.cs.mi=t2 at *
 generalize tx P.cs.ga=t3 at *
 generalize tx P.cs.re=t4 at *
 generalize (P.xs.map tx).length=na at *
 generalize (P.tp.map tx).length=nt at *
 generalize P.lg.length=n at *
 have w4:IntKind.i64.wrap ((n:Int)-1)=((n-1:Nat):Int):=(IntWalk.i64_in _ (by omega)).trans (by omega)
 obtain ⟨m,hm⟩ : ∃ m,m=n-1:=⟨_,rfl⟩
 rw [←hm] at w4 ⊢
 have Hf:=hid hm
 have UK:m≤20:=by omega
 clear hm
 go_enter Tryz.func17,Tryz.ntmps17
 go_upto_region 1 with fail
 obtain ⟨wP,bX⟩ : ∃ wP,wP=w.alloc (Obj.cells #[.slice pg n cg,.slice pa na ca,.slice oQ nt ct,.string t1,.string t2,.string t3,.string t4] 37):=⟨_,rfl⟩
 have eT:Below w.heap.size w wP:=by rw [bX];exact ae _ _
 have hpq:wP.heap[w.heap.size]?=some (.cells #[.slice pg n cg,.slice pa na ca,.slice oQ nt ct,.string t1,.string t2,.string t3,.string t4] 37 (0,0)):=by rw [bX];exact World.alloc_heap_new _ _
 rw [←bX]
 clear bX
 obtain ⟨p0,p1,p2,p3,p4,p5,p6⟩:=au hpq
 have mG:=hid hpq
 have uH:=hid eT
 clear hpq eT
 go_wp2_with fail
 refine (HCH.out wP uH.out).mono ?_
 rintro e w1 ⟨rfl,hb1⟩
 have HB1:=hid (uH.out.trans (hb1.mono uH.out.size))
 have hp1:=(hb1.block _ (aa mG.out)).trans mG.out
 have HP1:=hid hp1
 clear p0 p1 p2 p3 p4 p5 p6 hb1
 obtain ⟨p0,p1,p2,p3,p4,p5,p6⟩:=au hp1
 have HI0:=hid (show uG w P 0 (.slice none 0 0) w1 from ⟨⟨[],rfl,World.ownsRow_nil _ _ _ _,fun i hi=>absurd hi (Nat.not_lt_zero _)⟩,HB1.out⟩)
 clear hp1
 go_wp2_with fail
 go_loopw [2,3,5,6,7,8,18] (fun _ _ ov _ _ _ iv wr=>∃ k:Nat,k≤m∧iv=.int .i64 (k:Int)∧uG w P k ov wr∧wr.heap[w.heap.size]?=some (.cells #[.slice pg n cg,.slice pa na ca,.slice oQ nt ct,.string t1,.string t2,.string t3,.string t4] 37 (0,0))) (fun _ _ _ _ _ _ iv _=>m-(intOf iv).toNat)
 case atStart=>exact ⟨0,Nat.zero_le _,rfl,HI0.out,HP1.out⟩
 case round =>
  clear HI0 HP1 p0 p1 p2 p3 p4 p5 p6 HB1 HCH
  obtain ⟨k,YU,rfl,hinv,hpx⟩:=hrel
  have HI:=hid hinv
  have HPX:=hid hpx
  obtain ⟨p0,p1,p2,p3,p4,p5,p6⟩:=au hpx
  by_cases hk:k<m
  ·have kn:decide ((k:Int)<(m:Int))=true:=decide_eq_true (by omega)
   have Jc:decide (k<m)=true:=decide_eq_true hk
   have HK:=hid (show k+1<n by have:=Hf.out;omega)
   have w5:IntKind.i64.wrap ((k:Int)+1)=(k:Int)+1:=IntWalk.i64_in _ (by omega)
   clear hinv hpx
   go_wp2_with fail
   refine (Zi.out k HK.out _ HI.out.low).mono ?_
   rintro e v1 ⟨vl,vr,rfl,hl1,hr1,hb1⟩
   have HI1:=hid (HI.out.below hb1)
   have Ep:=hid (xI.out k HK.out vl vr v1 (hw.below HI1.out.low) (hl1.below hb1) (hr1.below hb1))
   have HP1:=hid ((hb1.block _ (aa HPX.out)).trans HPX.out)
   clear hl1 hr1 hb1 p0 p1 p2 p3 p4 p5 p6
   go_wp2_with fail
   refine Ep.out.mono ?_
   rintro e v2 ⟨vs,rfl,hst,hb2⟩
   have HI2:=hid (HI1.out.below hb2)
   have HP2:=hid ((hb2.block _ (aa HP1.out)).trans HP1.out)
   obtain ⟨ps,cs,rfl,hcs,hcs2⟩:=hst.slice
   have HST:=hid hst
   obtain ⟨s,hs⟩ : ∃ s,s=tx (bI P.cs (ai P k) (ai P (k+1)) 0 0):=⟨_,rfl⟩
   have HS:=hid hs
   rw [←hs]
   generalize (kG P.cs (ai P k) (ai P (k+1)) 0 0).length=iL at *
   clear hb2 hst hs
   obtain ⟨i0,hii,hz0,hz1,hz2⟩:=info_parts ZW.info
   obtain ⟨wB,iy⟩ : ∃ wB,wB=v2.alloc (Obj.cells #[.slice ps iL cs,.string s] 54):=⟨_,rfl⟩
   have il:Below v2.heap.size v2 wB:=by rw [iy];exact ae _ _
   have hcB:wB.heap[v2.heap.size]?=some (.cells #[.slice ps iL cs,.string s] 54 (0,0)):=by rw [iy];exact World.alloc_heap_new _ _
   obtain ⟨a0,a1,_,_⟩:=aj hcB
   have xJ:=hid iy
   have dY:=hid il
   have RN:=hid (HI2.out.below il)
   have HPB:=hid ((il.block _ (aa HP2.out)).trans HP2.out)
   have UL:=hid (HST.out.below il)
   clear iy il hcB
   go_upto_region 9 with fail
   rw [←xJ.out]
   have GR:=hid (RN.out.below (ae wB (Obj.cells #[.slice ps iL cs,.string s] 54)))
   obtain ⟨us,hu1,hu2,hu3⟩:=GR.out.ex
   have HU:=hid (And.intro hu1 (And.intro hu2 hu3))
   clear hu1 hu3
   have HSN:=hid (UL.out.below (ae wB (Obj.cells #[.slice ps iL cs,.string s] 54)))
   have HPN:=hid (((ae wB (Obj.cells #[.slice ps iL cs,.string s] 54)).block _ (aa HPB.out)).trans HPB.out)
   have hlow:=GR.out.low.size
   go_wp2_with (at_builtin;refine wpList_append_own _ rfl _ _ 47 rfl w.heap.size 54 i0 (.agg #[.slice none 0 0,.string ⟨#[]⟩]) 2 40 ZW.ht hii hz0 hz1 hz2 ZW.hzs ZW.hsz _ k (fq us P k) rfl hu2 ⟨wB.heap.size,0,none⟩ 1 1 [.slice ps iL cs,.string s] rfl rfl (cell_two_new _ _ _ _) (by simp [Value.oneCell']) (by unfold maxLen;omega) (by omega) (by simpa using hlow) ?_;intro v' wZ abp hgZ hnil;have HZ:=hid (And.intro abp hgZ);clear abp hgZ hnil hu2 hlow)
   obtain ⟨hnx,hkp⟩:=uG.push HU.out.1 HU.out.2.1 HU.out.2.2 GR.out.low HSN.out (by rw [HS.out];rfl) HZ.out.1 HZ.out.2
   refine ⟨⟨k+1,hk,aA k,hnx,hkp _ _ _ _ HPN.out (by decide)⟩,?_⟩
   show m-((k:Int)+1).toNat<m-((k:Int)).toNat
   omega
  ·obtain rfl:k=m:=by omega
   go_wp2
   go_ret2
   exact ⟨_,rfl,HI.out.done,HI.out.low⟩
theorem UM {w:World} (vg va vt:Value) (P:bQ) (hO:dm P) (hP:l9 w vg va vt P) (hw:Good w) :
  Calls Tryz.prog 18 #[iX vg va vt P.cs] w (RV (.tuple #[.string (tx (qB P (P.lg.length-1))),.int .i64 0]) w):=by
 have G5:=hid (fun W' (hb:Below w.heap.size w W')=>xH vg va vt P hO (hP.below hb) (hw.below hb))
 have HAD:=hid (fun (k:Nat) (hk:k+1<P.lg.length) w' (hg:Good w')=>uz (qB P k) (tY P k) ((kK (((hO.qB k (by omega)).mono (show 131072*k≤131072*20 by have:=hO.n20;omega)).ok (by decide))).mono (by decide)) ((kK ((hO.link hk).2.ok (by decide))).mono (by decide)) w' hg)
 have HNU:=hid (fun w' (hg:Good w')=>FD (qB P (P.lg.length-1)) (((hO.qB (P.lg.length-1) (by have:=hO.n2;omega)).mono (show 131072*(P.lg.length-1)≤131072*20 by have:=hO.n20;omega)).ok (by decide)) w' hg)
 have HSU:=hid (fun k=>FC P k)
 have HT0:=hid (show (⟨#[48]⟩ : ByteArray)=tx (qB P 0) from tx0.symm)
 obtain ⟨pg,cg,rfl,hcg,jK⟩:=hP.g.slice
 obtain ⟨pa,ca,rfl,ET,ma⟩:=hP.a.slice
 obtain ⟨oQ,ct,rfl,hct,mf⟩:=hP.t.slice
 have hn2:=hO.n2
 have xE:=hO.n20
 unfold maxLen at jK ma mf
 unfold iX at *
 unfold RV at *
 clear hO hP
 generalize tx P.cs.ch=t1 at *
 generalize tx P.cs.mi=t2 at *
 generalize tx P.cs.ga=t3 at *
 generalize tx P.cs.re=t4 at *
 generalize (P.xs.map tx).length=na at *
 generalize (P.tp.map tx).length=nt at *
 generalize P.lg.length=n at *
 obtain ⟨m,hm⟩ : ∃ m,m=n-1:=⟨_,rfl⟩
 rw [←hm] at G5 HNU ⊢
 have Hf:=hid hm
 have UK:m≤20:=by omega
 clear hm
 go_enter Tryz.func18,Tryz.ntmps18
 go_upto_region 1 with fail
 obtain ⟨wP,bX⟩ : ∃ wP,wP=w.alloc (Obj.cells #[.slice pg n cg,.slice pa na ca,.slice oQ nt ct,.string t1,.string t2,.string t3,.string t4] 37):=⟨_,rfl⟩
 have eT:Below w.heap.size w wP:=by rw [bX];exact ae _ _
 have hpq:wP.heap[w.heap.size]?=some (.cells #[.slice pg n cg,.slice pa na ca,.slice oQ nt ct,.string t1,.string t2,.string t3,.string t4] 37 (0,0)):=by rw [bX];exact World.alloc_heap_new _ _
 rw [←bX]
 clear bX
 obtain ⟨p0,p1,p2,p3,p4,p5,p6⟩:=au hpq
 have uH:=hid eT
 clear hpq eT
 go_wp2_with fail
 refine (G5.out wP uH.out).mono ?_
 rintro e w1 ⟨v,rfl,hlk,hb1⟩
 have HB1:=hid (uH.out.trans (hb1.mono uH.out.size))
 obtain ⟨pl,cl,rfl,hcl,gZ⟩:=hlk.slice
 unfold maxLen at gZ
 have HL1:=hid hlk
 clear hlk hb1 p0 p1 p2 p3 p4 p5 p6
 go_wp2_with fail
 rw [HT0.out]
 go_loopw [6,8,19] (fun sv _ iv wr=>∃ k:Nat,k≤m∧iv=.int .i64 (k:Int)∧sv=.string (tx (qB P k))∧Below w1.heap.size w1 wr) (fun _ _ iv _=>m-(intOf iv).toNat)
 case atStart=>exact ⟨0,Nat.zero_le _,rfl,rfl,Below.refl _ _⟩
 case round =>
  obtain ⟨k,YU,rfl,rfl,hbr⟩:=hrel
  have sZ:=hid (HB1.out.trans (hbr.mono HB1.out.size))
  by_cases hk:k<m
  ·have kn:decide ((k:Int)<(m:Int))=true:=decide_eq_true (by omega)
   have Jc:decide (k<m)=true:=decide_eq_true hk
   have i1:(0:Int)≤(k:Int):=by omega
   have i2:(k:Int)<(m:Int):=by omega
   have HK:=hid (show k+1<n by have:=Hf.out;omega)
   have w5:IntKind.i64.wrap ((k:Int)+1)=(k:Int)+1:=IntWalk.i64_in _ (by omega)
   obtain ⟨b,off,u,rfl,hbl,c0,c1,hst⟩:=(HL1.out.below hbr).at hk
   obtain ⟨ps,cs,rfl,hcs,hcs2⟩:=hst.slice
   generalize (aZ P k).length=iL at *
   have H1:=hid (HAD.out k HK.out)
   have hs:=HSU.out k
   generalize hx:qB P (k+1)=s1 at *
   rw [←hs] at H1
   generalize OJ:tx (tY P k)=tt at *
   generalize hts:tx (qB P k)=ts at *
   generalize htz:tx s1=tz at *
   have HTZ:=hid htz
   have HX:=hid hx
   clear hst hs htz hts OJ hx
   go_upto_region 8 with fail
   obtain ⟨wB,iy⟩ : ∃ wB,wB=wr.alloc (Obj.cells #[.slice ps iL cs,.string tt] 54):=⟨_,rfl⟩
   have il:Below wr.heap.size wr wB:=by rw [iy];exact ae _ _
   have hcB:wB.heap[wr.heap.size]?=some (.cells #[.slice ps iL cs,.string tt] 54 (0,0)):=by rw [iy];exact World.alloc_heap_new _ _
   obtain ⟨a0,a1,_,_⟩:=aj hcB
   rw [←iy]
   clear iy hcB c0 c1
   have hb2:=hbr.trans (il.mono hbr.size)
   go_wp2_with fail
   refine (H1.out wB (hw.below (HB1.out.trans (hb2.mono HB1.out.size)))).mono ?_
   rintro e w3 ⟨rfl,hb3⟩
   go_wp2
   refine ⟨⟨k+1,hk,aA k,by rw [HX.out,HTZ.out],hb2.trans (hb3.mono hb2.size)⟩,?_⟩
   show m-((k:Int)+1).toNat<m-((k:Int)).toNat
   omega
  ·obtain rfl:k=m:=by omega
   generalize htz:tx (qB P k)=tz at *
   have HTZ:=hid htz
   clear htz
   go_wp2_with fail
   refine (HNU.out wr (hw.below sZ.out)).mono ?_
   rintro e w3 ⟨rfl,hb3⟩
   go_wp2
   refine bodyPost_ret (v:=.tuple #[.string tz,.int .i64 0]) (by simp [results,Tryz.results18,go_sem]) rfl ?_
   exact ⟨by rw [HTZ.out],sZ.out.trans (hb3.mono sZ.out.size)⟩
end Go.Proofs.YtglncfkoohgdaaaGreatDoor
