import Derived.Test.YtglncfkoohgdaaaGreatDoorG57R
import Derived.Test.YtglncfkoohgdaaaGreatDoorG40R
set_option maxRecDepth 100000
set_option maxHeartbeats 4000000
namespace Go.Proofs.YtglncfkoohgdaaaGreatDoor
open Go.RowKit Go.Shelf
open Go.Lib (decDigits itoa nDigits)
open Go.Lib (hid)
attribute [local go_sem] Oper.semAt_some
def IQ:List Stp→Nat→Int
 | [],_=>-1
 | s :: L,i=>if s.k=1∧s.i=i then (s.j:Int) else IQ L i
def kF (P:bQ) (k i:Nat):Int:=if k+1<P.lg.length then IQ (aZ P k) i else -1
theorem Rz {L:List Stp} {k i:Nat} (h:k<L.length):IQ (L.drop k) i=if (gy L k).k=1∧(gy L k).i=i then ((gy L k).j:Int) else IQ (L.drop (k+1)) i:=by
 rw [List.drop_eq_getElem_cons h,jZ h]
 rfl
theorem Yn (p:Option Addr) (n c:Nat) (t:ByteArray) (w:World):(Instr.field 54 (.agg #[.slice p n c,.string t]) 0).run Tryz.prog w=.ok (.slice p n c) w:=by kernel_rfl
theorem Le {w:World} (vg va vt:Value) (P:bQ) (k i:Nat) (hk:k≤100) (hO:dm P) (hP:l9 w vg va vt P) (hw:Good w) :
  Calls Tryz.prog 92 #[iX vg va vt P.cs,.int .i64 (k:Int),.int .i64 (i:Int)] w (RV (.int .i64 (kF P k i)) w):=by
 have HLI:=hid (fun (hi:k+1<P.lg.length) W' (hb:Below w.heap.size w W')=>Ym vg va vt P k hi hO (hP.below hb) (hw.below hb))
 have xE:=hO.n20
 obtain ⟨pg,cg,rfl,hcg,jK⟩:=hP.g.slice
 obtain ⟨pa,ca,rfl,ET,ma⟩:=hP.a.slice
 obtain ⟨oQ,ct,rfl,hct,mf⟩:=hP.t.slice
 have w1:IntKind.i64.wrap ((k:Int)+1)=(k:Int)+1:=IntWalk.i64_in _ (by omega)
 have mG:=hid (show kF P k i=if k+1<P.lg.length then IQ (aZ P k) i else -1 from rfl)
 obtain ⟨R,hR⟩ : ∃ q,q=kF P k i:=⟨_,rfl⟩
 rw [←hR] at mG ⊢
 unfold iX at *
 unfold RV
 clear hP hO hR
 generalize tx P.cs.ch=t1 at *
 generalize tx P.cs.mi=t2 at *
 generalize tx P.cs.ga=t3 at *
 generalize tx P.cs.re=t4 at *
 generalize (P.xs.map tx).length=na at *
 generalize (P.tp.map tx).length=nt at *
 generalize P.lg.length=n at *
 obtain ⟨wP,bX⟩ : ∃ wP,wP=w.alloc (Obj.cells #[.slice pg n cg,.slice pa na ca,.slice oQ nt ct,.string t1,.string t2,.string t3,.string t4] 37):=⟨_,rfl⟩
 have eT:Below w.heap.size w wP:=by rw [bX];exact ae _ _
 have hpq:wP.heap[w.heap.size]?=some (.cells #[.slice pg n cg,.slice pa na ca,.slice oQ nt ct,.string t1,.string t2,.string t3,.string t4] 37 (0,0)):=by rw [bX];exact World.alloc_heap_new _ _
 have RX:=hid bX
 have uH:=hid eT
 clear bX eT
 obtain ⟨p0,p1,p2,p3,p4,p5,p6⟩:=au hpq
 clear hpq
 go_enter Tryz.func92,Tryz.ntmps92
 go_upto_region 1 with fail
 rw [←RX.out]
 by_cases hk1:k+1<n
 ·have hge:decide ((n:Int)≤(k:Int)+1)=false:=decide_eq_false (by omega)
  have HL:=hid (HLI.out hk1 wP uH.out)
  rw [if_pos hk1] at mG
  clear hk1 HLI RX
  obtain ⟨L,hL⟩ : ∃ q,q=aZ P k:=⟨_,rfl⟩
  rw [←hL] at HL mG
  clear hL
  obtain ⟨tt,OJ⟩ : ∃ q,q=tx (tY P k):=⟨_,rfl⟩
  rw [←OJ] at HL
  clear OJ
  go_wp2_with fail
  refine HL.out.mono ?_
  rintro e w2 ⟨ps,cs,rfl,hst,hb2⟩
  have HST:=hid hst
  have HB2:=hid (uH.out.trans (hb2.mono uH.out.size))
  have hll:L.length≤2 ^ 63-1:=by obtain ⟨_,_,_,h1,h2⟩:=hst.slice;exact Nat.le_trans h1 h2
  obtain ⟨nl,hnl⟩ : ∃ q,q=L.length:=⟨_,rfl⟩
  rw [←hnl] at hll HST ⊢
  have Ff:=hid hnl
  have afM:=Yn
  clear hst hb2 HL p0 p1 p2 p3 p4 p5 p6 hnl
  go_wp2_with fail
  have HB0:=hid (Below.refl w2.heap.size w2)
  go_loopw [6,8,20] (fun r _ iv wr=>∃ j:Nat,j≤nl∧iv=.int .i64 (j:Int)∧IQ (L.drop j) i=R∧Below w2.heap.size w2 wr) (fun _ _ iv _=>nl-(intOf iv).toNat)
  case atStart=>exact ⟨0,Nat.zero_le _,rfl,by rw [mG.out];rfl,HB0.out⟩
  case round =>
   obtain ⟨j,hjn,rfl,hpr,hbr⟩:=hrel
   have sZ:=hid (HB2.out.trans (hbr.mono HB2.out.size))
   by_cases hj:j<nl
   ·have hj1:j<L.length:=by rw [←Ff.out];exact hj
    obtain ⟨bs,os,rfl,ls,e0,e1,e2⟩:=(HST.out.below hbr).at hj1
    rw [Rz hj1] at hpr
    have kn:decide ((j:Int)<(nl:Int))=true:=decide_eq_true (by omega)
    have j1:(0:Int)≤(j:Int):=by omega
    have j2:(j:Int)<(nl:Int):=by omega
    have w6:IntKind.i64.wrap ((j:Int)+1)=(j:Int)+1:=IntWalk.i64_in _ (by omega)
    have uE:=hid hbr
    generalize (gy L j).k=sk at *
    generalize (gy L j).i=si at *
    generalize (gy L j).j=sj at *
    obtain ⟨wB,iy⟩ : ∃ q,q=wr.alloc (Obj.cells #[.int .i64 (sk:Int),.int .i64 (si:Int),.int .i64 (sj:Int)] 57):=⟨_,rfl⟩
    have il:Below wr.heap.size wr wB:=by rw [iy];exact ae _ _
    have Ry:wB.heap[wr.heap.size]?=some (.cells #[.int .i64 (sk:Int),.int .i64 (si:Int),.int .i64 (sj:Int)] 57 (0,0)):=by rw [iy];exact World.alloc_heap_new _ _
    have xJ:=hid iy
    have dY:=hid (sZ.out.trans (il.mono sZ.out.size))
    have DX:=hid (uE.out.trans (il.mono uE.out.size))
    obtain ⟨c0,c1,c2⟩:=az Ry
    clear iy il Ry hbr hj1
    go_upto_region 6 with fail
    rw [←xJ.out]
    clear xJ e0 e1 e2
    by_cases h1:sk=1
    ·have g1:((sk:Int) == 1)=true:=by simp;omega
     by_cases h2:si=i
     ·have g2:((si:Int) == (i:Int))=true:=by simp;omega
      rw [if_pos ⟨h1,h2⟩] at hpr
      have FB:=hid hpr
      clear hpr h1 h2
      go_wp2
      go_ret
      exact ⟨by rw [←FB.out];rfl,dY.out⟩
     ·have g2:((si:Int) == (i:Int))=false:=by simp;omega
      rw [if_neg (fun h=>h2 h.2)] at hpr
      have FB:=hid hpr
      clear hpr h1 h2
      go_wp2
      refine ⟨⟨j+1,hj,aA j,FB.out,DX.out⟩,?_⟩
      show nl-((j:Int)+1).toNat<nl-((j:Int)).toNat
      omega
    ·have g1:((sk:Int) == 1)=false:=by simp;omega
     rw [if_neg (fun h=>h1 h.1)] at hpr
     have FB:=hid hpr
     clear hpr h1
     go_wp2
     refine ⟨⟨j+1,hj,aA j,FB.out,DX.out⟩,?_⟩
     show nl-((j:Int)+1).toNat<nl-((j:Int)).toNat
     omega
   ·obtain rfl:j=nl:=by omega
    have kn:decide ((j:Int)<(j:Int))=false:=decide_eq_false (by omega)
    have FB:=hid (show (-1:Int)=R by rw [←hpr,Ff.out,List.drop_length];rfl)
    clear hpr
    go_wp2
    go_ret
    exact ⟨by rw [←FB.out];rfl,sZ.out⟩
 ·have hge:decide ((n:Int)≤(k:Int)+1)=true:=decide_eq_true (by omega)
  rw [if_neg hk1] at mG
  clear hk1
  go_wp2
  go_ret
  exact ⟨by rw [mG.out];rfl,uH.out⟩
end Go.Proofs.YtglncfkoohgdaaaGreatDoor
namespace Go.Proofs.YtglncfkoohgdaaaGreatDoor
open Go.RowKit Go.Shelf
theorem zq (i:Nat):∀ L:List Stp,((∀ s∈L,¬ (s.k=1∧s.i=i))∧IQ L i = -1)∨∃ s∈L,s.k=1∧s.i=i∧IQ L i=(s.j:Int)
 | []=>.inl ⟨fun s hs=>(by cases hs),rfl⟩
 | s :: L=>by
  unfold IQ
  by_cases h:s.k=1∧s.i=i
  ·rw [if_pos h]
   exact .inr ⟨s,List.mem_cons_self,h.1,h.2,rfl⟩
  ·rw [if_neg h]
   rcases zq i L with ⟨h1,h2⟩ | ⟨t,h1,h2⟩
   ·refine .inl ⟨fun t ht=>?_,h2⟩
    rcases List.mem_cons.1 ht with rfl | ht
    ·exact h
    ·exact h1 t ht
   ·exact .inr ⟨t,List.mem_cons_of_mem _ h1,h2⟩
def fQ (P:bQ) (k i:Nat):Option Nat:=if 0≤kF P k i then some (kF P k i).toNat else none
theorem xY {P:bQ} {k i:Nat}:kF P k i=match fQ P k i with | some j=>(j:Int) | none=>-1:=by
 have h:kF P k i = -1∨0≤kF P k i:=by
  unfold kF
  split
  ·rcases zq i (aZ P k) with ⟨_,h⟩ | ⟨s,_,_,_,h⟩ <;> rw [h] <;> omega
  ·exact .inl rfl
 by_cases h0:0≤kF P k i
 ·unfold fQ
  rw [if_pos h0]
  show kF P k i=(((kF P k i).toNat:Nat):Int)
  omega
 ·unfold fQ
  rw [if_neg h0]
  show kF P k i = -1
  omega
theorem PN (P:bQ) (k:Nat):om (ai P k) (ai P (k+1)) 0 0 (aZ P k):=BH P.cs _ _
theorem sw {P:bQ} {k i j:Nat}:fQ P k i=some j↔k+1<P.lg.length∧∃ s∈aZ P k,s.k=1∧s.i=i∧s.j=j:=by
 unfold fQ kF
 by_cases hk:k+1<P.lg.length
 ·rw [if_pos hk]
  rcases zq i (aZ P k) with ⟨h1,h2⟩ | ⟨s,h1,h2,h3,h4⟩
  ·rw [h2,if_neg (by decide)]
   constructor
   ·intro h;cases h
   ·rintro ⟨_,s,hs,e1,e2,_⟩
    exact absurd ⟨e1,e2⟩ (h1 s hs)
  ·rw [h4,if_pos (by omega)]
   constructor
   ·intro h
    refine ⟨hk,s,h1,h2,h3,?_⟩
    have:=Option.some.inj h
    omega
   ·rintro ⟨_,t,ht,e1,e2,e3⟩
    have:=((PN P k).one s h1 t ht h2 e1).1 (by omega)
    rw [←e3,←this]
    simp
 ·rw [if_neg hk,if_neg (by decide)]
  constructor
  ·intro h;cases h
  ·rintro ⟨h,_⟩;exact absurd h hk
theorem Yo {P:bQ} {k i i' j:Nat} (h:fQ P k i=some j) (h':fQ P k i'=some j):i=i':=by
 obtain ⟨_,s,h1,h2,h3,h4⟩:=sw.1 h
 obtain ⟨_,t,k1,k2,k3,k4⟩:=sw.1 h'
 have:=((PN P k).one s h1 t k1 h2 k2).2 (by omega)
 omega
theorem jS {P:bQ} {k i j:Nat} (h:fQ P k i=some j):k+1<P.lg.length∧i<(ai P k).length∧j<(ai P (k+1)).length:=by
 obtain ⟨hk,s,h1,h2,h3,h4⟩:=sw.1 h
 obtain ⟨_,_,_,hc⟩:=(PN P k).low s h1
 rw [h2] at hc
 have hh:s.i<(ai P k).length∧s.j<(ai P (k+1)).length:=by simpa [bF] using hc
 exact ⟨hk,by omega,by omega⟩
def Yp (b:Nat × List Nat):Option Nat→Nat × List Nat
 | some j=>(b.1,b.2 ++ [j])
 | none=>b
def Jd (f:Nat→Option Nat):Nat→Nat→Option Nat
 | 0,_=>none
 | n+1,a=>if f n=some a then some n else Jd f n a
theorem IU {f:Nat→Option Nat} (hf:∀ j j' a,f j=some a→f j'=some a→j=j') (a j:Nat):∀ n,Jd f n a=some j↔j<n∧f j=some a
 | 0=>⟨fun h=>(by cases h),fun h=>absurd h.1 (Nat.not_lt_zero _)⟩
 | n+1=>by
  unfold Jd
  by_cases h:f n=some a
  ·rw [if_pos h]
   constructor
   ·intro e
    cases e
    exact ⟨Nat.lt_succ_self _,h⟩
   ·rintro ⟨_,h2⟩
    rw [hf _ _ _ h h2]
  ·rw [if_neg h,IU hf a j n]
   constructor
   ·rintro ⟨h1,h2⟩
    exact ⟨Nat.lt_succ_of_lt h1,h2⟩
   ·rintro ⟨h1,h2⟩
    refine ⟨?_,h2⟩
    rcases Nat.lt_succ_iff_lt_or_eq.1 h1 with h3 | h3
    ·exact h3
    ·exact absurd (h3 ▸ h2) h
def nV (f:Nat→Option Nat) (k n:Nat):List (Nat × List Nat):=((List.range n).filter fun j=>(f j).isNone).map fun j=>(k,[j])
theorem Gu (f:Nat→Option Nat) (k n:Nat):nV f k (n+1)=nV f k n++(if (f n).isNone then [(k,[n])] else []):=by
 unfold nV
 rw [List.range_succ,List.filter_append,List.map_append]
 congr 1
 cases h:f n <;> simp [h]
theorem Yq {f:Nat→Option Nat} {k n:Nat}:∀ b∈nV f k n,∃ j,j<n∧b=(k,[j]):=by
 intro b hb
 obtain ⟨j,hj,rfl⟩:=List.mem_map.1 hb
 exact ⟨j,List.mem_range.1 (List.mem_filter.1 hj).1,rfl⟩
theorem xZ {f:Nat→Option Nat} {k j x:Nat} (hj:(f j).isNone=true):∀ n,j<n→((nV f k n)[x]?=some (k,[j])↔x=(nV f k j).length)
 | 0,h=>absurd h (Nat.not_lt_zero _)
 | n+1,h=>by
  rw [Gu]
  rcases Nat.lt_or_ge j n with h1 | h1
  ·have ih:=xZ (k:=k) (x:=x) hj n h1
   by_cases hx:x<(nV f k n).length
   ·rw [List.getElem?_append_left hx]
    exact ih
   ·rw [List.getElem?_append_right (by omega)]
    have hl:(nV f k j).length<(nV f k n).length:=by
     have e:=(xZ (k:=k) (x:=(nV f k j).length) hj n h1).2 rfl
     exact (List.getElem?_eq_some_iff.1 e).1
    constructor
    ·intro e
     exfalso
     split at e
     ·rcases hz:x-(nV f k n).length with _ | z
      ·rw [hz] at e
       simp at e
       omega
      ·rw [hz] at e
       simp at e
     ·simp at e
    ·intro e;omega
  ·obtain rfl:j=n:=by omega
   rw [if_pos hj]
   constructor
   ·intro e
    rcases Nat.lt_or_ge x (nV f k j).length with h2 | h2
    ·rw [List.getElem?_append_left h2] at e
     obtain ⟨y,hy,e2⟩:=Yq _ (List.mem_of_getElem? e)
     simp at e2
     omega
    ·rw [List.getElem?_append_right h2] at e
     rcases hz:x-(nV f k j).length with _ | z
     ·omega
     ·rw [hz] at e
      simp at e
   ·rintro rfl
    rw [List.getElem?_append_right (Nat.le_refl _),Nat.sub_self]
    rfl
theorem IV {st:gz} {k:Nat} (hf:∀ j j' a,st.at_ k j=some a→st.at_ k j'=some a→j=j') (hl:∀ j a,st.at_ k j=some a→a<st.out.length):∀ n,
  (∀ j,n≤j→(st.vO k n).at_ k j=st.at_ k j)∧(st.vO k n).out=st.out.mapIdx (fun a b=>Yp b (Jd (st.at_ k) n a))++nV (st.at_ k) k n ∧
  ∀ j a,j<n→((st.vO k n).at_ k j=some a↔st.at_ k j=some a∨((st.at_ k j).isNone=true∧a=st.out.length+(nV (st.at_ k) k j).length))
 | 0=>⟨fun j _=>rfl,by
   have:(fun (a:Nat) (b:Nat × List Nat)=>Yp b (Jd (st.at_ k) 0 a))=fun _ b=>b:=rfl
   rw [this,show nV (st.at_ k) k 0=[] from rfl,List.append_nil]
   apply List.ext_getElem?
   intro x
   rw [List.getElem?_mapIdx]
   show st.out[x]?=_
   simp,fun j a h=>absurd h (Nat.not_lt_zero _)⟩
 | n+1=>by
  obtain ⟨hA,hB,hC⟩:=IV hf hl n
  show (∀ j,n+1≤j→((st.vO k n).iv k n).at_ k j=st.at_ k j)∧((st.vO k n).iv k n).out=_∧∀ j a,j<n+1→(((st.vO k n).iv k n).at_ k j=some a↔_)
  have hAn:=hA n (Nat.le_refl _)
  unfold gz.iv
  rw [Gu]
  cases hn:st.at_ k n with
  | some a =>
   rw [hAn,hn]
   dsimp only
   refine ⟨fun j hj=>hA j (by omega),?_,fun j b hj=>?_⟩
   ·rw [hB]
    have hal:=hl _ _ hn
    rw [if_neg (by simp)]
    rw [List.append_nil]
    apply List.ext_getElem?
    intro x
    rw [List.getElem?_modify]
    by_cases hx:x<st.out.length
    ·rw [List.getElem?_append_left (by simpa using hx),List.getElem?_append_left (by simpa using hx),List.getElem?_mapIdx,List.getElem?_mapIdx,List.getElem?_eq_getElem hx]
     simp only [Option.map_some]
     by_cases hxa:a=x
     ·subst hxa
      have h0:Jd (st.at_ k) n a=none:=by
       cases he:Jd (st.at_ k) n a with
       | none=>rfl
       | some j =>
        obtain ⟨h1,h2⟩:=(IU hf a j n).1 he
        have:=hf _ _ _ h2 hn
        omega
      have h1:Jd (st.at_ k) (n+1) a=some n:=by unfold Jd;rw [if_pos hn]
      rw [h0,h1]
      simp [Yp]
     ·have h1:Jd (st.at_ k) (n+1) x=Jd (st.at_ k) n x:=by
       show (if st.at_ k n=some x then some n else Jd (st.at_ k) n x)=_
       rw [hn,if_neg (fun e=>hxa (Option.some.inj e))]
      rw [h1]
      simp [hxa]
    ·rw [List.getElem?_append_right (by simpa using hx),List.getElem?_append_right (by simpa using hx)]
     have hxa:¬ a=x:=by omega
     simp [hxa]
   ·rcases Nat.lt_succ_iff_lt_or_eq.1 hj with h1 | rfl
    ·exact hC j b h1
    ·rw [hAn,hn]
     simp
  | none =>
   rw [hAn,hn]
   dsimp only
   have hlen:(st.vO k n).out.length=st.out.length+(nV (st.at_ k) k n).length:=by rw [hB];simp
   refine ⟨fun j hj=>?_,?_,fun j b hj=>?_⟩
   ·unfold p9
    rw [if_neg (by omega)]
    exact hA j (by omega)
   ·rw [hB]
    have he:(fun (a:Nat) (b:Nat × List Nat)=>Yp b (Jd (st.at_ k) (n+1) a))=fun a b=>Yp b (Jd (st.at_ k) n a):=by
     funext a b
     have h1:Jd (st.at_ k) (n+1) a=Jd (st.at_ k) n a:=by
      show (if st.at_ k n=some a then some n else Jd (st.at_ k) n a)=_
      rw [hn,if_neg (by intro e;cases e)]
     rw [h1]
    rw [he]
    simp
   ·unfold p9
    rcases Nat.lt_succ_iff_lt_or_eq.1 hj with h1 | rfl
    ·rw [if_neg (by omega)]
     exact hC j b h1
    ·rw [if_pos ⟨rfl,rfl⟩,hlen,hn]
     simp
     exact eq_comm
def Je (P:bQ):Nat→Nat→Nat→List Nat
 | 0,_,i=>[i]
 | d+1,l,i=>i :: (match fQ P l i with | some j=>Je P d (l+1) j | none=>[])
def rch (P:bQ):Nat→Nat→Nat→Option Nat
 | 0,_,i=>some i
 | d+1,l,i=>(fQ P l i).bind (rch P d (l+1))
def RA (L:List Nat):Option Nat→List Nat
 | some j=>L ++ [j]
 | none=>L
theorem RB (i:Nat) (L:List Nat) (o:Option Nat):RA (i :: L) o=i :: RA L o:=by cases o <;> rfl
theorem Lf (P:bQ):∀ d l i,rch P (d+1) l i=(rch P d l i).bind (fQ P (l+d))
 | 0,l,i=>by
  show (fQ P l i).bind (fun j=>some j)=fQ P (l+0) i
  rw [Nat.add_zero]
  cases fQ P l i <;> rfl
 | d+1,l,i=>by
  show (fQ P l i).bind (rch P (d+1) (l+1))=((fQ P l i).bind (rch P d (l+1))).bind (fQ P (l+(d+1)))
  cases h:fQ P l i with
  | none=>rfl
  | some j =>
   show rch P (d+1) (l+1) j=(rch P d (l+1) j).bind (fQ P (l+(d+1)))
   rw [Lf P d (l+1) j,show l+1+d=l+(d+1) by omega]
theorem Lg (P:bQ):∀ d l i,Je P (d+1) l i=RA (Je P d l i) (rch P (d+1) l i)
 | 0,l,i=>by
  show i :: (match fQ P l i with | some j=>Je P 0 (l+1) j | none=>[])=RA [i] ((fQ P l i).bind (fun j=>some j))
  cases fQ P l i <;> rfl
 | d+1,l,i=>by
  show i :: (match fQ P l i with | some j=>Je P (d+1) (l+1) j | none=>[])=RA (i :: (match fQ P l i with | some j=>Je P d (l+1) j | none=>[])) ((fQ P l i).bind (rch P (d+1) (l+1)))
  rw [RB]
  cases h:fQ P l i with
  | none=>rfl
  | some j =>
   show i :: Je P (d+1) (l+1) j=i :: RA (Je P d (l+1) j) (rch P (d+1) (l+1) j)
   rw [Lg P d (l+1) j]
theorem Lh {k j:Nat}:∀ (L:List Stp) (st:gz),((∀ s∈L,¬ (s.k=1∧s.j=j))→(L.foldl (gz.lk k) st).at_ (k+1) j=st.at_ (k+1) j) ∧
  ∀ i,(∃ s∈L,s.k=1∧s.j=j∧s.i=i)→(∀ s∈L,s.k=1→s.j=j→s.i=i)→(L.foldl (gz.lk k) st).at_ (k+1) j=some ((st.at_ k i).getD 0)
 | [],st=>⟨fun _=>rfl,fun i h _=>by obtain ⟨s,hs,_⟩:=h;cases hs⟩
 | s :: L,st=>by
  obtain ⟨h1,h2⟩:=Lh (k:=k) (j:=j) L (gz.lk k st s)
  have hk:∀ i,(gz.lk k st s).at_ k i=st.at_ k i:=fun i=>IB [s] st i
  rw [List.foldl_cons]
  constructor
  ·intro hn
   rw [h1 (fun t ht=>hn t (List.mem_cons_of_mem _ ht))]
   have:=hn s List.mem_cons_self
   unfold gz.lk
   split
   ·dsimp only
    unfold p9
    rw [if_neg (by rintro ⟨_,e⟩;exact this ⟨by assumption,e.symm⟩)]
   ·rfl
  ·rintro i ⟨t,ht,e1,e2,e3⟩ hu
   by_cases hL:∃ s∈L,s.k=1∧s.j=j
   ·obtain ⟨r,hr,r1,r2⟩:=hL
    rw [h2 i ⟨r,hr,r1,r2,hu r (List.mem_cons_of_mem _ hr) r1 r2⟩ (fun q hq=>hu q (List.mem_cons_of_mem _ hq)),hk]
   ·rw [h1 (fun q hq e=>hL ⟨q,hq,e⟩)]
    rcases List.mem_cons.1 ht with rfl | ht
    ·unfold gz.lk
     rw [if_pos e1]
     dsimp only
     unfold p9
     rw [if_pos ⟨rfl,e2.symm⟩,e3]
    ·exact absurd ⟨t,ht,e1,e2⟩ hL
theorem Yr {k:Nat}:∀ (L:List Stp) (st:gz) {m:Nat} (j:Nat),k+1<m→(L.foldl (gz.lk k) st).at_ m j=st.at_ m j
 | [],_,_,_,_=>rfl
 | s :: L,st,m,j,h=>by
  rw [List.foldl_cons,Yr L _ j h]
  unfold gz.lk
  split
  ·dsimp only
   unfold p9
   rw [if_neg (by omega)]
  ·rfl
theorem NR {st:gz} {k m:Nat} (j:Nat) (h:k<m):∀ n,(st.vO k n).at_ m j=st.at_ m j
 | 0=>rfl
 | n+1=>by
  show ((st.vO k n).iv k n).at_ m j=_
  have ih:=NR (st:=st) j h n
  unfold gz.iv
  split
  ·exact ih
  ·dsimp only
   unfold p9
   rw [if_neg (by omega)]
   exact ih
def AL (P:bQ):Nat→Nat→Bool
 | 0,_=>true
 | l+1,j=>(List.range (ai P l).length).all fun i=>decide (fQ P l i≠some j)
def qD (P:bQ) (l:Nat):List (Nat × Nat):=((List.range (ai P l).length).filter (AL P l)).map fun j=>(l,j)
def LK (P:bQ):Nat→List (Nat × Nat)
 | 0=>qD P 0
 | K+1=>LK P K++qD P (K+1)
structure BQ (P:bQ) (K:Nat) (st:gz):Prop where
 out:st.out=(LK P K).map fun s=>(s.1,Je P (K-s.1) s.1 s.2)
 le:∀ s∈LK P K,s.1≤K
 at_:∀ j a,j<(ai P K).length→(st.at_ K j=some a↔∃ s,(LK P K)[a]?=some s∧rch P (K-s.1) s.1 s.2=some j)
 hi:∀ k j,K<k→st.at_ k j=none
theorem DV {P:bQ} {l:Nat} {s:Nat × Nat} (h:s∈qD P l):s.1=l∧s.2<(ai P l).length∧AL P l s.2=true:=by
 obtain ⟨j,hj,rfl⟩:=List.mem_map.1 h
 obtain ⟨h1,h2⟩:=List.mem_filter.1 hj
 exact ⟨rfl,List.mem_range.1 h1,h2⟩
theorem Bb {P:bQ} {l:Nat} {f:Nat→Option Nat} (hf:∀ j,j<(ai P l).length→(f j).isNone=AL P l j):nV f l (ai P l).length=(qD P l).map fun s=>(s.1,[s.2]):=by
 unfold nV qD
 rw [List.map_map]
 have:(List.range (ai P l).length).filter (fun j=>(f j).isNone)=(List.range (ai P l).length).filter (AL P l):=by
  apply List.filter_congr
  intro j hj
  exact hf j (List.mem_range.1 hj)
 rw [this]
 rfl
theorem Yt {P:bQ} {l:Nat} {f:Nat→Option Nat} (hf:∀ j,j<(ai P l).length→(f j).isNone=AL P l j) {j x:Nat} (hj:j<(ai P l).length) :
  (∃ s,(qD P l)[x]?=some s∧s.2=j)↔(f j).isNone=true∧x=(nV f l j).length:=by
 constructor
 ·rintro ⟨s,h1,rfl⟩
  obtain ⟨e1,e2,e3⟩:=DV (List.mem_of_getElem? h1)
  have hn:(f s.2).isNone=true:=by rw [hf _ e2];exact e3
  refine ⟨hn,(xZ hn _ e2).1 ?_⟩
  rw [Bb hf,List.getElem?_map,h1,←e1]
  rfl
 ·rintro ⟨hn,hx⟩
  have h:=(xZ (k:=l) hn _ hj).2 hx
  rw [Bb hf,List.getElem?_map] at h
  cases hs:(qD P l)[x]? with
  | none=>rw [hs] at h;cases h
  | some s =>
   rw [hs] at h
   refine ⟨s,rfl,?_⟩
   simp at h
   exact h.2
theorem abd (P:bQ):BQ P 0 ((gz.mk [] (fun _ _=>none)).vO 0 (ai P 0).length):=by
 obtain ⟨hA,hB,hC⟩:=IV (st:=⟨[],fun _ _=>none⟩) (k:=0) (fun j j' a h=>by cases h) (fun j a h=>by cases h) (ai P 0).length
 have hf:∀ j,j<(ai P 0).length→((none:Option Nat)).isNone=AL P 0 j:=fun _ _=>rfl
 have hle:∀ s∈LK P 0,s.1=0:=fun s hs=>(DV hs).1
 refine ⟨?_,fun s hs=>by rw [hle s hs];exact Nat.le_refl _,fun j a hj=>?_,fun k j hk=>NR j hk _⟩
 ·rw [hB]
  show []++nV (fun _=>none) 0 (ai P 0).length=_
  rw [List.nil_append,Bb hf]
  show (qD P 0).map _=(qD P 0).map _
  apply List.map_congr_left
  intro s hs
  rw [hle s hs]
  rfl
 ·rw [hC j a hj]
  have:=Yt (P:=P) (l:=0) (f:=fun _=>none) hf (x:=a) hj
  constructor
  ·rintro (h | ⟨h1,h2⟩)
   ·cases h
   ·obtain ⟨s,k1,k2⟩:=this.2 ⟨h1,by simpa using h2⟩
    refine ⟨s,k1,?_⟩
    rw [hle s (List.mem_of_getElem? k1)]
    exact congrArg some k2
  ·rintro ⟨s,k1,k2⟩
   rw [hle s (List.mem_of_getElem? k1)] at k2
   right
   obtain ⟨h1,h2⟩:=this.1 ⟨s,k1,Option.some.inj k2⟩
   exact ⟨h1,by simpa using h2⟩
theorem abe {P:bQ} {K:Nat} {st:gz} (h:BQ P K st) (hh:∀ i,i<(ai P K).length→∃ a,st.at_ K i=some a) (hK:K+1<P.lg.length):BQ P (K+1) (((aZ P K).foldl (gz.lk K) st).vO (K+1) (ai P (K+1)).length):=by
 obtain ⟨s1,hs1⟩ : ∃ q,q=(aZ P K).foldl (gz.lk K) st:=⟨_,rfl⟩
 have ho:s1.out=st.out:=by rw [hs1];exact Pp _ _
 have hfa:∀ j a,s1.at_ (K+1) j=some a↔∃ i,fQ P K i=some j∧st.at_ K i=some a:=by
  intro j a
  rw [hs1]
  obtain ⟨h1,h2⟩:=Lh (k:=K) (j:=j) (aZ P K) st
  by_cases hm:∃ i,fQ P K i=some j
  ·obtain ⟨i,hi⟩:=hm
   obtain ⟨_,s,e1,e2,e3,e4⟩:=sw.1 hi
   rw [h2 i ⟨s,e1,e2,e4,e3⟩ (fun t ht t1 t2=>by
    have:=((PN P K).one t ht s e1 t1 e2).2 (by omega)
    omega)]
   obtain ⟨b,hb⟩:=hh i (jS hi).2.1
   rw [hb]
   constructor
   ·intro e
    exact ⟨i,hi,by rw [hb];exact e⟩
   ·rintro ⟨i',e5,e6⟩
    rw [Yo e5 hi,hb] at e6
    exact e6
  ·rw [h1 (fun s hs e=>hm ⟨s.i,sw.2 ⟨hK,s,hs,e.1,rfl,e.2⟩⟩),h.hi _ _ (Nat.lt_succ_self K)]
   constructor
   ·intro e;cases e
   ·rintro ⟨i,e,_⟩;exact absurd ⟨i,e⟩ hm
 have hsl:st.out.length=(LK P K).length:=by rw [h.out,List.length_map]
 have hinj:∀ j j' a,s1.at_ (K+1) j=some a→s1.at_ (K+1) j'=some a→j=j':=by
  intro j j' a h1 h2
  obtain ⟨i,e1,e2⟩:=(hfa _ _).1 h1
  obtain ⟨i',e3,e4⟩:=(hfa _ _).1 h2
  obtain ⟨s,k1,k2⟩:=(h.at_ i a (jS e1).2.1).1 e2
  obtain ⟨s',k3,k4⟩:=(h.at_ i' a (jS e3).2.1).1 e4
  rw [k1] at k3
  cases k3
  rw [k2] at k4
  cases k4
  rw [e1] at e3
  exact Option.some.inj e3
 have hlt:∀ j a,s1.at_ (K+1) j=some a→a<s1.out.length:=by
  intro j a h1
  obtain ⟨i,e1,e2⟩:=(hfa _ _).1 h1
  obtain ⟨s,k1,_⟩:=(h.at_ i a (jS e1).2.1).1 e2
  rw [ho,hsl]
  exact (List.getElem?_eq_some_iff.1 k1).1
 obtain ⟨hA,hB,hC⟩:=IV hinj hlt (ai P (K+1)).length
 have hrc:∀ (a:Nat) (s:Nat × Nat),(LK P K)[a]?=some s→∀ j,rch P (K+1-s.1) s.1 s.2=some j↔s1.at_ (K+1) j=some a:=by
  intro a s hs j
  have hle:=h.le s (List.mem_of_getElem? hs)
  rw [show K+1-s.1=(K-s.1)+1 by omega,Lf,show s.1+(K-s.1)=K by omega,hfa]
  constructor
  ·intro e
   obtain ⟨i,e1,e2⟩:=Option.bind_eq_some_iff.1 e
   exact ⟨i,e2,(h.at_ i a (jS e2).2.1).2 ⟨s,hs,e1⟩⟩
  ·rintro ⟨i,e1,e2⟩
   obtain ⟨s',k1,k2⟩:=(h.at_ i a (jS e1).2.1).1 e2
   rw [hs] at k1
   cases k1
   exact Option.bind_eq_some_iff.2 ⟨i,k2,e1⟩
 have hfr:∀ j,j<(ai P (K+1)).length→(s1.at_ (K+1) j).isNone=AL P (K+1) j:=by
  intro j hj
  rw [Bool.eq_iff_iff,Option.isNone_iff_eq_none]
  show _↔(List.range (ai P K).length).all (fun i=>decide (fQ P K i≠some j))=true
  rw [List.all_eq_true]
  constructor
  ·intro e i hi
   refine decide_eq_true (fun e2=>?_)
   obtain ⟨a,ha⟩:=hh i (List.mem_range.1 hi)
   have:=(hfa j a).2 ⟨i,e2,ha⟩
   rw [e] at this
   cases this
  ·intro e
   cases hx:s1.at_ (K+1) j with
   | none=>rfl
   | some a =>
    obtain ⟨i,e1,_⟩:=(hfa j a).1 hx
    exact absurd e1 (of_decide_eq_true (e i (List.mem_range.2 (jS e1).2.1)))
 have hle2:∀ s∈qD P (K+1),s.1=K+1:=fun s hs=>(DV hs).1
 rw [←hs1]
 refine ⟨?_,fun s hs=>?_,fun j a hj=>?_,fun k j hk=>?_⟩
 ·rw [hB]
  show _=(LK P K++qD P (K+1)).map _
  rw [List.map_append,Bb hfr]
  congr 1
  ·apply List.ext_getElem?
   intro x
   rw [List.getElem?_mapIdx,List.getElem?_map,ho,h.out,List.getElem?_map]
   cases hx:(LK P K)[x]? with
   | none=>rfl
   | some s =>
    have hle:=h.le s (List.mem_of_getElem? hx)
    have he:Jd (s1.at_ (K+1)) (ai P (K+1)).length x=rch P (K+1-s.1) s.1 s.2:=by
     apply Option.ext
     intro j
     rw [IU hinj,hrc x s hx]
     constructor
     ·exact fun e=>e.2
     ·intro e
      obtain ⟨i,e1,_⟩:=(hfa j x).1 e
      exact ⟨(jS e1).2.2,e⟩
    simp only [Option.map_some]
    rw [he,show K+1-s.1=(K-s.1)+1 by omega,Lg]
    congr 1
    cases rch P (K-s.1+1) s.1 s.2 <;> rfl
  ·apply List.map_congr_left
   intro s hs
   rw [hle2 s hs,Nat.sub_self]
   rfl
 ·rcases List.mem_append.1 (show s∈LK P K++qD P (K+1) from hs) with hs | hs
  ·exact Nat.le_succ_of_le (h.le s hs)
  ·rw [hle2 s hs];exact Nat.le_refl _
 ·rw [hC j a hj]
  have hne:=Yt (P:=P) (l:=K+1) hfr (x:=a-(LK P K).length) hj
  show _↔∃ s,(LK P K++qD P (K+1))[a]?=some s∧_
  rw [ho,hsl]
  rcases Nat.lt_or_ge a (LK P K).length with ha | ha
  ·rw [List.getElem?_append_left ha]
   constructor
   ·rintro (e | ⟨_,e⟩)
    ·exact ⟨_,List.getElem?_eq_getElem ha,(hrc a _ (List.getElem?_eq_getElem ha) j).2 e⟩
    ·omega
   ·rintro ⟨s,e1,e2⟩
    exact .inl ((hrc a s e1 j).1 e2)
  ·rw [List.getElem?_append_right ha]
   constructor
   ·rintro (e | ⟨e1,e2⟩)
    ·have:=hlt j a e
     rw [ho,hsl] at this
     omega
    ·obtain ⟨s,k1,k2⟩:=hne.2 ⟨e1,by omega⟩
     refine ⟨s,k1,?_⟩
     rw [hle2 s (List.mem_of_getElem? k1),Nat.sub_self]
     exact congrArg some k2
   ·rintro ⟨s,k1,k2⟩
    rw [hle2 s (List.mem_of_getElem? k1),Nat.sub_self] at k2
    obtain ⟨e1,e2⟩:=hne.1 ⟨s,k1,Option.some.inj k2⟩
    exact .inr ⟨e1,by omega⟩
 ·rw [NR j hk,hs1,Yr _ _ j (by omega)]
  exact h.hi _ _ (by omega)
theorem Yu (P:bQ):∀ K,K<P.lg.length→BQ P K ((ky P K).vO K (ai P K).length)
 | 0,_=>abd P
 | K+1,h=>abe (Yu P K (by omega)) (fun i hi=>AY _ _ i hi) h
def PO (P:bQ):List (Nat × List Nat):=(LK P (P.lg.length-1)).map fun s=>(s.1,Je P (P.lg.length-1-s.1) s.1 s.2)
theorem abf {P:bQ} (h:0<P.lg.length):uN P=PO P:=(Yu P (P.lg.length-1) (by omega)).out
end Go.Proofs.YtglncfkoohgdaaaGreatDoor
namespace Go.Proofs.YtglncfkoohgdaaaGreatDoor
theorem ai6 {t:Option Rat} {x u:Rat} (h:o9 t x=some u):u≤x∧∀ z,t=some z→u≤z:=by
 unfold o9 at h
 cases t with
 | none =>
  cases h
  exact ⟨Rat.le_refl,fun z hz=>by cases hz⟩
 | some y =>
  dsimp only at h
  split at h <;> cases h
  ·exact ⟨Rat.le_refl,fun z hz=>by cases hz;grind⟩
  ·exact ⟨by grind,fun z hz=>by cases hz;exact Rat.le_refl⟩
theorem least_le {C:Cs} {L R:List Iv} {T:Nat→Nat→Option Rat} {i j:Nat}:∀ (ks:List Nat) (t:Option Rat) (y:Rat),dP C L R T i j ks t=some y→(∀ z,t=some z→y≤z)∧∀ k∈ks,bF L R k i j=true→y≤(T (gD k i) (iD k j)).getD 0+bY C L R k i j
 | [],t,y,h=>by
  unfold dP at h
  exact ⟨fun z hz=>by rw [h] at hz;cases hz;exact Rat.le_refl,fun k hk=>by cases hk⟩
 | k :: ks,t,y,h=>by
  unfold dP at h
  obtain ⟨h1,h2⟩:=least_le ks _ y h
  by_cases hc:bF L R k i j=true
  ·rw [if_pos hc] at h1
   obtain ⟨u,hu⟩:=PZ t ((T (gD k i) (iD k j)).getD 0+bY C L R k i j)
   obtain ⟨k1,k2⟩:=ai6 hu
   have h3:=h1 u hu
   refine ⟨fun z hz=>Rat.le_trans h3 (k2 z hz),fun m hm hcm=>?_⟩
   rcases List.mem_cons.1 hm with rfl | hm
   ·exact Rat.le_trans h3 k1
   ·exact h2 m hm hcm
  ·rw [if_neg hc] at h1
   refine ⟨h1,fun m hm hcm=>?_⟩
   rcases List.mem_cons.1 hm with rfl | hm
   ·exact absurd hcm hc
   ·exact h2 m hm hcm
structure aiP (C:Cs) (L:List Iv):Prop where
 ch:0<C.ch
 mi:0<C.mi
 ga:0<C.ga
 th:∀ i,i<L.length→0<aH (ah L i)
 ne:∀ i,i<L.length→qO L i=false
theorem ai7 (q:Rat):0≤abQ q:=by unfold abQ;split <;> grind
theorem aib {C:Cs} {L:List Iv} (h:aiP C L):∀ (d i j:Nat),i≤L.length→j≤L.length→L.length+L.length≤d+(i+j)→0≤bI C L L i j∧(i=j→bI C L L i j=0)∧(i≠j→0<bI C L L i j)
 | 0,i,j,hi,hj,hd=>by
  obtain rfl:i=L.length:=by omega
  obtain rfl:j=L.length:=by omega
  have e:bI C L L L.length L.length=0:=by unfold bI;rw [sN];rfl
  exact ⟨by rw [e];exact Rat.le_refl,fun _=>e,fun hn=>absurd rfl hn⟩
 | d+1,i,j,hi,hj,hd=>by
  by_cases he:i=L.length∧j=L.length
  ·obtain ⟨rfl,rfl⟩:=he
   have e:bI C L L L.length L.length=0:=by unfold bI;rw [sN];rfl
   exact ⟨by rw [e];exact Rat.le_refl,fun _=>e,fun hn=>absurd rfl hn⟩
  ·have h1:=yt (C:=C) hi hj
   rw [wQ hi hj he] at h1
   have ih:∀ k,k∈kinds→bF L L k i j=true→0≤bI C L L (gD k i) (iD k j)∧(gD k i=iD k j→bI C L L (gD k i) (iD k j)=0)∧(gD k i≠iD k j→0<bI C L L (gD k i) (iD k j)):=fun k hk hc=>by
    obtain ⟨n1,n2,n3⟩:=fU hk hc hi hj
    exact aib h d (gD k i) (iD k j) n1 n2 (by omega)
   have hv:∀ a b,(um C L L a b).getD 0=bI C L L a b:=fun _ _=>rfl
   have low:0≤bI C L L i j∧(i≠j→0<bI C L L i j):=by
    rcases BF _ _ _ h1 with e | ⟨k,hk,hc,e⟩
    ·cases e
    ·obtain ⟨r1,r2,r3⟩:=ih k hk hc
     rw [hv] at e
     rw [←e]
     unfold kinds at hk
     simp only [List.mem_cons,List.not_mem_nil,or_false] at hk
     rcases hk with rfl | rfl | rfl | rfl | rfl
     ·have hh:i<L.length∧j<L.length:=by simpa [bF] using hc
      have t1:=h.th i hh.1
      have t2:=h.th j hh.2
      have t3:=Rat.mul_nonneg (Rat.le_of_lt h.ch) (ai7 (aH (ah L i)-aH (ah L j)))
      have t4:=Rat.mul_pos h.mi (show 0<aH (ah L i)+aH (ah L j) by grind)
      have ajx:0≤bY C L L 1 i j:=by
       unfold bY
       rw [if_pos rfl]
       split
       ·exact t3
       ·grind
      refine ⟨by grind,fun hn=>?_⟩
      have:=r3 (by unfold gD iD;simp;omega)
      grind
     ·have hh:i<L.length:=by simpa [bF] using hc
      have t1:=Rat.mul_pos h.ga (h.th i hh)
      have e2:bY C L L 2 i j=C.ga*aH (ah L i):=rfl
      rw [e2]
      exact ⟨by grind,fun _=>by grind⟩
     ·have hh:j<L.length:=by simpa [bF] using hc
      have t1:=Rat.mul_pos h.ga (h.th j hh)
      have e2:bY C L L 3 i j=C.ga*aH (ah L j):=rfl
      rw [e2]
      exact ⟨by grind,fun _=>by grind⟩
     ·have hh:i<L.length∧qO L i=true:=by simpa [bF] using hc
      rw [h.ne i hh.1] at hh
      exact absurd hh.2 (by decide)
     ·have hh:j<L.length∧qO L j=true:=by simpa [bF] using hc
      rw [h.ne j hh.1] at hh
      exact absurd hh.2 (by decide)
   refine ⟨low.1,fun hij=>?_,low.2⟩
   subst hij
   have hlt:i<L.length:=by omega
   have hc:bF L L 1 i i=true:=by simp [bF,hlt]
   have hu:=(least_le _ _ _ h1).2 1 (by decide) hc
   rw [hv,(ih 1 (by decide) hc).2.1 rfl] at hu
   have e2:bY C L L 1 i i=0:=by
    unfold bY
    rw [if_pos rfl,if_pos rfl,Rat.sub_self]
    unfold abQ
    grind
   rw [e2] at hu
   have:=low.1
   grind
theorem ahZ {C:Cs} {L:List Iv} (h:aiP C L) {i:Nat} (hi:i≤L.length):bI C L L i i=0:=(aib h (L.length+L.length) i i hi hi (by omega)).2.1 rfl
def wG:Nat→Nat→List Stp
 | 0,_=>[]
 | n+1,i=>⟨1,i,i⟩ :: wG n (i+1)
theorem aic {C:Cs} {L:List Iv} (h:aiP C L):∀ (n i:Nat),i+n=L.length→kG C L L i i=wG n i
 | 0,i,hi=>by
  obtain rfl:i=L.length:=by omega
  exact yu C L L
 | n+1,i,hi=>by
  have hlt:i<L.length:=by omega
  have hc:bF L L 1 i i=true:=by simp [bF,hlt]
  have e2:bY C L L 1 i i=0:=by
   unfold bY
   rw [if_pos rfl,if_pos rfl,Rat.sub_self]
   unfold abQ
   grind
  have hg:fV C L L i i 1=true:=by
   unfold fV
   rw [hc,Bool.true_and]
   apply decide_eq_true
   show bY C L L 1 i i+bI C L L (i+1) (i+1)=_
   rw [e2,ahZ h (by omega),ahZ h (by omega)]
   exact Rat.zero_add 0
  have hk:eX C L L i i=1:=by unfold eX kinds;rw [List.find?_cons,hg];rfl
  rw [BG (by omega) (by omega) (by omega),hk]
  show _ :: kG C L L (i+1) (i+1)=_
  rw [aic h n (i+1) (by omega)]
  rfl
theorem ah5 {s:Stp}:∀ (n i:Nat),s∈wG n i↔s.k=1∧s.i=s.j∧i≤s.i∧s.i<i+n
 | 0,i=>by constructor <;> intro h;cases h;omega
 | n+1,i=>by
  unfold wG
  rw [List.mem_cons,ah5 n (i+1)]
  obtain ⟨k,a,b⟩:=s
  rw [Stp.mk.injEq]
  dsimp only
  omega
structure Thr (P:bQ) (L:List Iv):Prop where
 lg:P.lg=[L,L,L]
 xs:P.xs=[0,1,3]
 tp:P.tp=[5,5,5]
 own:aiP P.cs L
theorem Thr.at_ {P:bQ} {L:List Iv} (h:Thr P L) {k:Nat} (hk:k<3):ai P k=L:=by
 unfold ai
 rw [h.lg]
 rcases (show k=0∨k=1∨k=2 by omega) with rfl | rfl | rfl <;> rfl
theorem Thr.link {P:bQ} {L:List Iv} (h:Thr P L) {k:Nat} (hk:k<2):aZ P k=wG L.length 0:=by
 unfold aZ
 rw [h.at_ (by omega),h.at_ (by omega)]
 exact aic h.own L.length 0 (by omega)
theorem Thr.total {P:bQ} {L:List Iv} (h:Thr P L):qB P 2=0:=by
 have e:∀ k,k<2→tY P k=0:=fun k hk=>by
  unfold tY
  rw [h.at_ (by omega),h.at_ (by omega)]
  exact ahZ h.own (Nat.zero_le _)
 rw [FC,FC,e 0 (by omega),e 1 (by omega),Rat.add_zero,Rat.add_zero]
 rfl
theorem Thr.prt {P:bQ} {L:List Iv} (h:Thr P L) {k i:Nat} (hk:k<2) (hi:i<L.length):fQ P k i=some i:=by
 rw [sw,h.lg,h.link hk]
 exact ⟨by simp;omega,⟨1,i,i⟩,(ah5 _ _).2 ⟨rfl,rfl,Nat.zero_le _,by simpa using hi⟩,rfl,rfl,rfl⟩
theorem Thr.uj {P:bQ} {L:List Iv} (h:Thr P L):((uN P).filter fun b=>decide (b.2.length=P.lg.length)).length=L.length:=by
 have hl:P.lg.length=3:=by rw [h.lg];rfl
 rw [abf (by omega)]
 unfold PO
 rw [hl]
 have n0:qD P 0=(List.range L.length).map fun j=>(0,j):=by
  unfold qD
  rw [h.at_ (by omega),List.filter_eq_self.2 (show ∀ j∈List.range L.length,AL P 0 j=true from fun _ _=>rfl)]
 have n1:∀ l,l<2→qD P (l+1)=[]:=fun l hl=>by
  unfold qD
  rw [h.at_ (by omega),List.filter_eq_nil_iff.2,List.map_nil]
  intro j hj hf
  rw [List.mem_range] at hj
  unfold AL at hf
  rw [List.all_eq_true] at hf
  have:=hf j (by rw [h.at_ (by omega)];exact List.mem_range.2 hj)
  rw [decide_eq_true_eq] at this
  exact this (h.prt (by omega) hj)
 show (((((qD P 0++qD P (0+1))++qD P (1+1))).map _).filter _).length=_
 rw [n1 0 (by omega),n1 1 (by omega),List.append_nil,List.append_nil,n0,List.map_map,List.filter_eq_self.2,List.length_map,List.length_range]
 intro b hb
 obtain ⟨j,hj,rfl⟩:=List.mem_map.1 hb
 rw [List.mem_range] at hj
 show decide ((Je P 2 0 j).length=3)=true
 simp only [Je,h.prt (show 0<2 by omega) hj,h.prt (show 0+1<2 by omega) hj,List.length_cons,List.length_nil]
 rfl
end Go.Proofs.YtglncfkoohgdaaaGreatDoor
