import Derived.Test.YtglncfkoohgdaaaGreatDoorMathR
set_option maxHeartbeats 2000000
namespace Go.Proofs.YtglncfkoohgdaaaGreatDoor
def dH (a b c:Rat × Rat):Rat:=(b.1-a.1)*(c.2-a.2)-(b.2-a.2)*(c.1-a.1)
def ins (a b x:Rat):Prop:=(x-a)*(x-b)≤0
def btw (a b p:Rat × Rat):Prop:=ins a.1 b.1 p.1∧ins a.2 b.2 p.2
def Lp (l:List (Rat × Rat)) (a b:Rat × Rat):Prop:=a≠b∧∀ p∈l,0≤dH a b p∧(dH a b p=0→btw a b p)
theorem mW (t:Rat):0≤t*t:=by
 rcases Rat.le_total (a:=0) (b:=t) with h | h
 ·exact Rat.mul_nonneg h h
 ·have:=Rat.mul_nonneg (show 0 ≤ -t by grind) (show 0 ≤ -t by grind)
  grind
theorem mX {t:Rat} (h:t*t≤0):t=0:=by
 have:=mW t
 have h0:t*t=0:=by grind
 rcases Rat.mul_eq_zero.1 h0 with h | h <;> exact h
theorem JI {a x y:Rat} (h:ins a x y) (k:ins a y x):x=y:=by
 unfold ins at *
 have:(x-y)*(x-y)≤0:=by grind
 have:=mX this
 grind
theorem EH {a b x:Rat} (h:ins a x b) (k:ins b x a):a=b:=by
 unfold ins at *
 have:(a-b)*(a-b)≤0:=by grind
 have:=mX this
 grind
theorem JJ (a b:Rat):ins a b a:=by unfold ins;grind
theorem EI (a b:Rat):ins a b b:=by unfold ins;grind
theorem JK (a b:Rat × Rat):btw a b a:=⟨JJ _ _,JJ _ _⟩
theorem yj (a b:Rat × Rat):btw a b b:=⟨EI _ _,EI _ _⟩
theorem BZ {l:List (Rat × Rat)} {a x y:Rat × Rat} (h:Lp l a x) (k:Lp l a y) (hx:x∈l) (hy:y∈l):x=y:=by
 obtain ⟨h1,h2⟩:=h.2 y hy
 obtain ⟨k1,k2⟩:=k.2 x hx
 have e:dH a y x = -dH a x y:=by unfold dH;grind
 have e0:dH a x y=0:=by grind
 have e1:dH a y x=0:=by grind
 exact Prod.ext (JI (h2 e0).1 (k2 e1).1) (JI (h2 e0).2 (k2 e1).2)
theorem YW {l:List (Rat × Rat)} {a b x:Rat × Rat} (h:Lp l a x) (k:Lp l b x) (ha:a∈l) (hb:b∈l):a=b:=by
 obtain ⟨h1,h2⟩:=h.2 b hb
 obtain ⟨k1,k2⟩:=k.2 a ha
 have e:dH b x a = -dH a x b:=by unfold dH;grind
 have e0:dH a x b=0:=by grind
 have e1:dH b x a=0:=by grind
 exact Prod.ext (EH (h2 e0).1 (k2 e1).1) (EH (h2 e0).2 (k2 e1).2)
def xp (u v:Rat × Rat):Rat:=u.1*v.2-u.2*v.1
def dp (u v:Rat × Rat):Rat:=u.1*v.1+u.2*v.2
def way (a b:Rat × Rat):Rat × Rat:=(b.1-a.1,b.2-a.2)
theorem qR (a b c:Rat × Rat):dH a b c=xp (way a b) (way a c):=by unfold dH xp way;rfl
def Half (e u:Rat × Rat):Prop:=0<xp e u∨(xp e u=0∧dp e u<0)
theorem wT (u v:Rat × Rat):xp v u = -xp u v:=by unfold xp;grind
theorem Tf (e u v p:Rat × Rat):xp e u*xp v p=xp e v*xp u p+xp e p*xp v u:=by unfold xp;grind
theorem qU {e u v:Rat × Rat} (hu:Half e u) (hv:Half e v) (h:xp u v=0):0<dp u v:=by
 have h1:dp e e*dp u v=xp e u*xp e v+dp e u*dp e v:=by unfold xp dp;grind
 have h2:dp e u*xp e v-xp e u*dp e v=dp e e*xp u v:=by unfold xp dp;grind
 have he:0<dp e e:=by
  have h3:0≤dp e e:=by
   have:=mW e.1
   have:=mW e.2
   unfold dp;grind
  rcases (show dp e e=0∨0<dp e e by grind) with h0 | h0
  ·exfalso
   have a1:e.1*e.1≤0:=by have:=mW e.2;unfold dp at h0;grind
   have a2:e.2*e.2≤0:=by have:=mW e.1;unfold dp at h0;grind
   have b1:=mX a1
   have b2:=mX a2
   unfold Half xp dp at hu
   rw [b1,b2] at hu
   grind
  ·exact h0
 have hp:0<dp e e*dp u v:=by
  rw [h1]
  rw [h,Rat.mul_zero] at h2
  rcases hu with hu | ⟨hu,hu'⟩
  ·rcases hv with hv | ⟨hv,hv'⟩
   ·
    have a1:=Rat.mul_pos hu hv
    have a2:dp e u*xp e v*(xp e v*dp e v)=xp e u*dp e v*(xp e v*dp e v):=by rw [show dp e u*xp e v=xp e u*dp e v by grind]
    have a3:=Rat.mul_nonneg (Rat.le_of_lt a1) (mW (dp e v))
    have a4:dp e u*dp e v*(xp e v*xp e v)=xp e u*xp e v*(dp e v*dp e v):=by grind
    have a5:0≤dp e u*dp e v:=by
     rcases (show 0≤dp e u*dp e v∨dp e u*dp e v<0 by grind) with h0 | h0
     ·exact h0
     ·exfalso
      have:=Rat.mul_pos (show 0 < -(dp e u*dp e v) by grind) (Rat.mul_pos hv hv)
      grind
    grind
   ·exfalso
    rw [hv,Rat.mul_zero] at h2
    have:=Rat.mul_pos hu (show 0 < -dp e v by grind)
    grind
  ·rcases hv with hv | ⟨hv,hv'⟩
   ·exfalso
    rw [hu,Rat.zero_mul] at h2
    have:=Rat.mul_pos (show 0 < -dp e u by grind) hv
    grind
   ·have:=Rat.mul_pos (show 0 < -dp e u by grind) (show 0 < -dp e v by grind)
    rw [hu,hv]
    grind
 exact (Rat.mul_pos_iff_of_pos_left he).1 hp
theorem ME {e u v p:Rat × Rat} (hu:Half e u) (hv:Half e v) (hp:Half e p) (h:0<xp v u) (k:0≤xp u p):0<xp v p:=by
 have h1:=Tf e u v p
 rcases (show xp v p<0∨xp v p=0∨0<xp v p by grind) with h0 | h0 | h0
 ·exfalso
  rcases hu with hu | ⟨hu,hu'⟩
  ·have a1:=Rat.mul_pos hu (show 0 < -xp v p by grind)
   have a2:0≤xp e v*xp u p:=Rat.mul_nonneg (by rcases hv with h | h <;> grind) k
   have a3:0≤xp e p*xp v u:=Rat.mul_nonneg (by rcases hp with h | h <;> grind) (Rat.le_of_lt h)
   grind
  ·
   have h2:dp e u*xp e p-xp e u*dp e p=dp e e*xp u p:=by unfold xp dp;grind
   have h3:dp e u*xp e v-xp e u*dp e v=dp e e*xp u v:=by unfold xp dp;grind
   have h4:dp e v*xp e p-xp e v*dp e p=dp e e*xp v p:=by unfold xp dp;grind
   have he:0≤dp e e:=by
    have:=mW e.1
    have:=mW e.2
    unfold dp;grind
   have a1:=Rat.mul_nonneg he k
   have hpx:xp e p=0:=by
    rcases hp with hp | hp
    ·exfalso
     have:=Rat.mul_pos (show 0 < -dp e u by grind) hp
     rw [hu] at h2
     grind
    ·exact hp.1
   have hpd:dp e p<0:=by rcases hp with hp | hp <;> grind
   have hvx:0≤xp e v:=by rcases hv with hv | hv <;> grind
   have a2:=Rat.mul_nonneg hvx (show 0 ≤ -dp e p by grind)
   have a3:=Rat.mul_nonneg he (show 0 ≤ -xp v p by grind)
   rw [hpx] at h4
   have a4:xp e v * -dp e p=0:=by grind
   have hv0:xp e v=0:=by rcases Rat.mul_eq_zero.1 a4 with h | h <;> grind
   rw [hu,hv0] at h3
   have a5:dp e e*xp u v=0:=by grind
   rcases Rat.mul_eq_zero.1 a5 with a6 | a6
   ·have b1:e.1*e.1≤0:=by have:=mW e.2;unfold dp at a6;grind
    have b2:e.2*e.2≤0:=by have:=mW e.1;unfold dp at a6;grind
    have c1:=mX b1
    have c2:=mX b2
    unfold dp at hu'
    rw [c1,c2] at hu'
    grind
   ·have:=wT u v
    grind
 ·exfalso
  have a1:=qU hv hp h0
  have h2:xp u p*dp v v=xp u v*dp v p+dp u v*xp v p:=by unfold xp dp;grind
  have hvv:0<dp v v:=qU hv hv (by unfold xp;grind)
  rw [h0,Rat.mul_zero] at h2
  have a2:=Rat.mul_nonneg k (Rat.le_of_lt hvv)
  have a3:=Rat.mul_pos (show 0 < -xp u v by have:=wT u v;grind) a1
  grind
 ·exact h0
theorem afb {a b x:Rat}:ins a b x↔(a≤x∧x≤b)∨(b≤x∧x≤a):=by
 unfold ins
 constructor
 ·intro h
  rcases (show a≤x∨x<a by grind) with h1 | h1
  ·rcases (show x≤b∨b<x by grind) with h2 | h2
   ·exact .inl ⟨h1,h2⟩
   ·rcases (show a<x∨a=x by grind) with h3 | h3
    ·exfalso
     have:=Rat.mul_pos (show 0<x-a by grind) (show 0<x-b by grind)
     grind
    ·exact .inr ⟨by grind,by grind⟩
  ·rcases (show b≤x∨x<b by grind) with h2 | h2
   ·exact .inr ⟨h2,by grind⟩
   ·exfalso
    have:=Rat.mul_pos (show 0<a-x by grind) (show 0<b-x by grind)
    grind
 ·rintro (⟨h1,h2⟩ | ⟨h1,h2⟩)
  ·have:=Rat.mul_nonneg (show 0≤x-a by grind) (show 0≤b-x by grind)
   grind
  ·have:=Rat.mul_nonneg (show 0≤a-x by grind) (show 0≤x-b by grind)
   grind
theorem Ca (a b:Rat × Rat):dH a b a=0:=by unfold dH;grind
theorem GA (a b:Rat × Rat):dH a b b=0:=by unfold dH;grind
theorem yl {u:Rat × Rat} (h:u≠(0,0)):0<dp u u:=by
 have h1:=mW u.1
 have h2:=mW u.2
 unfold dp
 rcases (show 0<u.1*u.1+u.2*u.2∨u.1*u.1+u.2*u.2≤0 by grind) with h0 | h0
 ·exact h0
 ·exfalso
  exact h (Prod.ext (mX (by grind)) (mX (by grind)))
theorem GD {a b:Rat × Rat} (h:b≠a):way a b≠(0,0):=by
 intro e
 unfold way at e
 have e1:b.1-a.1=0:=congrArg Prod.fst e
 have e2:b.2-a.2=0:=congrArg Prod.snd e
 exact h (Prod.ext (by grind) (by grind))
theorem Qh {a x q:Rat × Rat} (hx:x≠a) (h0:dH a x q=0) (hd:0<dp (way a x) (way a q)) :
  btw a x q∨(btw a q x∧∀ p,0≤dH a x p→0≤dH a q p∧(dH a q p=0→dH a x p=0)):=by
 have hU:=yl (GD hx)
 rw [qR] at h0
 have m1:(way a q).1*dp (way a x) (way a x)=(way a x).1*dp (way a x) (way a q):=by unfold xp at h0;unfold dp;grind
 have m2:(way a q).2*dp (way a x) (way a x)=(way a x).2*dp (way a x) (way a q):=by unfold xp at h0;unfold dp;grind
 generalize hUU:dp (way a x) (way a x)=U at *
 generalize hDD:dp (way a x) (way a q)=D at *
 rcases (show D≤U∨U<D by grind) with h | h
 ·left
  have key:∀ u v:Rat,v*U=u*D→v*(v-u)≤0:=fun u v e=>by
   have e2:v*(v-u)*(U*U)=u*u*(D*(D-U)):=by grind
   have b1:=Rat.mul_nonneg (mW u) (Rat.mul_nonneg (Rat.le_of_lt hd) (show 0≤U-D by grind))
   rcases (show v*(v-u)≤0∨0<v*(v-u) by grind) with h0 | h0
   ·exact h0
   ·exfalso
    have:=Rat.mul_pos h0 (Rat.mul_pos hU hU)
    grind
  have k1:=key _ _ m1
  have k2:=key _ _ m2
  unfold way at k1 k2
  have k1':(q.1-a.1)*((q.1-a.1)-(x.1-a.1))≤0:=k1
  have k2':(q.2-a.2)*((q.2-a.2)-(x.2-a.2))≤0:=k2
  exact ⟨by unfold ins;grind,by unfold ins;grind⟩
 ·right
  have key:∀ u v:Rat,v*U=u*D→u*(u-v)≤0:=fun u v e=>by
   have e2:u*(u-v)*U=u*u*(U-D):=by grind
   have b1:=Rat.mul_nonneg (mW u) (show 0≤D-U by grind)
   rcases (show u*(u-v)≤0∨0<u*(u-v) by grind) with h0 | h0
   ·exact h0
   ·exfalso
    have:=Rat.mul_pos h0 hU
    grind
  have k1:=key _ _ m1
  have k2:=key _ _ m2
  refine ⟨?_,fun p hp=>?_⟩
  ·unfold way at k1 k2
   have k1':(x.1-a.1)*((x.1-a.1)-(q.1-a.1))≤0:=k1
   have k2':(x.2-a.2)*((x.2-a.2)-(q.2-a.2))≤0:=k2
   exact ⟨by unfold ins;grind,by unfold ins;grind⟩
  ·have e:dH a q p*U=dH a x p*D:=by
    rw [qR,qR]
    unfold xp
    grind
   constructor
   ·rcases (show 0≤dH a q p∨dH a q p<0 by grind) with h1 | h1
    ·exact h1
    ·exfalso
     have b1:=Rat.mul_pos (show 0 < -dH a q p by grind) hU
     have b2:=Rat.mul_nonneg hp (Rat.le_of_lt hd)
     grind
   ·intro h1
    rw [h1,Rat.zero_mul] at e
    rcases Rat.mul_eq_zero.1 e.symm with h2 | h2
    ·exact h2
    ·exfalso;grind
def dZ (a b:Rat × Rat):Prop:=a.1<b.1∨(a.1=b.1∧a.2<b.2)
theorem ym {α:Type} [BEq α] [LawfulBEq α]:∀ (P l:List α),P.Nodup→(∀ p∈P,p∈l)→P.length≤l.length
 | [],_,_,_=>Nat.zero_le _
 | p :: P,l,hn,hs=>by
  have hp:=hs p (List.mem_cons_self ..)
  obtain ⟨h1,h2⟩:=List.nodup_cons.1 hn
  have ih:=ym P (l.erase p) h2 (fun q hq=>by
   have hne:q≠p:=fun e=>h1 (by rw [←e];exact hq)
   exact (List.mem_erase_of_ne hne).2 (hs q (List.mem_cons_of_mem _ hq)))
  have hl:(l.erase p).length=l.length-1:=List.length_erase_of_mem hp
  have:0<l.length:=List.length_pos_of_mem hp
  rw [List.length_cons]
  omega
structure Part (l P:List (Rat × Rat)):Prop where
 ne:0<P.length
 mem:∀ p∈P,p∈l
 least:∀ p∈l,¬ dZ p P[0]
 nx:∀ i (h:i+1<P.length),Lp l P[i] P[i+1]
 fresh:∀ i (h:i<P.length),0<i→P[i]≠P[0]
theorem Part.inj {l P:List (Rat × Rat)} (h:Part l P):∀ (i j:Nat) (hi:i<P.length) (hj:j<P.length),i<j→P[i]≠P[j]
 | 0,j,hi,hj,hij=>fun e=>h.fresh j hj hij e.symm
 | i+1,j,hi,hj,hij=>fun e=>by
  obtain ⟨k,rfl⟩ : ∃ k,j=k+1:=⟨j-1,by omega⟩
  have a:=h.nx i hi
  have b:=h.nx k hj
  rw [e] at a
  exact h.inj i k (by omega) (by omega) (by omega) (YW a b (h.mem _ (List.getElem_mem _)) (h.mem _ (List.getElem_mem _)))
theorem Part.nodup {l P:List (Rat × Rat)} (h:Part l P):P.Nodup:=by
 rw [List.nodup_iff_pairwise_ne]
 exact List.pairwise_iff_getElem.2 fun i j hi hj hij=>h.inj i j hi hj hij
theorem Part.len {l P:List (Rat × Rat)} (h:Part l P):P.length≤l.length:=ym P l h.nodup h.mem
structure jh (l P:List (Rat × Rat)):Prop extends Part l P where
 close:(P.length=1∧∀ p∈l,p=P[0]'ne)∨Lp l (P[P.length-1]'(by omega)) (P[0]'ne)
theorem jh.head {l P Q:List (Rat × Rat)} (h:jh l P) (k:jh l Q):P[0]'h.ne=Q[0]'k.ne:=by
 have a:=h.least _ (k.mem _ (List.getElem_mem k.ne))
 have b:=k.least _ (h.mem _ (List.getElem_mem h.ne))
 unfold dZ at *
 refine Prod.ext ?_ ?_ <;> grind
theorem jh.same {l P Q:List (Rat × Rat)} (h:jh l P) (k:jh l Q):∀ i (hi:i<P.length) (hj:i<Q.length),P[i]=Q[i]
 | 0,_,_=>h.head k
 | i+1,hi,hj=>by
  have e:=h.same k i (by omega) (by omega)
  have a:=h.nx i hi
  have b:=k.nx i hj
  rw [e] at a
  exact BZ a b (h.mem _ (List.getElem_mem _)) (k.mem _ (List.getElem_mem _))
theorem jh.le {l P Q:List (Rat × Rat)} (h:jh l P) (k:jh l Q):Q.length≤P.length:=by
 apply Nat.le_of_not_lt
 intro hlt
 have hne:=h.ne
 have e:=h.same k (P.length-1) (by omega) (by omega)
 have b:=k.nx (P.length-1) (by omega)
 rcases h.close with ⟨h1,h2⟩ | h1
 ·have a1:=h2 _ (k.mem _ (List.getElem_mem (show P.length-1+1<Q.length by omega)))
  have a2:=h2 _ (k.mem _ (List.getElem_mem (show P.length-1<Q.length by omega)))
  exact b.1 (by rw [a1,a2])
 ·rw [e] at h1
  have a1:=BZ h1 b (h.mem _ (List.getElem_mem _)) (k.mem _ (List.getElem_mem _))
  rw [h.head k] at a1
  exact k.fresh _ (show P.length-1+1<Q.length by omega) (by omega) a1.symm
theorem jh.unique {l P Q:List (Rat × Rat)} (h:jh l P) (k:jh l Q):P=Q:=by
 have e:P.length=Q.length:=Nat.le_antisymm (k.le h) (h.le k)
 exact List.ext_getElem e fun i hi hj=>h.same k i hi hj
def ji (n i:Nat):Nat:=if i+1<n then i+1 else 0
theorem qV {n i:Nat} (h:0<n):ji n i<n:=by unfold ji;split <;> omega
theorem jh.side {l P:List (Rat × Rat)} (h:jh l P) (h2:2≤P.length) (i:Nat) (hi:i<P.length):Lp l P[i] (P[ji P.length i]'(qV h.ne)):=by
 unfold ji
 by_cases h1:i+1<P.length
 ·simp only [if_pos h1]
  exact h.nx i h1
 ·simp only [if_neg h1]
  have e:P.length-1=i:=by omega
  rcases h.close with ⟨h3,_⟩ | h3
  ·omega
  ·simp only [e] at h3
   exact h3
theorem Tg {l:List (Rat × Rat)} {a b c y:Rat × Rat} (ha:a∈l) (hb:b∈l) (hcl:c∈l) (hab:Lp l a b) (hcy:Lp l c y) (IK:c≠a) (hcb:c≠b):0<dH a b c:=by
 obtain ⟨h1,h2⟩:=hab.2 c hcl
 rcases (show 0<dH a b c∨dH a b c=0 by grind) with h0 | h0
 ·exact h0
 ·exfalso
  obtain ⟨k1,k2⟩:=h2 h0
  obtain ⟨pa,qa⟩:=hcy.2 a ha
  obtain ⟨pb,qb⟩:=hcy.2 b hb
  have hu:=yl (GD (Ne.symm IK))
  have hv:=yl (GD (Ne.symm hcb))
  have e0:xp (way c a) (way c b)=0:=by
   have:dH a b c=xp (way c a) (way c b):=by unfold dH xp way;grind
   rw [←this];exact h0
  rw [qR] at pa pb qa qb
  have hD:dp (way c a) (way c b)<0:=by
   have d0:dp (way c a) (way c b)≤0:=by
    unfold ins at k1 k2
    unfold dp way
    show (a.1-c.1)*(b.1-c.1)+(a.2-c.2)*(b.2-c.2)≤0
    grind
   rcases (show dp (way c a) (way c b)<0∨dp (way c a) (way c b)=0 by grind) with h | h
   ·exact h
   ·exfalso
    have e:dp (way c a) (way c a)*dp (way c b) (way c b)=dp (way c a) (way c b)*dp (way c a) (way c b)+xp (way c a) (way c b)*xp (way c a) (way c b):=by unfold dp xp;grind
    have:=Rat.mul_pos hu hv
    rw [h,e0] at e
    grind
  have i1:xp (way c y) (way c a)*dp (way c b) (way c b)=xp (way c y) (way c b)*dp (way c a) (way c b)-dp (way c y) (way c b)*xp (way c a) (way c b):=by unfold xp dp;grind
  rw [e0,Rat.mul_zero] at i1
  have z1:xp (way c y) (way c a)=0:=by
   have b1:=Rat.mul_nonneg pa (Rat.le_of_lt hv)
   have b2:=Rat.mul_nonneg pb (show 0 ≤ -dp (way c a) (way c b) by grind)
   have b3:xp (way c y) (way c a)*dp (way c b) (way c b)=0:=by grind
   rcases Rat.mul_eq_zero.1 b3 with h | h
   ·exact h
   ·exfalso;grind
  have z2:xp (way c y) (way c b)=0:=by
   rw [z1,Rat.zero_mul] at i1
   have b3:xp (way c y) (way c b)*dp (way c a) (way c b)=0:=by grind
   rcases Rat.mul_eq_zero.1 b3 with h | h
   ·exact h
   ·exfalso;grind
  obtain ⟨u1,u2⟩:=qa z1
  obtain ⟨v1,v2⟩:=qb z2
  have m1:0<dp (way c a) (way c y):=by
   unfold ins at u1 u2
   unfold dp way at *
   have hu':0<(a.1-c.1)*(a.1-c.1)+(a.2-c.2)*(a.2-c.2):=hu
   show 0<(a.1-c.1)*(y.1-c.1)+(a.2-c.2)*(y.2-c.2)
   grind
  have m2:0<dp (way c b) (way c y):=by
   unfold ins at v1 v2
   unfold dp way at *
   have hv':0<(b.1-c.1)*(b.1-c.1)+(b.2-c.2)*(b.2-c.2):=hv
   show 0<(b.1-c.1)*(y.1-c.1)+(b.2-c.2)*(y.2-c.2)
   grind
  have i2:dp (way c a) (way c y)*dp (way c b) (way c b)=dp (way c b) (way c y)*dp (way c a) (way c b)+xp (way c a) (way c b)*xp (way c y) (way c b):=by unfold xp dp;grind
  rw [e0,Rat.zero_mul] at i2
  have b1:=Rat.mul_pos m1 hv
  have b2:=Rat.mul_pos m2 (show 0 < -dp (way c a) (way c b) by grind)
  grind
theorem jh.abC {l P:List (Rat × Rat)} (h:jh l P) (h2:2≤P.length) (i j:Nat) (hi:i<P.length) (hj:j<P.length) (h3:j≠i) (h4:j≠ji P.length i) :
  0<dH P[i] (P[ji P.length i]'(qV h.ne)) P[j]:=by
 have inj:∀ m n (hm:m<P.length) (hn:n<P.length),m≠n→P[m]≠P[n]:=fun m n hm hn hne=>by
  rcases Nat.lt_or_gt_of_ne hne with hlt | hlt
  ·exact h.inj m n hm hn hlt
  ·exact Ne.symm (h.inj n m hn hm hlt)
 exact Tg (h.mem _ (List.getElem_mem _)) (h.mem _ (List.getElem_mem _)) (h.mem _ (List.getElem_mem _)) (h.side h2 i hi) (h.side h2 j hj) (inj _ _ _ _ h3) (inj _ _ _ _ h4)
theorem Od {e u:Rat × Rat} (h:Half e u):u≠(0,0):=by
 intro h0
 rw [h0] at h
 unfold Half xp dp at h
 have h':0<e.1*0-e.2*0∨(e.1*0-e.2*0=0∧e.1*0+e.2*0<0):=h
 grind
theorem abD {e u:Rat × Rat} (h:Half e u):e≠(0,0):=by
 intro h0
 rw [h0] at h
 unfold Half xp dp at h
 have h':0<0*u.2-0*u.1∨(0*u.2-0*u.1=0∧0*u.1+0*u.2<0):=h
 grind
theorem Ti {e u v:Rat × Rat} (hu:Half e u) (hv:Half e v):Half e (u.1+v.1,u.2+v.2):=by
 unfold Half xp dp at *
 show 0<e.1*(u.2+v.2)-e.2*(u.1+v.1)∨(e.1*(u.2+v.2)-e.2*(u.1+v.1)=0∧e.1*(u.1+v.1)+e.2*(u.2+v.2)<0)
 grind
theorem YX (a b c:Rat × Rat):way a c=((way a b).1+(way b c).1,(way a b).2+(way b c).2):=by
 unfold way
 exact Prod.ext (by show c.1-a.1=b.1-a.1+(c.1-b.1);grind) (by show c.2-a.2=b.2-a.2+(c.2-b.2);grind)
theorem nM {e a b c:Rat × Rat} (h:Half e (way a b)) (k:Half e (way b c)):Half e (way a c):=by
 rw [YX a b c]
 exact Ti h k
theorem jc {e a:Rat × Rat} (h:Half e (way a a)):False:=Od h (by unfold way;exact Prod.ext (by show a.1-a.1=0;grind) (by show a.2-a.2=0;grind))
theorem zG {e u v p:Rat × Rat} (hu:Half e u) (hv:Half e v) (hp:Half e p) (h:0≤xp v u) (k:0≤xp u p):0≤xp v p:=by
 rcases (show 0<xp v u∨xp v u=0 by grind) with h0 | h0
 ·exact Rat.le_of_lt (ME hu hv hp h0 k)
 ·have hd:=qU hv hu h0
  have hU:=yl (Od hu)
  have e1:xp v p*dp u u=dp v u*xp u p+dp u p*xp v u:=by unfold xp dp;grind
  rw [h0,Rat.mul_zero] at e1
  have:=Rat.mul_nonneg (Rat.le_of_lt hd) k
  rcases (show 0≤xp v p∨xp v p<0 by grind) with h1 | h1
  ·exact h1
  ·exfalso
   have:=Rat.mul_pos (show 0 < -xp v p by grind) hU
   grind
theorem zH {e u v p:Rat × Rat} (hu:Half e u) (hv:Half e v) (hp:Half e p) (h:0≤xp v u) (k:0<xp u p):0<xp v p:=by
 rcases (show 0<xp v p∨xp v p≤0 by grind) with h1 | h1
 ·exact h1
 ·exfalso
  have:=zG hv hp hu (by rw [wT];grind) h
  have:=wT u p
  grind
theorem Tj {e c p x:Rat × Rat} (h1:Half e (way c p)) (h2:p=x∨Half e (way p x)) (hx:Half e (way c x)) (h0:dH c x p=0):btw c x p:=by
 rcases h2 with rfl | h2
 ·exact yj _ _
 ·have hxc:x≠c:=fun h=>jc (by rw [h] at hx;exact hx)
  have h0':=h0
  rw [qR] at h0'
  rcases Qh hxc h0 (qU hx h1 h0') with h | ⟨h,_⟩
  ·exact h
  ·exfalso
   have h3:xp (way c x) (way p x)=0:=by unfold xp way at *; grind
   have h4:=qU hx h2 h3
   obtain ⟨k1,k2⟩:=h
   unfold ins at k1 k2
   unfold dp way at h4
   have h4':0<(x.1-c.1)*(x.1-p.1)+(x.2-c.2)*(x.2-p.2):=h4
   grind
structure Ec (e:Rat × Rat) (S O:List (Rat × Rat)):Prop where
 ne:0<O.length
 mem:∀ p∈O,p∈S
 low:∀ p∈S,p=O[0]∨Half e (way O[0] p)
 top:∀ p∈S,p=O[O.length-1]'(by omega)∨Half e (way p (O[O.length-1]'(by omega)))
 GG:∀ i (h:i+1<O.length),Half e (way O[i] O[i+1])
 nx:∀ i (h:i+1<O.length),Lp S O[i] O[i+1]
theorem Ec.one (e a:Rat × Rat):Ec e [a] [a] where
 ne:=by simp
 mem:=fun p hp=>hp
 low:=fun p hp=>.inl (List.mem_singleton.1 hp)
 top:=fun p hp=>.inl (List.mem_singleton.1 hp)
 GG:=fun i h=>by simp at h
 nx:=fun i h=>by simp at h
theorem Ec.lt {e:Rat × Rat} {S O:List (Rat × Rat)} (h:Ec e S O) (i:Nat):∀ d (hd:i+d+1<O.length),Half e (way O[i] O[i+d+1])
 | 0,hd=>h.GG i hd
 | d+1,hd=>nM (h.lt i d (by omega)) (h.GG (i+d+1) hd)
theorem Ec.lt' {e:Rat × Rat} {S O:List (Rat × Rat)} (h:Ec e S O) {i j:Nat} (hij:i<j) (hj:j<O.length):Half e (way O[i] O[j]):=by
 obtain ⟨d,rfl⟩ : ∃ d,j=i+d+1:=⟨j-i-1,by omega⟩
 exact h.lt i d hj
theorem Ec.step {e:Rat × Rat} {S O:List (Rat × Rat)} (h:Ec e S O) {x:Rat × Rat} (hx:∀ p∈S,Half e (way p x)) {j:Nat} (hj0:0<j) (hj:j≤O.length)
  (afw:∀ hl:j<O.length,dH (O[j-1]'(by omega)) O[j] x≤0) (hkeep:∀ _:1<j,0<dH (O[j-2]'(by omega)) (O[j-1]'(by omega)) x):Ec e (S ++ [x]) (O.take j ++ [x]):=by
 have hOm:∀ i (hi:i<O.length),O[i]∈S:=fun i hi=>h.mem _ (List.getElem_mem hi)
 have hOx:∀ i (hi:i<O.length),Half e (way O[i] x):=fun i hi=>hx _ (hOm i hi)
 have left:∀ d i (hi:i+1<j),i+2+d=j→0<dH (O[i]'(by omega)) (O[i+1]'(by omega)) x:=by
  intro d
  induction d with
  | zero =>
   intro i hi hd
   obtain rfl:j=i+2:=by omega
   exact hkeep (by omega)
  | succ d ih =>
   intro i hi hd
   have a1:=ih (i+1) (by omega) (by omega)
   have a2:=(h.nx i (by omega)).2 _ (hOm (i+2) (by omega))
   have h1:=h.GG i (by omega)
   have h2:=h.GG (i+1) (by omega)
   have h3:=hOx (i+1) (by omega)
   have e1:dH (O[i]'(by omega)) (O[i+1]'(by omega)) x=xp (way (O[i]'(by omega)) (O[i+1]'(by omega))) (way (O[i+1]'(by omega)) x):=by unfold dH xp way;grind
   have e2:dH (O[i]'(by omega)) (O[i+1]'(by omega)) (O[i+2]'(by omega))=xp (way (O[i]'(by omega)) (O[i+1]'(by omega))) (way (O[i+1]'(by omega)) (O[i+2]'(by omega))):=by unfold dH xp way;grind
   rw [e1]
   rw [qR] at a1
   exact zH h2 h1 h3 (by rw [←e2];exact a2.1) a1
 have hnew:∀ p∈S,0≤dH (O[j-1]'(by omega)) x p∧(dH (O[j-1]'(by omega)) x p=0→btw (O[j-1]'(by omega)) x p):=by
  intro p hp
  have hcx:=hOx (j-1) (by omega)
  by_cases hpc:p=O[j-1]'(by omega)
  ·rw [hpc,Ca]
   exact ⟨Rat.le_refl,fun _=>JK _ _⟩
  by_cases hlt:Half e (way (O[j-1]'(by omega)) p)
  ·
   have hjl:j<O.length:=by
    rcases Nat.lt_or_ge j O.length with h1 | h1
    ·exact h1
    ·exfalso
     obtain rfl:j=O.length:=by omega
     rcases h.top p hp with h2 | h2
     ·exact hpc h2
     ·exact jc (nM hlt h2)
   have a1:=afw hjl
   have hside:=h.nx (j-1) (by omega)
   have hasc:=h.GG (j-1) (by omega)
   simp only [show j-1+1=j by omega] at hside hasc
   have a2:=(hside.2 p hp).1
   rw [qR] at a1 a2
   have a3:0≤xp (way (O[j-1]'(by omega)) x) (way (O[j-1]'(by omega)) p):=zG hasc hcx hlt (by rw [wT];grind) a2
   refine ⟨by rw [qR];exact a3,fun h0=>Tj hlt ?_ hcx h0⟩
   exact .inr (hx p hp)
  ·
   have hj1:1<j:=by
    rcases Nat.lt_or_ge 1 j with h1 | h1
    ·exact h1
    ·exfalso
     obtain rfl:j=1:=by omega
     rcases h.low p hp with h2 | h2
     ·exact hpc h2
     ·exact hlt h2
   have a1:=hkeep hj1
   have hside:=h.nx (j-2) (by omega)
   have hasc:=h.GG (j-2) (by omega)
   simp only [show j-2+1=j-1 by omega] at hside hasc
   have a2:=(hside.2 p hp).1
   have afx:Half e (way p (O[j-1]'(by omega))):=by
    have he:=abD hcx
    have hw:=GD (a:=O[j-1]'(by omega)) (b:=p) hpc
    have hE:=yl he
    have hW:=yl hw
    have hid:dp e e*dp (way (O[j-1]'(by omega)) p) (way (O[j-1]'(by omega)) p)=xp e (way (O[j-1]'(by omega)) p)*xp e (way (O[j-1]'(by omega)) p)+dp e (way (O[j-1]'(by omega)) p)*dp e (way (O[j-1]'(by omega)) p):=by unfold xp dp;grind
    have hpos:=Rat.mul_pos hE hW
    have n1:xp e (way p (O[j-1]'(by omega))) = -xp e (way (O[j-1]'(by omega)) p):=by unfold xp way;grind
    have n2:dp e (way p (O[j-1]'(by omega))) = -dp e (way (O[j-1]'(by omega)) p):=by unfold dp way;grind
    unfold Half at hlt ⊢
    rw [n1,n2]
    rcases (show xp e (way (O[j-1]'(by omega)) p)<0∨xp e (way (O[j-1]'(by omega)) p)=0∨0<xp e (way (O[j-1]'(by omega)) p) by grind) with h0 | h0 | h0
    ·left;grind
    ·right
     rw [h0] at hid hlt ⊢
     have:¬ dp e (way (O[j-1]'(by omega)) p)=0:=fun hz=>by rw [hz] at hid;grind
     grind
    ·exfalso;exact hlt (.inl h0)
   have e1:dH (O[j-2]'(by omega)) (O[j-1]'(by omega)) x=xp (way (O[j-2]'(by omega)) (O[j-1]'(by omega))) (way (O[j-1]'(by omega)) x):=by unfold dH xp way;grind
   have e2:dH (O[j-2]'(by omega)) (O[j-1]'(by omega)) p=xp (way p (O[j-1]'(by omega))) (way (O[j-2]'(by omega)) (O[j-1]'(by omega))):=by unfold dH xp way;grind
   rw [e1] at a1
   rw [e2] at a2
   have a3:=zH hasc afx hcx a2 a1
   have e3:dH (O[j-1]'(by omega)) x p=xp (way p (O[j-1]'(by omega))) (way (O[j-1]'(by omega)) x):=by unfold dH xp way;grind
   rw [e3]
   exact ⟨Rat.le_of_lt a3,fun h0=>by rw [h0] at a3;exact absurd a3 Rat.lt_irrefl⟩
 have hlen:(O.take j ++ [x]).length=j+1:=by simp;omega
 have get:∀ i (hi:i<j) (hl:i<(O.take j ++ [x]).length),(O.take j ++ [x])[i]=O[i]'(by omega):=fun i hi hl=>by
  rw [List.getElem_append_left (by simp;omega),List.getElem_take]
 have abE:∀ (hl:j<(O.take j ++ [x]).length),(O.take j ++ [x])[j]=x:=fun hl=>by
  rw [List.getElem_append_right (by simp;omega)]
  simp
 refine ⟨by omega,?_,?_,?_,?_,?_⟩
 ·intro p hp
  rcases List.mem_append.1 hp with hp | hp
  ·exact List.mem_append_left _ (h.mem p (List.mem_of_mem_take hp))
  ·exact List.mem_append_right _ hp
 ·intro p hp
  rw [get 0 hj0]
  rcases List.mem_append.1 hp with hp | hp
  ·exact h.low p hp
  ·rw [List.mem_singleton.1 hp];exact .inr (hOx 0 (by omega))
 ·intro p hp
  simp only [hlen,Nat.add_sub_cancel]
  rw [abE]
  rcases List.mem_append.1 hp with hp | hp
  ·exact .inr (hx p hp)
  ·exact .inl (List.mem_singleton.1 hp)
 ·intro i hi
  rw [hlen] at hi
  rcases Nat.lt_or_ge (i+1) j with h1 | h1
  ·rw [get i (by omega),get (i+1) h1]
   exact h.GG i (by omega)
  ·obtain rfl:j=i+1:=by omega
   rw [get i (by omega),abE]
   exact hOx i (by omega)
 ·intro i hi
  rw [hlen] at hi
  rcases Nat.lt_or_ge (i+1) j with h1 | h1
  ·rw [get i (by omega),get (i+1) h1]
   obtain ⟨n1,n2⟩:=h.nx i (by omega)
   refine ⟨n1,fun p hp=>?_⟩
   rcases List.mem_append.1 hp with hp | hp
   ·exact n2 p hp
   ·rw [List.mem_singleton.1 hp]
    have:=left (j-2-i) i h1 (by omega)
    exact ⟨Rat.le_of_lt this,fun h0=>by rw [h0] at this;exact absurd this Rat.lt_irrefl⟩
  ·obtain rfl:j=i+1:=by omega
   rw [get i (by omega),abE]
   refine ⟨fun h0=>jc (by have:=hOx i (by omega);rw [h0] at this;exact this),fun p hp=>?_⟩
   rcases List.mem_append.1 hp with hp | hp
   ·exact hnew p hp
   ·rw [List.mem_singleton.1 hp,GA]
    exact ⟨Rat.le_refl,fun _=>yj _ _⟩
theorem wU {a b:Rat × Rat}:Half (0,-1) (way a b)↔dZ a b:=by
 unfold Half xp dp way dZ
 show (0<0*(b.2-a.2) - -1*(b.1-a.1)∨(0*(b.2-a.2) - -1*(b.1-a.1)=0∧0*(b.1-a.1) + -1*(b.2-a.2)<0))↔_
 grind
theorem yn {a b:Rat × Rat}:Half (0,1) (way a b)↔dZ b a:=by
 unfold Half xp dp way dZ
 show (0<0*(b.2-a.2)-1*(b.1-a.1)∨(0*(b.2-a.2)-1*(b.1-a.1)=0∧0*(b.1-a.1)+1*(b.2-a.2)<0))↔_
 grind
theorem jd {a:Rat × Rat}:¬ dZ a a:=by unfold dZ;grind
theorem uT {a b:Rat × Rat} (h:dZ a b):¬ dZ b a:=by unfold dZ at *; grind
theorem pF {a b c:Rat × Rat} (h:dZ a b) (k:dZ b c):dZ a c:=by unfold dZ at *; grind
theorem uU {a b:Rat × Rat} (h:a≠b):dZ a b∨dZ b a:=by
 have:¬ (a.1=b.1∧a.2=b.2):=fun e=>h (Prod.ext e.1 e.2)
 unfold dZ;grind
theorem Lp.congr {l m:List (Rat × Rat)} (hm:∀ p,p∈m→p∈l) {a b:Rat × Rat} (h:Lp l a b):Lp m a b:=⟨h.1,fun p hp=>h.2 p (hm p hp)⟩
theorem jh.congr {l m P:List (Rat × Rat)} (h:jh l P) (hlm:∀ p,p∈l↔p∈m):jh m P where
 ne:=h.ne
 mem:=fun p hp=>(hlm p).1 (h.mem p hp)
 least:=fun p hp=>h.least p ((hlm p).2 hp)
 nx:=fun i hi=>Lp.congr (fun p hp=>(hlm p).2 hp) (h.nx i hi)
 fresh:=h.fresh
 close:=by
  rcases h.close with ⟨h1,h2⟩ | h1
  ·exact .inl ⟨h1,fun p hp=>h2 p ((hlm p).2 hp)⟩
  ·exact .inr (Lp.congr (fun p hp=>(hlm p).2 hp) h1)
theorem Ec.two {e:Rat × Rat} {S O:List (Rat × Rat)} (h:Ec e S O) {a b:Rat × Rat} (ha:a∈S) (hb:b∈S) (hab:a≠b):1<O.length:=by
 have hne:=h.ne
 rcases Nat.lt_or_ge 1 O.length with h1 | h1
 ·exact h1
 ·exfalso
  have e1:O.length-1=0:=by omega
  have eq:∀ p∈S,p=O[0]:=fun p hp=>by
   have a1:=h.low p hp
   have a2:=h.top p hp
   simp only [e1] at a2
   rcases a1 with a1 | a1
   ·exact a1
   ·rcases a2 with a2 | a2
    ·exact a2
    ·exact (jc (nM a1 a2)).elim
  exact hab (by rw [eq a ha,eq b hb])
theorem Ed {s L U:List (Rat × Rat)} (hL:Ec (0,-1) s L) (hU:Ec (0,1) s U) {a b:Rat × Rat} (ha:a∈s) (hb:b∈s) (hab:a≠b):jh s (L.dropLast++U.dropLast):=by
 have l1:=hL.two ha hb hab
 have u1:=hU.two ha hb hab
 have hLn:=hL.ne
 have hUn:=hU.ne
 have hLl:∀ i (hi:i<L.length),L[i]∈s:=fun i hi=>hL.mem _ (List.getElem_mem hi)
 have hUl:∀ i (hi:i<U.length),U[i]∈s:=fun i hi=>hU.mem _ (List.getElem_mem hi)
 have m1:L[L.length-1]'(by omega)=U[0]:=by
  rcases hL.top _ (hUl 0 hUn) with h1 | h1
  ·exact h1.symm
  ·rcases hU.low _ (hLl (L.length-1) (by omega)) with h2 | h2
   ·exact h2
   ·exact absurd (wU.1 h1) (uT (yn.1 h2))
 have m2:U[U.length-1]'(by omega)=L[0]:=by
  rcases hL.low _ (hUl (U.length-1) (by omega)) with h1 | h1
  ·exact h1
  ·rcases hU.top _ (hLl 0 hLn) with h2 | h2
   ·exact h2.symm
   ·exact absurd (wU.1 h1) (uT (yn.1 h2))
 have hlen:(L.dropLast++U.dropLast).length=L.length-1+(U.length-1):=by simp
 have gl:∀ i (hi:i<L.length-1) (h:i<(L.dropLast++U.dropLast).length),(L.dropLast++U.dropLast)[i]=L[i]'(by omega):=fun i hi h=>by
  rw [List.getElem_append_left (by simp;omega),List.getElem_dropLast]
 have gu:∀ i j (hi:i<U.length-1) (hj:j=L.length-1+i) (h:j<(L.dropLast++U.dropLast).length),(L.dropLast++U.dropLast)[j]=U[i]'(by omega):=fun i j hi hj h=>by
  subst hj
  rw [List.getElem_append_right (by simp),List.getElem_dropLast]
  simp
 have head:(L.dropLast++U.dropLast)[0]'(by omega)=L[0]:=gl 0 (by omega) _
 refine ⟨⟨by omega,?_,?_,?_,?_⟩,?_⟩
 ·intro p hp
  rcases List.mem_append.1 hp with hp | hp
  ·exact hL.mem p (by rw [List.dropLast_eq_take] at hp;exact List.mem_of_mem_take hp)
  ·exact hU.mem p (by rw [List.dropLast_eq_take] at hp;exact List.mem_of_mem_take hp)
 ·intro p hp
  rw [head]
  rcases hL.low p hp with h1 | h1
  ·rw [h1];exact jd
  ·exact uT (wU.1 h1)
 ·intro i hi
  rw [hlen] at hi
  rcases (show i+1<L.length-1∨i+1=L.length-1∨L.length-1≤i by omega) with h1 | h1 | h1
  ·rw [gl i (by omega),gl (i+1) h1]
   exact hL.nx i (by omega)
  ·rw [gl i (by omega),gu 0 (i+1) (by omega) (by omega),←m1]
   have:=hL.nx i (by omega)
   simp only [h1] at this
   exact this
  ·obtain ⟨k,rfl⟩ : ∃ k,i=L.length-1+k:=⟨i-(L.length-1),by omega⟩
   rw [gu k _ (by omega) rfl,gu (k+1) _ (by omega) (by omega)]
   exact hU.nx k (by omega)
 ·intro i hi h0
  rw [head]
  rw [hlen] at hi
  rcases (show i<L.length-1∨L.length-1≤i by omega) with h1 | h1
  ·rw [gl i h1]
   intro e
   have:=hL.lt' h0 (show i<L.length by omega)
   rw [e] at this
   exact jc this
  ·obtain ⟨k,rfl⟩ : ∃ k,i=L.length-1+k:=⟨i-(L.length-1),by omega⟩
   rw [gu k _ (by omega) rfl,←m2]
   intro e
   have:=hU.lt' (show k<U.length-1 by omega) (show U.length-1<U.length by omega)
   rw [e] at this
   exact jc this
 ·right
  have e1:(L.dropLast++U.dropLast)[(L.dropLast++U.dropLast).length-1]'(by omega)=U[U.length-2]'(by omega):=gu (U.length-2) _ (by omega) (by omega) _
  rw [e1,head,←m2]
  have:=hU.nx (U.length-2) (by omega)
  simp only [show U.length-2+1=U.length-1 by omega] at this
  exact this
def MF (P:List (Rat × Rat)):Prop:=3≤P.length∧∀ i j (hi:i<P.length) (hj:j<P.length),j≠i→j≠ji P.length i→0<dH P[i] (P[ji P.length i]'(qV (by omega))) P[j]
def Poly (P:List (Rat × Rat)):Prop:=MF P∧∀ j (hj:j<P.length),¬ dZ P[j] (P[0]'(by omega))
theorem jh.poly {l P:List (Rat × Rat)} (h:jh l P) (h3:3≤P.length):Poly P:=
 ⟨⟨h3,fun i j hi hj h1 h2=>h.abC (by omega) i j hi hj h1 h2⟩,fun j hj=>h.least _ (h.mem _ (List.getElem_mem hj))⟩
theorem JL (a c:Rat × Rat):dH a a c=0:=by unfold dH;grind
theorem MF.ne {P:List (Rat × Rat)} (h:MF P) (i:Nat) (hi:i<P.length):P[i]≠P[ji P.length i]'(qV (by omega)):=by
 intro e
 have h3:=h.1
 obtain ⟨j,hj,h1,h2⟩ : ∃ j,j<P.length∧j≠i∧j≠ji P.length i:=by
  by_cases c0:0≠i∧0≠ji P.length i
  ·exact ⟨0,by omega,c0.1,c0.2⟩
  ·by_cases c1:1≠i∧1≠ji P.length i
   ·exact ⟨1,by omega,c1.1,c1.2⟩
   ·refine ⟨2,by omega,?_,?_⟩
    ·omega
    ·omega
 have:=h.2 i j hi hj h1 h2
 rw [←e,JL] at this
 exact Rat.lt_irrefl this
theorem MF.inj {P:List (Rat × Rat)} (h:MF P) (i j:Nat) (hi:i<P.length) (hj:j<P.length) (hij:i≠j):P[i]≠P[j]:=by
 intro e
 by_cases h1:j=ji P.length i
 ·subst h1
  exact h.ne i hi e
 ·have:=h.2 i j hi hj (Ne.symm hij) h1
  rw [←e,Ca] at this
  exact Rat.lt_irrefl this
theorem MF.side {P:List (Rat × Rat)} (h:MF P) (i:Nat) (hi:i<P.length):Lp P P[i] (P[ji P.length i]'(qV (by omega))):=by
 refine ⟨h.ne i hi,fun p hp=>?_⟩
 obtain ⟨j,hj,rfl⟩:=List.mem_iff_getElem.1 hp
 by_cases h1:j=i
 ·subst h1;rw [Ca];exact ⟨Rat.le_refl,fun _=>JK _ _⟩
 by_cases h2:j=ji P.length i
 ·subst h2;rw [GA];exact ⟨Rat.le_refl,fun _=>yj _ _⟩
 have:=h.2 i j hi hj h1 h2
 exact ⟨Rat.le_of_lt this,fun h0=>by rw [h0] at this;exact absurd this Rat.lt_irrefl⟩
theorem Poly.wrap {P:List (Rat × Rat)} (h:Poly P):jh P P where
 ne:=by have:=h.1.1;omega
 mem:=fun p hp=>hp
 least:=fun p hp=>by
  obtain ⟨j,hj,rfl⟩:=List.mem_iff_getElem.1 hp
  exact h.2 j hj
 nx:=fun i hi=>by
  have:=h.1.side i (by omega)
  unfold ji at this
  simp only [if_pos hi] at this
  exact this
 fresh:=fun i hi h0=>h.1.inj i 0 hi (by omega) (by omega)
 close:=by
  right
  have h3:=h.1.1
  have:=h.1.side (P.length-1) (by omega)
  unfold ji at this
  simp only [show ¬ P.length-1+1<P.length by omega,if_false] at this
  exact this
def JM (P:List (Rat × Rat)) (k:Nat):List (Rat × Rat):=P.drop k++P.take k
theorem Tk (P:List (Rat × Rat)) {k:Nat} (hk:k≤P.length):(JM P k).length=P.length:=by
 unfold JM;simp;omega
abbrev pt (P:List (Rat × Rat)) (i:Nat):Rat × Rat:=P.getD i (0,0)
theorem dh {P:List (Rat × Rat)} {i:Nat} (h:i<P.length):pt P i=P[i]:=by unfold pt;rw [List.getD_eq_getElem?_getD,List.getElem?_eq_getElem h];rfl
def iT (P:List (Rat × Rat)):Nat→Rat
 | 0=>0
 | k+1=>iT P k+dH (pt P 0) (pt P (k+1)) (pt P (k+2))
def jC (P:List (Rat × Rat)):Rat:=iT P (P.length-2)
def FcP (B Nx Ny:Nat) (p:Rat × Rat):Prop:=Fc B Nx p.1∧Fc B Ny p.2
theorem abF {B Nx Ny:Nat} {a b c:Rat × Rat} (ha:FcP B Nx Ny a) (hb:FcP B Nx Ny b) (hc:FcP B Nx Ny c):Fc (8*B*B) (Nx*Ny) (dH a b c):=by
 have h1:=(hb.1.sub ha.1).mul (hc.2.sub ha.2)
 have h2:=(hb.2.sub ha.2).mul (hc.1.sub ha.1)
 rw [Nat.mul_comm Ny Nx] at h2
 exact (h1.sub h2).mono (by grind)
theorem EJ {B Nx Ny:Nat} {P:List (Rat × Rat)} (h:∀ p∈P,FcP B Nx Ny p):∀ k,k+2≤P.length→Fc (8*B*B*k) (Nx*Ny) (iT P k)
 | 0,_=>⟨0,by simp,by unfold iT;simp⟩
 | k+1,hk=>by
  have hp:∀ i,i<P.length→FcP B Nx Ny (pt P i):=fun i hi=>by rw [dh hi];exact h _ (List.getElem_mem hi)
  have h1:=EJ h k (by omega)
  have h2:=abF (hp 0 (by omega)) (hp (k+1) (by omega)) (hp (k+2) (by omega))
  exact (h1.add h2).mono (by grind)
def Qi (a b:Rat × Rat) (k:Rat):Rat × Rat:=(a.1+k*(b.1-a.1),a.2+k*(b.2-a.2))
def adC (a b c:Rat) (p:Rat × Rat):Rat:=a*p.1+b*p.2-c
theorem GH (a b p q:Rat × Rat) (k:Rat):dH a b (Qi p q k)=(1-k)*dH a b p+k*dH a b q:=by unfold dH Qi;grind
theorem mY (a b c:Rat × Rat):dH a b c=dH b c a:=by unfold dH;grind
def Tri (n:Nat) (p:Nat→Rat × Rat):Prop:=∀ i j k,i<j→j<k→k<n→0<dH (p i) (p j) (p k)
theorem Tri.le {n:Nat} {p:Nat→Rat × Rat} (h:Tri n p) (i j k:Nat) (h1:i≤j) (h2:j≤k) (h3:k<n):0≤dH (p i) (p j) (p k):=by
 rcases Nat.lt_or_eq_of_le h1 with h1 | h1
 ·rcases Nat.lt_or_eq_of_le h2 with h2 | h2
  ·exact Rat.le_of_lt (h i j k h1 h2 h3)
  ·subst h2;rw [GA];exact Rat.le_refl
 ·subst h1;rw [JL];exact Rat.le_refl
def adD (p:Nat→Rat × Rat) (m:Nat) (A B:Rat × Rat) (i:Nat):Rat × Rat:=if i<m then p i else if i=m then A else B
theorem Tri.cut {n:Nat} {p:Nat→Rat × Rat} (h:Tri n p) {m:Nat} (hm0:0<m) (hm:m<n) (h3:3≤n) {k l:Rat} (hk0:0<k) (hk1:k≤1) (hl0:0≤l) (hl1:l<1) (hkl:m+1=n→k<1∧0<l) :
  Tri (m+2) (adD p m (Qi (p (m-1)) (p m) k) (Qi (p (n-1)) (p 0) l)):=by
 intro i j t hij hjt ht
 have k1:0≤1-k:=by grind
 have l1:0<1-l:=by grind
 have k0:=Rat.le_of_lt hk0
 unfold adD
 rcases (show t<m∨t=m∨(t=m+1∧j<m)∨(t=m+1∧j=m) by omega) with h1 | h1 | ⟨h1,h2⟩ | ⟨h1,h2⟩
 ·rw [if_pos (by omega),if_pos (by omega),if_pos h1]
  exact h i j t hij hjt (by omega)
 ·subst h1
  rw [if_pos (by omega),if_pos hjt,if_neg (by omega),if_pos rfl,GH]
  have a:=Rat.mul_nonneg k1 (h.le i j (t-1) (by omega) (by omega) (by omega))
  have b:=Rat.mul_pos hk0 (h i j t hij hjt hm)
  grind
 ·subst h1
  rw [if_pos (by omega),if_pos h2,if_neg (by omega),if_neg (by omega),GH]
  have a:=Rat.mul_pos l1 (h i j (n-1) hij (by omega) (by omega))
  have b:=Rat.mul_nonneg hl0 (h.le 0 i j (by omega) (by omega) (by omega))
  rw [mY (p i) (p j) (p 0),mY (p j) (p 0) (p i)]
  grind
 ·subst h1 h2
  rw [if_pos hij,if_neg (by omega),if_pos rfl,if_neg (by omega),if_neg (by omega),GH]
  have e1:∀ z,dH (p i) (Qi (p (j-1)) (p j) k) z=(1-k)*dH (p i) (p (j-1)) z+k*dH (p i) (p j) z:=fun z=>by unfold dH Qi;grind
  rw [e1,e1]
  have a1:=h.le i (j-1) (n-1) (by omega) (by omega) (by omega)
  have a2:=h.le 0 i (j-1) (by omega) (by omega) (by omega)
  have a3:=h.le i j (n-1) (by omega) (by omega) (by omega)
  have a4:=h.le 0 i j (by omega) (by omega) (by omega)
  rw [mY (p 0),mY (p i)] at a2 a4
  rw [mY (p i) (p (j-1)) (p 0),mY (p i) (p j) (p 0)]
  have b1:=Rat.mul_nonneg (Rat.le_of_lt l1) (Rat.mul_nonneg k1 a1)
  have b2:=Rat.mul_nonneg hl0 (Rat.mul_nonneg k1 a2)
  have b3:=Rat.mul_nonneg (Rat.le_of_lt l1) (Rat.mul_nonneg k0 a3)
  have b4:=Rat.mul_nonneg hl0 (Rat.mul_nonneg k0 a4)
  rcases (show j<n-1∨j+1=n by omega) with h5 | h5
  ·have c3:=Rat.mul_pos l1 (Rat.mul_pos hk0 (h i j (n-1) hij h5 (by omega)))
   grind
  ·obtain ⟨hk2,hl2⟩:=hkl h5
   rcases (show i<j-1∨0<i by omega) with h6 | h6
   ·have c1:=Rat.mul_pos l1 (Rat.mul_pos (show 0<1-k by grind) (h i (j-1) (n-1) h6 (by omega) (by omega)))
    grind
   ·have c4:=Rat.mul_pos hl2 (Rat.mul_pos hk0 (h 0 i j h6 hij hm))
    rw [mY (p 0),mY (p i)] at c4
    grind
section
variable {α:Type}
end
theorem JN {Q:Nat→Prop} [DecidablePred Q]:∀ n,Q n→∃ m,m≤n∧Q m∧∀ i,i<m→¬ Q i
 | 0,h=>⟨0,Nat.le_refl _,h,fun _ hi=>absurd hi (Nat.not_lt_zero _)⟩
 | n+1,h=>by
  by_cases hx:∃ m,m≤n∧Q m
  ·obtain ⟨m,hm,hq⟩:=hx
   obtain ⟨t,h1,h2,h3⟩:=JN m hq
   exact ⟨t,by omega,h2,h3⟩
  ·exact ⟨n+1,Nat.le_refl _,h,fun i hi hq=>hx ⟨i,by omega,hq⟩⟩
theorem bX {R:List (Rat × Rat)} {i:Nat} (h:i<R.length):pt R i∈R:=by rw [dh h];exact List.getElem_mem h
theorem JO {R:List (Rat × Rat)} {m:Nat} {p:Rat × Rat} (h:p∈R.take m):∃ i,i<m∧i<R.length∧p=pt R i:=by
 obtain ⟨i,hi,rfl⟩:=List.mem_iff_getElem.1 h
 simp only [List.length_take] at hi
 exact ⟨i,by omega,by omega,by rw [dh (by omega),List.getElem_take]⟩
end Go.Proofs.YtglncfkoohgdaaaGreatDoor
namespace Go.Proofs.YtglncfkoohgdaaaGreatDoor
end Go.Proofs.YtglncfkoohgdaaaGreatDoor
namespace Go.Proofs.YtglncfkoohgdaaaGreatDoor
def InP (P:List (Rat × Rat)) (x:Rat × Rat):Prop:=∀ i,i<P.length→0≤dH (pt P i) (pt P (ji P.length i)) x
theorem afy {P:List (Rat × Rat)} (h:MF P) {x:Rat × Rat} (hx:InP P x):∃ j,0<j∧j+1<P.length∧0≤dH (pt P 0) (pt P j) x∧0≤dH (pt P (j+1)) (pt P 0) x:=by
 have h3:=h.1
 have hsw:∀ p q:Rat × Rat,dH q p x = -dH p q x:=fun p q=>by unfold dH;grind
 have hlast:=hx (P.length-1) (by omega)
 rw [show ji P.length (P.length-1)=0 by unfold ji;rw [if_neg (by omega)]] at hlast
 have Tm:=hx 0 (by omega)
 rw [show ji P.length 0=1 by unfold ji;rw [if_pos (by omega)]] at Tm
 obtain ⟨t,ht,h1,h2⟩:=JN (Q:=fun t=>0≤dH (pt P (t+2)) (pt P 0) x) (P.length-3) (by rw [show P.length-3+2=P.length-1 by omega];exact hlast)
 refine ⟨t+1,by omega,by omega,?_,h1⟩
 rcases Nat.eq_zero_or_pos t with e | e
 ·subst e;exact Tm
 ·have:=h2 (t-1) (by omega)
  rw [show t-1+2=t+1 by omega,hsw (pt P 0) (pt P (t+1))] at this
  grind
def OnL (Ls:List (Rat × Rat × Rat)) (P:List (Rat × Rat)):Prop:=∀ i,i<P.length→∃ l∈Ls,adC l.1 l.2.1 l.2.2 (pt P i)=0∧adC l.1 l.2.1 l.2.2 (pt P (ji P.length i))=0
theorem OnL.mono {Ls Ms:List (Rat × Rat × Rat)} {P:List (Rat × Rat)} (h:OnL Ls P) (hs:∀ l∈Ls,l∈Ms):OnL Ms P:=fun i hi=>by
 obtain ⟨l,hl,h1,h2⟩:=h i hi
 exact ⟨l,hs l hl,h1,h2⟩
def iJ (P:List (Rat × Rat)) (t:Nat):Prop:=t<P.length∧∀ j,j<P.length→¬ dZ (pt P j) (pt P t)
theorem YY {a b:Rat × Rat} (h:¬ dZ a b) (k:¬ dZ b a):a=b:=Decidable.byContradiction fun hn=>(uU hn).elim h k
theorem iJ.same {P:List (Rat × Rat)} {s t:Nat} (h:iJ P s) (k:iJ P t):pt P s=pt P t:=YY (k.2 s h.1) (h.2 t k.1)
theorem iJ.unique {P:List (Rat × Rat)} (hP:MF P) {s t:Nat} (h:iJ P s) (k:iJ P t):s=t:=by
 apply Decidable.byContradiction
 intro hn
 have:=h.same k
 rw [dh h.1,dh k.1] at this
 exact hP.inj s t h.1 k.1 hn this
theorem Poly.least {P:List (Rat × Rat)} (h:Poly P):iJ P 0:=by
 have h3:=h.1.1
 refine ⟨by omega,fun j hj=>?_⟩
 rw [dh hj,dh (by omega)]
 exact h.2 j hj
end Go.Proofs.YtglncfkoohgdaaaGreatDoor
namespace Go.Proofs.YtglncfkoohgdaaaGreatDoor
end Go.Proofs.YtglncfkoohgdaaaGreatDoor
