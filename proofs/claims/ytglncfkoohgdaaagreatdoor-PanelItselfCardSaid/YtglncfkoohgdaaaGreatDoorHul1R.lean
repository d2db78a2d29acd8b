import Derived.Test.YtglncfkoohgdaaaGreatDoorMathR
namespace Go.Proofs.YtglncfkoohgdaaaGreatDoor
def eu (a b c:Rat × Rat):Rat:=(b.1-a.1)*(c.2-a.2)-(b.2-a.2)*(c.1-a.1)
def ins (a b x:Rat):Prop:=(x-a)*(x-b)≤0
def btw (a b p:Rat × Rat):Prop:=ins a.1 b.1 p.1∧ins a.2 b.2 p.2
def Lu (l:List (Rat × Rat)) (a b:Rat × Rat):Prop:=a≠b∧∀ p∈l,0≤eu a b p∧(eu a b p=0→btw a b p)
theorem mV (t:Rat):0≤t*t:=by
 rcases Rat.le_total (a:=0) (b:=t) with h | h
 ·exact Rat.mul_nonneg h h
 ·have:=Rat.mul_nonneg (show 0 ≤ -t by grind) (show 0 ≤ -t by grind)
  grind
theorem mW {t:Rat} (h:t*t≤0):t=0:=by
 have:=mV t
 have h0:t*t=0:=by grind
 rcases Rat.mul_eq_zero.1 h0 with h | h <;> exact h
theorem JW {a x y:Rat} (h:ins a x y) (k:ins a y x):x=y:=by
 unfold ins at *
 have:(x-y)*(x-y)≤0:=by grind
 have:=mW this
 grind
theorem ER {a b x:Rat} (h:ins a x b) (k:ins b x a):a=b:=by
 unfold ins at *
 have:(a-b)*(a-b)≤0:=by grind
 have:=mW this
 grind
theorem JX (a b:Rat):ins a b a:=by unfold ins;grind
theorem ES (a b:Rat):ins a b b:=by unfold ins;grind
theorem JY (a b:Rat × Rat):btw a b a:=⟨JX _ _,JX _ _⟩
theorem yE (a b:Rat × Rat):btw a b b:=⟨ES _ _,ES _ _⟩
theorem Cf {l:List (Rat × Rat)} {a x y:Rat × Rat} (h:Lu l a x) (k:Lu l a y) (hx:x∈l) (hy:y∈l):x=y:=by
 obtain ⟨h1,h2⟩:=h.2 y hy
 obtain ⟨k1,k2⟩:=k.2 x hx
 have e:eu a y x = -eu a x y:=by unfold eu;grind
 have e0:eu a x y=0:=by grind
 have e1:eu a y x=0:=by grind
 exact Prod.ext (JW (h2 e0).1 (k2 e1).1) (JW (h2 e0).2 (k2 e1).2)
theorem Zt {l:List (Rat × Rat)} {a b x:Rat × Rat} (h:Lu l a x) (k:Lu l b x) (ha:a∈l) (hb:b∈l):a=b:=by
 obtain ⟨h1,h2⟩:=h.2 b hb
 obtain ⟨k1,k2⟩:=k.2 a ha
 have e:eu b x a = -eu a x b:=by unfold eu;grind
 have e0:eu a x b=0:=by grind
 have e1:eu b x a=0:=by grind
 exact Prod.ext (ER (h2 e0).1 (k2 e1).1) (ER (h2 e0).2 (k2 e1).2)
def xp (u v:Rat × Rat):Rat:=u.1*v.2-u.2*v.1
def dp (u v:Rat × Rat):Rat:=u.1*v.1+u.2*v.2
def way (a b:Rat × Rat):Rat × Rat:=(b.1-a.1,b.2-a.2)
theorem ru (a b c:Rat × Rat):eu a b c=xp (way a b) (way a c):=by unfold eu xp way;rfl
def Half (e u:Rat × Rat):Prop:=0<xp e u∨(xp e u=0∧dp e u<0)
theorem xn (u v:Rat × Rat):xp v u = -xp u v:=by unfold xp;grind
theorem Tm (e u v p:Rat × Rat):xp e u*xp v p=xp e v*xp u p+xp e p*xp v u:=by unfold xp;grind
theorem ry {e u v:Rat × Rat} (hu:Half e u) (hv:Half e v) (h:xp u v=0):0<dp u v:=by
 have h1:dp e e*dp u v=xp e u*xp e v+dp e u*dp e v:=by unfold xp dp;grind
 have h2:dp e u*xp e v-xp e u*dp e v=dp e e*xp u v:=by unfold xp dp;grind
 have he:0<dp e e:=by
  have h3:0≤dp e e:=by
   have:=mV e.1
   have:=mV e.2
   unfold dp;grind
  rcases (show dp e e=0∨0<dp e e by grind) with h0 | h0
  ·exfalso
   have a1:e.1*e.1≤0:=by have:=mV e.2;unfold dp at h0;grind
   have a2:e.2*e.2≤0:=by have:=mV e.1;unfold dp at h0;grind
   have b1:=mW a1
   have b2:=mW a2
   unfold Half xp dp at hu
   rw [b1,b2] at hu
   grind
  ·exact h0
 have hp:0<dp e e*dp u v:=by
  rw [h1]
  rw [h,Rat.mul_zero] at h2
  rcases hu with hu | ⟨hu,hu'⟩
  ·rcases hv with hv | ⟨hv,hv'⟩
   ·
    have a1:=Rat.mul_pos hu hv
    have a2:dp e u*xp e v*(xp e v*dp e v)=xp e u*dp e v*(xp e v*dp e v):=by rw [show dp e u*xp e v=xp e u*dp e v by grind]
    have a3:=Rat.mul_nonneg (Rat.le_of_lt a1) (mV (dp e v))
    have a4:dp e u*dp e v*(xp e v*xp e v)=xp e u*xp e v*(dp e v*dp e v):=by grind
    have a5:0≤dp e u*dp e v:=by
     rcases (show 0≤dp e u*dp e v∨dp e u*dp e v<0 by grind) with h0 | h0
     ·exact h0
     ·exfalso
      have:=Rat.mul_pos (show 0 < -(dp e u*dp e v) by grind) (Rat.mul_pos hv hv)
      grind
    grind
   ·exfalso
    rw [hv,Rat.mul_zero] at h2
    have:=Rat.mul_pos hu (show 0 < -dp e v by grind)
    grind
  ·rcases hv with hv | ⟨hv,hv'⟩
   ·exfalso
    rw [hu,Rat.zero_mul] at h2
    have:=Rat.mul_pos (show 0 < -dp e u by grind) hv
    grind
   ·have:=Rat.mul_pos (show 0 < -dp e u by grind) (show 0 < -dp e v by grind)
    rw [hu,hv]
    grind
 exact (Rat.mul_pos_iff_of_pos_left he).1 hp
theorem MH {e u v p:Rat × Rat} (hu:Half e u) (hv:Half e v) (hp:Half e p) (h:0<xp v u) (k:0≤xp u p):0<xp v p:=by
 have h1:=Tm e u v p
 rcases (show xp v p<0∨xp v p=0∨0<xp v p by grind) with h0 | h0 | h0
 ·exfalso
  rcases hu with hu | ⟨hu,hu'⟩
  ·have a1:=Rat.mul_pos hu (show 0 < -xp v p by grind)
   have a2:0≤xp e v*xp u p:=Rat.mul_nonneg (by rcases hv with h | h <;> grind) k
   have a3:0≤xp e p*xp v u:=Rat.mul_nonneg (by rcases hp with h | h <;> grind) (Rat.le_of_lt h)
   grind
  ·
   have h2:dp e u*xp e p-xp e u*dp e p=dp e e*xp u p:=by unfold xp dp;grind
   have h3:dp e u*xp e v-xp e u*dp e v=dp e e*xp u v:=by unfold xp dp;grind
   have h4:dp e v*xp e p-xp e v*dp e p=dp e e*xp v p:=by unfold xp dp;grind
   have he:0≤dp e e:=by
    have:=mV e.1
    have:=mV e.2
    unfold dp;grind
   have a1:=Rat.mul_nonneg he k
   have hpx:xp e p=0:=by
    rcases hp with hp | hp
    ·exfalso
     have:=Rat.mul_pos (show 0 < -dp e u by grind) hp
     rw [hu] at h2
     grind
    ·exact hp.1
   have hpd:dp e p<0:=by rcases hp with hp | hp <;> grind
   have hvx:0≤xp e v:=by rcases hv with hv | hv <;> grind
   have a2:=Rat.mul_nonneg hvx (show 0 ≤ -dp e p by grind)
   have a3:=Rat.mul_nonneg he (show 0 ≤ -xp v p by grind)
   rw [hpx] at h4
   have a4:xp e v * -dp e p=0:=by grind
   have hv0:xp e v=0:=by rcases Rat.mul_eq_zero.1 a4 with h | h <;> grind
   rw [hu,hv0] at h3
   have a5:dp e e*xp u v=0:=by grind
   rcases Rat.mul_eq_zero.1 a5 with a6 | a6
   ·have b1:e.1*e.1≤0:=by have:=mV e.2;unfold dp at a6;grind
    have b2:e.2*e.2≤0:=by have:=mV e.1;unfold dp at a6;grind
    have c1:=mW b1
    have c2:=mW b2
    unfold dp at hu'
    rw [c1,c2] at hu'
    grind
   ·have:=xn u v
    grind
 ·exfalso
  have a1:=ry hv hp h0
  have h2:xp u p*dp v v=xp u v*dp v p+dp u v*xp v p:=by unfold xp dp;grind
  have hvv:0<dp v v:=ry hv hv (by unfold xp;grind)
  rw [h0,Rat.mul_zero] at h2
  have a2:=Rat.mul_nonneg k (Rat.le_of_lt hvv)
  have a3:=Rat.mul_pos (show 0 < -xp u v by have:=xn u v;grind) a1
  grind
 ·exact h0
theorem afw {a b x:Rat}:ins a b x↔(a≤x∧x≤b)∨(b≤x∧x≤a):=by
 unfold ins
 constructor
 ·intro h
  rcases (show a≤x∨x<a by grind) with h1 | h1
  ·rcases (show x≤b∨b<x by grind) with h2 | h2
   ·exact .inl ⟨h1,h2⟩
   ·rcases (show a<x∨a=x by grind) with h3 | h3
    ·exfalso
     have:=Rat.mul_pos (show 0<x-a by grind) (show 0<x-b by grind)
     grind
    ·exact .inr ⟨by grind,by grind⟩
  ·rcases (show b≤x∨x<b by grind) with h2 | h2
   ·exact .inr ⟨h2,by grind⟩
   ·exfalso
    have:=Rat.mul_pos (show 0<a-x by grind) (show 0<b-x by grind)
    grind
 ·rintro (⟨h1,h2⟩ | ⟨h1,h2⟩)
  ·have:=Rat.mul_nonneg (show 0≤x-a by grind) (show 0≤b-x by grind)
   grind
  ·have:=Rat.mul_nonneg (show 0≤a-x by grind) (show 0≤x-b by grind)
   grind
theorem Cg (a b:Rat × Rat):eu a b a=0:=by unfold eu;grind
theorem Od (a b:Rat × Rat):eu a b b=0:=by unfold eu;grind
theorem yF {u:Rat × Rat} (h:u≠(0,0)):0<dp u u:=by
 have h1:=mV u.1
 have h2:=mV u.2
 unfold dp
 rcases (show 0<u.1*u.1+u.2*u.2∨u.1*u.1+u.2*u.2≤0 by grind) with h0 | h0
 ·exact h0
 ·exfalso
  exact h (Prod.ext (mW (by grind)) (mW (by grind)))
theorem GU {a b:Rat × Rat} (h:b≠a):way a b≠(0,0):=by
 intro e
 unfold way at e
 have e1:b.1-a.1=0:=congrArg Prod.fst e
 have e2:b.2-a.2=0:=congrArg Prod.snd e
 exact h (Prod.ext (by grind) (by grind))
theorem Qh {a x q:Rat × Rat} (hx:x≠a) (h0:eu a x q=0) (hd:0<dp (way a x) (way a q)) :
  btw a x q∨(btw a q x∧∀ p,0≤eu a x p→0≤eu a q p∧(eu a q p=0→eu a x p=0)):=by
 have hU:=yF (GU hx)
 rw [ru] at h0
 have m1:(way a q).1*dp (way a x) (way a x)=(way a x).1*dp (way a x) (way a q):=by unfold xp at h0;unfold dp;grind
 have m2:(way a q).2*dp (way a x) (way a x)=(way a x).2*dp (way a x) (way a q):=by unfold xp at h0;unfold dp;grind
 generalize hUU:dp (way a x) (way a x)=U at *
 generalize hDD:dp (way a x) (way a q)=D at *
 rcases (show D≤U∨U<D by grind) with h | h
 ·left
  have key:∀ u v:Rat,v*U=u*D→v*(v-u)≤0:=fun u v e=>by
   have e2:v*(v-u)*(U*U)=u*u*(D*(D-U)):=by grind
   have b1:=Rat.mul_nonneg (mV u) (Rat.mul_nonneg (Rat.le_of_lt hd) (show 0≤U-D by grind))
   rcases (show v*(v-u)≤0∨0<v*(v-u) by grind) with h0 | h0
   ·exact h0
   ·exfalso
    have:=Rat.mul_pos h0 (Rat.mul_pos hU hU)
    grind
  have k1:=key _ _ m1
  have k2:=key _ _ m2
  unfold way at k1 k2
  have k1':(q.1-a.1)*((q.1-a.1)-(x.1-a.1))≤0:=k1
  have k2':(q.2-a.2)*((q.2-a.2)-(x.2-a.2))≤0:=k2
  exact ⟨by unfold ins;grind,by unfold ins;grind⟩
 ·right
  have key:∀ u v:Rat,v*U=u*D→u*(u-v)≤0:=fun u v e=>by
   have e2:u*(u-v)*U=u*u*(U-D):=by grind
   have b1:=Rat.mul_nonneg (mV u) (show 0≤D-U by grind)
   rcases (show u*(u-v)≤0∨0<u*(u-v) by grind) with h0 | h0
   ·exact h0
   ·exfalso
    have:=Rat.mul_pos h0 hU
    grind
  have k1:=key _ _ m1
  have k2:=key _ _ m2
  refine ⟨?_,fun p hp=>?_⟩
  ·unfold way at k1 k2
   have k1':(x.1-a.1)*((x.1-a.1)-(q.1-a.1))≤0:=k1
   have k2':(x.2-a.2)*((x.2-a.2)-(q.2-a.2))≤0:=k2
   exact ⟨by unfold ins;grind,by unfold ins;grind⟩
  ·have e:eu a q p*U=eu a x p*D:=by
    rw [ru,ru]
    unfold xp
    grind
   constructor
   ·rcases (show 0≤eu a q p∨eu a q p<0 by grind) with h1 | h1
    ·exact h1
    ·exfalso
     have b1:=Rat.mul_pos (show 0 < -eu a q p by grind) hU
     have b2:=Rat.mul_nonneg hp (Rat.le_of_lt hd)
     grind
   ·intro h1
    rw [h1,Rat.zero_mul] at e
    rcases Rat.mul_eq_zero.1 e.symm with h2 | h2
    ·exact h2
    ·exfalso;grind
def eB (a b:Rat × Rat):Prop:=a.1<b.1∨(a.1=b.1∧a.2<b.2)
theorem yG {α:Type} [BEq α] [LawfulBEq α]:∀ (P l:List α),P.Nodup→(∀ p∈P,p∈l)→P.length≤l.length
 | [],_,_,_=>Nat.zero_le _
 | p :: P,l,hn,hs=>by
  have hp:=hs p (List.mem_cons_self ..)
  obtain ⟨h1,h2⟩:=List.nodup_cons.1 hn
  have ih:=yG P (l.erase p) h2 (fun q hq=>by
   have hne:q≠p:=fun e=>h1 (by rw [←e];exact hq)
   exact (List.mem_erase_of_ne hne).2 (hs q (List.mem_cons_of_mem _ hq)))
  have hl:(l.erase p).length=l.length-1:=List.length_erase_of_mem hp
  have:0<l.length:=List.length_pos_of_mem hp
  rw [List.length_cons]
  omega
structure Part (l P:List (Rat × Rat)):Prop where
 ne:0<P.length
 mem:∀ p∈P,p∈l
 least:∀ p∈l,¬ eB p P[0]
 nx:∀ i (h:i+1<P.length),Lu l P[i] P[i+1]
 fresh:∀ i (h:i<P.length),0<i→P[i]≠P[0]
theorem Part.inj {l P:List (Rat × Rat)} (h:Part l P):∀ (i j:Nat) (hi:i<P.length) (hj:j<P.length),i<j→P[i]≠P[j]
 | 0,j,hi,hj,hij=>fun e=>h.fresh j hj hij e.symm
 | i+1,j,hi,hj,hij=>fun e=>by
  obtain ⟨k,rfl⟩ : ∃ k,j=k+1:=⟨j-1,by omega⟩
  have a:=h.nx i hi
  have b:=h.nx k hj
  rw [e] at a
  exact h.inj i k (by omega) (by omega) (by omega) (Zt a b (h.mem _ (List.getElem_mem _)) (h.mem _ (List.getElem_mem _)))
theorem Part.nodup {l P:List (Rat × Rat)} (h:Part l P):P.Nodup:=by
 rw [List.nodup_iff_pairwise_ne]
 exact List.pairwise_iff_getElem.2 fun i j hi hj hij=>h.inj i j hi hj hij
theorem Part.len {l P:List (Rat × Rat)} (h:Part l P):P.length≤l.length:=yG P l h.nodup h.mem
structure ji (l P:List (Rat × Rat)):Prop extends Part l P where
 close:(P.length=1∧∀ p∈l,p=P[0]'ne)∨Lu l (P[P.length-1]'(by omega)) (P[0]'ne)
theorem ji.head {l P Q:List (Rat × Rat)} (h:ji l P) (k:ji l Q):P[0]'h.ne=Q[0]'k.ne:=by
 have a:=h.least _ (k.mem _ (List.getElem_mem k.ne))
 have b:=k.least _ (h.mem _ (List.getElem_mem h.ne))
 unfold eB at *
 refine Prod.ext ?_ ?_ <;> grind
theorem ji.same {l P Q:List (Rat × Rat)} (h:ji l P) (k:ji l Q):∀ i (hi:i<P.length) (hj:i<Q.length),P[i]=Q[i]
 | 0,_,_=>h.head k
 | i+1,hi,hj=>by
  have e:=h.same k i (by omega) (by omega)
  have a:=h.nx i hi
  have b:=k.nx i hj
  rw [e] at a
  exact Cf a b (h.mem _ (List.getElem_mem _)) (k.mem _ (List.getElem_mem _))
theorem ji.le {l P Q:List (Rat × Rat)} (h:ji l P) (k:ji l Q):Q.length≤P.length:=by
 apply Nat.le_of_not_lt
 intro hlt
 have hne:=h.ne
 have e:=h.same k (P.length-1) (by omega) (by omega)
 have b:=k.nx (P.length-1) (by omega)
 rcases h.close with ⟨h1,h2⟩ | h1
 ·have a1:=h2 _ (k.mem _ (List.getElem_mem (show P.length-1+1<Q.length by omega)))
  have a2:=h2 _ (k.mem _ (List.getElem_mem (show P.length-1<Q.length by omega)))
  exact b.1 (by rw [a1,a2])
 ·rw [e] at h1
  have a1:=Cf h1 b (h.mem _ (List.getElem_mem _)) (k.mem _ (List.getElem_mem _))
  rw [h.head k] at a1
  exact k.fresh _ (show P.length-1+1<Q.length by omega) (by omega) a1.symm
theorem ji.unique {l P Q:List (Rat × Rat)} (h:ji l P) (k:ji l Q):P=Q:=by
 have e:P.length=Q.length:=Nat.le_antisymm (k.le h) (h.le k)
 exact List.ext_getElem e fun i hi hj=>h.same k i hi hj
def jk (n i:Nat):Nat:=if i+1<n then i+1 else 0
theorem rz {n i:Nat} (h:0<n):jk n i<n:=by unfold jk;split <;> omega
theorem ji.side {l P:List (Rat × Rat)} (h:ji l P) (h2:2≤P.length) (i:Nat) (hi:i<P.length):Lu l P[i] (P[jk P.length i]'(rz h.ne)):=by
 unfold jk
 by_cases h1:i+1<P.length
 ·simp only [if_pos h1]
  exact h.nx i h1
 ·simp only [if_neg h1]
  have e:P.length-1=i:=by omega
  rcases h.close with ⟨h3,_⟩ | h3
  ·omega
  ·simp only [e] at h3
   exact h3
theorem Tn {l:List (Rat × Rat)} {a b c y:Rat × Rat} (ha:a∈l) (hb:b∈l) (hcl:c∈l) (hab:Lu l a b) (hcy:Lu l c y) (ET:c≠a) (hcb:c≠b):0<eu a b c:=by
 obtain ⟨h1,h2⟩:=hab.2 c hcl
 rcases (show 0<eu a b c∨eu a b c=0 by grind) with h0 | h0
 ·exact h0
 ·exfalso
  obtain ⟨k1,k2⟩:=h2 h0
  obtain ⟨pa,qa⟩:=hcy.2 a ha
  obtain ⟨pb,qb⟩:=hcy.2 b hb
  have hu:=yF (GU (Ne.symm ET))
  have hv:=yF (GU (Ne.symm hcb))
  have e0:xp (way c a) (way c b)=0:=by
   have:eu a b c=xp (way c a) (way c b):=by unfold eu xp way;grind
   rw [←this];exact h0
  rw [ru] at pa pb qa qb
  have hD:dp (way c a) (way c b)<0:=by
   have d0:dp (way c a) (way c b)≤0:=by
    unfold ins at k1 k2
    unfold dp way
    show (a.1-c.1)*(b.1-c.1)+(a.2-c.2)*(b.2-c.2)≤0
    grind
   rcases (show dp (way c a) (way c b)<0∨dp (way c a) (way c b)=0 by grind) with h | h
   ·exact h
   ·exfalso
    have e:dp (way c a) (way c a)*dp (way c b) (way c b)=dp (way c a) (way c b)*dp (way c a) (way c b)+xp (way c a) (way c b)*xp (way c a) (way c b):=by unfold dp xp;grind
    have:=Rat.mul_pos hu hv
    rw [h,e0] at e
    grind
  have i1:xp (way c y) (way c a)*dp (way c b) (way c b)=xp (way c y) (way c b)*dp (way c a) (way c b)-dp (way c y) (way c b)*xp (way c a) (way c b):=by unfold xp dp;grind
  rw [e0,Rat.mul_zero] at i1
  have z1:xp (way c y) (way c a)=0:=by
   have b1:=Rat.mul_nonneg pa (Rat.le_of_lt hv)
   have b2:=Rat.mul_nonneg pb (show 0 ≤ -dp (way c a) (way c b) by grind)
   have b3:xp (way c y) (way c a)*dp (way c b) (way c b)=0:=by grind
   rcases Rat.mul_eq_zero.1 b3 with h | h
   ·exact h
   ·exfalso;grind
  have z2:xp (way c y) (way c b)=0:=by
   rw [z1,Rat.zero_mul] at i1
   have b3:xp (way c y) (way c b)*dp (way c a) (way c b)=0:=by grind
   rcases Rat.mul_eq_zero.1 b3 with h | h
   ·exact h
   ·exfalso;grind
  obtain ⟨u1,u2⟩:=qa z1
  obtain ⟨v1,v2⟩:=qb z2
  have m1:0<dp (way c a) (way c y):=by
   unfold ins at u1 u2
   unfold dp way at *
   have hu':0<(a.1-c.1)*(a.1-c.1)+(a.2-c.2)*(a.2-c.2):=hu
   show 0<(a.1-c.1)*(y.1-c.1)+(a.2-c.2)*(y.2-c.2)
   grind
  have m2:0<dp (way c b) (way c y):=by
   unfold ins at v1 v2
   unfold dp way at *
   have hv':0<(b.1-c.1)*(b.1-c.1)+(b.2-c.2)*(b.2-c.2):=hv
   show 0<(b.1-c.1)*(y.1-c.1)+(b.2-c.2)*(y.2-c.2)
   grind
  have i2:dp (way c a) (way c y)*dp (way c b) (way c b)=dp (way c b) (way c y)*dp (way c a) (way c b)+xp (way c a) (way c b)*xp (way c y) (way c b):=by unfold xp dp;grind
  rw [e0,Rat.zero_mul] at i2
  have b1:=Rat.mul_pos m1 hv
  have b2:=Rat.mul_pos m2 (show 0 < -dp (way c a) (way c b) by grind)
  grind
theorem ji.ab2 {l P:List (Rat × Rat)} (h:ji l P) (h2:2≤P.length) (i j:Nat) (hi:i<P.length) (hj:j<P.length) (h3:j≠i) (h4:j≠jk P.length i) :
  0<eu P[i] (P[jk P.length i]'(rz h.ne)) P[j]:=by
 have inj:∀ m n (hm:m<P.length) (hn:n<P.length),m≠n→P[m]≠P[n]:=fun m n hm hn hne=>by
  rcases Nat.lt_or_gt_of_ne hne with hlt | hlt
  ·exact h.inj m n hm hn hlt
  ·exact Ne.symm (h.inj n m hn hm hlt)
 exact Tn (h.mem _ (List.getElem_mem _)) (h.mem _ (List.getElem_mem _)) (h.mem _ (List.getElem_mem _)) (h.side h2 i hi) (h.side h2 j hj) (inj _ _ _ _ h3) (inj _ _ _ _ h4)
theorem Oe {e u:Rat × Rat} (h:Half e u):u≠(0,0):=by
 intro h0
 rw [h0] at h
 unfold Half xp dp at h
 have h':0<e.1*0-e.2*0∨(e.1*0-e.2*0=0∧e.1*0+e.2*0<0):=h
 grind
theorem ab3 {e u:Rat × Rat} (h:Half e u):e≠(0,0):=by
 intro h0
 rw [h0] at h
 unfold Half xp dp at h
 have h':0<0*u.2-0*u.1∨(0*u.2-0*u.1=0∧0*u.1+0*u.2<0):=h
 grind
theorem Tp {e u v:Rat × Rat} (hu:Half e u) (hv:Half e v):Half e (u.1+v.1,u.2+v.2):=by
 unfold Half xp dp at *
 show 0<e.1*(u.2+v.2)-e.2*(u.1+v.1)∨(e.1*(u.2+v.2)-e.2*(u.1+v.1)=0∧e.1*(u.1+v.1)+e.2*(u.2+v.2)<0)
 grind
theorem Zu (a b c:Rat × Rat):way a c=((way a b).1+(way b c).1,(way a b).2+(way b c).2):=by
 unfold way
 exact Prod.ext (by show c.1-a.1=b.1-a.1+(c.1-b.1);grind) (by show c.2-a.2=b.2-a.2+(c.2-b.2);grind)
theorem nM {e a b c:Rat × Rat} (h:Half e (way a b)) (k:Half e (way b c)):Half e (way a c):=by
 rw [Zu a b c]
 exact Tp h k
theorem jc {e a:Rat × Rat} (h:Half e (way a a)):False:=Oe h (by unfold way;exact Prod.ext (by show a.1-a.1=0;grind) (by show a.2-a.2=0;grind))
theorem zS {e u v p:Rat × Rat} (hu:Half e u) (hv:Half e v) (hp:Half e p) (h:0≤xp v u) (k:0≤xp u p):0≤xp v p:=by
 rcases (show 0<xp v u∨xp v u=0 by grind) with h0 | h0
 ·exact Rat.le_of_lt (MH hu hv hp h0 k)
 ·have hd:=ry hv hu h0
  have hU:=yF (Oe hu)
  have e1:xp v p*dp u u=dp v u*xp u p+dp u p*xp v u:=by unfold xp dp;grind
  rw [h0,Rat.mul_zero] at e1
  have:=Rat.mul_nonneg (Rat.le_of_lt hd) k
  rcases (show 0≤xp v p∨xp v p<0 by grind) with h1 | h1
  ·exact h1
  ·exfalso
   have:=Rat.mul_pos (show 0 < -xp v p by grind) hU
   grind
theorem zT {e u v p:Rat × Rat} (hu:Half e u) (hv:Half e v) (hp:Half e p) (h:0≤xp v u) (k:0<xp u p):0<xp v p:=by
 rcases (show 0<xp v p∨xp v p≤0 by grind) with h1 | h1
 ·exact h1
 ·exfalso
  have:=zS hv hp hu (by rw [xn];grind) h
  have:=xn u p
  grind
theorem Tq {e c p x:Rat × Rat} (h1:Half e (way c p)) (h2:p=x∨Half e (way p x)) (hx:Half e (way c x)) (h0:eu c x p=0):btw c x p:=by
 rcases h2 with rfl | h2
 ·exact yE _ _
 ·have hxc:x≠c:=fun h=>jc (by rw [h] at hx;exact hx)
  have h0':=h0
  rw [ru] at h0'
  rcases Qh hxc h0 (ry hx h1 h0') with h | ⟨h,_⟩
  ·exact h
  ·exfalso
   have h3:xp (way c x) (way p x)=0:=by unfold xp way at *; grind
   have h4:=ry hx h2 h3
   obtain ⟨k1,k2⟩:=h
   unfold ins at k1 k2
   unfold dp way at h4
   have h4':0<(x.1-c.1)*(x.1-p.1)+(x.2-c.2)*(x.2-p.2):=h4
   grind
structure Em (e:Rat × Rat) (S O:List (Rat × Rat)):Prop where
 ne:0<O.length
 mem:∀ p∈O,p∈S
 low:∀ p∈S,p=O[0]∨Half e (way O[0] p)
 top:∀ p∈S,p=O[O.length-1]'(by omega)∨Half e (way p (O[O.length-1]'(by omega)))
 I6:∀ i (h:i+1<O.length),Half e (way O[i] O[i+1])
 nx:∀ i (h:i+1<O.length),Lu S O[i] O[i+1]
theorem Em.one (e a:Rat × Rat):Em e [a] [a] where
 ne:=by simp
 mem:=fun p hp=>hp
 low:=fun p hp=>.inl (List.mem_singleton.1 hp)
 top:=fun p hp=>.inl (List.mem_singleton.1 hp)
 I6:=fun i h=>by simp at h
 nx:=fun i h=>by simp at h
theorem Em.lt {e:Rat × Rat} {S O:List (Rat × Rat)} (h:Em e S O) (i:Nat):∀ d (hd:i+d+1<O.length),Half e (way O[i] O[i+d+1])
 | 0,hd=>h.I6 i hd
 | d+1,hd=>nM (h.lt i d (by omega)) (h.I6 (i+d+1) hd)
theorem Em.lt' {e:Rat × Rat} {S O:List (Rat × Rat)} (h:Em e S O) {i j:Nat} (hij:i<j) (hj:j<O.length):Half e (way O[i] O[j]):=by
 obtain ⟨d,rfl⟩ : ∃ d,j=i+d+1:=⟨j-i-1,by omega⟩
 exact h.lt i d hj
theorem Em.step {e:Rat × Rat} {S O:List (Rat × Rat)} (h:Em e S O) {x:Rat × Rat} (hx:∀ p∈S,Half e (way p x)) {j:Nat} (hj0:0<j) (hj:j≤O.length)
  (afR:∀ hl:j<O.length,eu (O[j-1]'(by omega)) O[j] x≤0) (hkeep:∀ _:1<j,0<eu (O[j-2]'(by omega)) (O[j-1]'(by omega)) x):Em e (S ++ [x]) (O.take j ++ [x]):=by
 have hOm:∀ i (hi:i<O.length),O[i]∈S:=fun i hi=>h.mem _ (List.getElem_mem hi)
 have hOx:∀ i (hi:i<O.length),Half e (way O[i] x):=fun i hi=>hx _ (hOm i hi)
 have left:∀ d i (hi:i+1<j),i+2+d=j→0<eu (O[i]'(by omega)) (O[i+1]'(by omega)) x:=by
  intro d
  induction d with
  | zero =>
   intro i hi hd
   obtain rfl:j=i+2:=by omega
   exact hkeep (by omega)
  | succ d ih =>
   intro i hi hd
   have a1:=ih (i+1) (by omega) (by omega)
   have a2:=(h.nx i (by omega)).2 _ (hOm (i+2) (by omega))
   have h1:=h.I6 i (by omega)
   have h2:=h.I6 (i+1) (by omega)
   have h3:=hOx (i+1) (by omega)
   have e1:eu (O[i]'(by omega)) (O[i+1]'(by omega)) x=xp (way (O[i]'(by omega)) (O[i+1]'(by omega))) (way (O[i+1]'(by omega)) x):=by unfold eu xp way;grind
   have e2:eu (O[i]'(by omega)) (O[i+1]'(by omega)) (O[i+2]'(by omega))=xp (way (O[i]'(by omega)) (O[i+1]'(by omega))) (way (O[i+1]'(by omega)) (O[i+2]'(by omega))):=by unfold eu xp way;grind
   rw [e1]
   rw [ru] at a1
   exact zT h2 h1 h3 (by rw [←e2];exact a2.1) a1
 have hnew:∀ p∈S,0≤eu (O[j-1]'(by omega)) x p∧(eu (O[j-1]'(by omega)) x p=0→btw (O[j-1]'(by omega)) x p):=by
  intro p hp
  have hcx:=hOx (j-1) (by omega)
  by_cases hpc:p=O[j-1]'(by omega)
  ·rw [hpc,Cg]
   exact ⟨Rat.le_refl,fun _=>JY _ _⟩
  by_cases hlt:Half e (way (O[j-1]'(by omega)) p)
  ·
   have hjl:j<O.length:=by
    rcases Nat.lt_or_ge j O.length with h1 | h1
    ·exact h1
    ·exfalso
     obtain rfl:j=O.length:=by omega
     rcases h.top p hp with h2 | h2
     ·exact hpc h2
     ·exact jc (nM hlt h2)
   have a1:=afR hjl
   have hside:=h.nx (j-1) (by omega)
   have hasc:=h.I6 (j-1) (by omega)
   simp only [show j-1+1=j by omega] at hside hasc
   have a2:=(hside.2 p hp).1
   rw [ru] at a1 a2
   have a3:0≤xp (way (O[j-1]'(by omega)) x) (way (O[j-1]'(by omega)) p):=zS hasc hcx hlt (by rw [xn];grind) a2
   refine ⟨by rw [ru];exact a3,fun h0=>Tq hlt ?_ hcx h0⟩
   exact .inr (hx p hp)
  ·
   have hj1:1<j:=by
    rcases Nat.lt_or_ge 1 j with h1 | h1
    ·exact h1
    ·exfalso
     obtain rfl:j=1:=by omega
     rcases h.low p hp with h2 | h2
     ·exact hpc h2
     ·exact hlt h2
   have a1:=hkeep hj1
   have hside:=h.nx (j-2) (by omega)
   have hasc:=h.I6 (j-2) (by omega)
   simp only [show j-2+1=j-1 by omega] at hside hasc
   have a2:=(hside.2 p hp).1
   have afS:Half e (way p (O[j-1]'(by omega))):=by
    have he:=ab3 hcx
    have hw:=GU (a:=O[j-1]'(by omega)) (b:=p) hpc
    have hE:=yF he
    have hW:=yF hw
    have hid:dp e e*dp (way (O[j-1]'(by omega)) p) (way (O[j-1]'(by omega)) p)=xp e (way (O[j-1]'(by omega)) p)*xp e (way (O[j-1]'(by omega)) p)+dp e (way (O[j-1]'(by omega)) p)*dp e (way (O[j-1]'(by omega)) p):=by unfold xp dp;grind
    have hpos:=Rat.mul_pos hE hW
    have n1:xp e (way p (O[j-1]'(by omega))) = -xp e (way (O[j-1]'(by omega)) p):=by unfold xp way;grind
    have n2:dp e (way p (O[j-1]'(by omega))) = -dp e (way (O[j-1]'(by omega)) p):=by unfold dp way;grind
    unfold Half at hlt ⊢
    rw [n1,n2]
    rcases (show xp e (way (O[j-1]'(by omega)) p)<0∨xp e (way (O[j-1]'(by omega)) p)=0∨0<xp e (way (O[j-1]'(by omega)) p) by grind) with h0 | h0 | h0
    ·left;grind
    ·right
     rw [h0] at hid hlt ⊢
     have:¬ dp e (way (O[j-1]'(by omega)) p)=0:=fun hz=>by rw [hz] at hid;grind
     grind
    ·exfalso;exact hlt (.inl h0)
   have e1:eu (O[j-2]'(by omega)) (O[j-1]'(by omega)) x=xp (way (O[j-2]'(by omega)) (O[j-1]'(by omega))) (way (O[j-1]'(by omega)) x):=by unfold eu xp way;grind
   have e2:eu (O[j-2]'(by omega)) (O[j-1]'(by omega)) p=xp (way p (O[j-1]'(by omega))) (way (O[j-2]'(by omega)) (O[j-1]'(by omega))):=by unfold eu xp way;grind
   rw [e1] at a1
   rw [e2] at a2
   have a3:=zT hasc afS hcx a2 a1
   have e3:eu (O[j-1]'(by omega)) x p=xp (way p (O[j-1]'(by omega))) (way (O[j-1]'(by omega)) x):=by unfold eu xp way;grind
   rw [e3]
   exact ⟨Rat.le_of_lt a3,fun h0=>by rw [h0] at a3;exact absurd a3 Rat.lt_irrefl⟩
 have hlen:(O.take j ++ [x]).length=j+1:=by simp;omega
 have get:∀ i (hi:i<j) (hl:i<(O.take j ++ [x]).length),(O.take j ++ [x])[i]=O[i]'(by omega):=fun i hi hl=>by
  rw [List.getElem_append_left (by simp;omega),List.getElem_take]
 have ab4:∀ (hl:j<(O.take j ++ [x]).length),(O.take j ++ [x])[j]=x:=fun hl=>by
  rw [List.getElem_append_right (by simp;omega)]
  simp
 refine ⟨by omega,?_,?_,?_,?_,?_⟩
 ·intro p hp
  rcases List.mem_append.1 hp with hp | hp
  ·exact List.mem_append_left _ (h.mem p (List.mem_of_mem_take hp))
  ·exact List.mem_append_right _ hp
 ·intro p hp
  rw [get 0 hj0]
  rcases List.mem_append.1 hp with hp | hp
  ·exact h.low p hp
  ·rw [List.mem_singleton.1 hp];exact .inr (hOx 0 (by omega))
 ·intro p hp
  simp only [hlen,Nat.add_sub_cancel]
  rw [ab4]
  rcases List.mem_append.1 hp with hp | hp
  ·exact .inr (hx p hp)
  ·exact .inl (List.mem_singleton.1 hp)
 ·intro i hi
  rw [hlen] at hi
  rcases Nat.lt_or_ge (i+1) j with h1 | h1
  ·rw [get i (by omega),get (i+1) h1]
   exact h.I6 i (by omega)
  ·obtain rfl:j=i+1:=by omega
   rw [get i (by omega),ab4]
   exact hOx i (by omega)
 ·intro i hi
  rw [hlen] at hi
  rcases Nat.lt_or_ge (i+1) j with h1 | h1
  ·rw [get i (by omega),get (i+1) h1]
   obtain ⟨n1,n2⟩:=h.nx i (by omega)
   refine ⟨n1,fun p hp=>?_⟩
   rcases List.mem_append.1 hp with hp | hp
   ·exact n2 p hp
   ·rw [List.mem_singleton.1 hp]
    have:=left (j-2-i) i h1 (by omega)
    exact ⟨Rat.le_of_lt this,fun h0=>by rw [h0] at this;exact absurd this Rat.lt_irrefl⟩
  ·obtain rfl:j=i+1:=by omega
   rw [get i (by omega),ab4]
   refine ⟨fun h0=>jc (by have:=hOx i (by omega);rw [h0] at this;exact this),fun p hp=>?_⟩
   rcases List.mem_append.1 hp with hp | hp
   ·exact hnew p hp
   ·rw [List.mem_singleton.1 hp,Od]
    exact ⟨Rat.le_refl,fun _=>yE _ _⟩
theorem xq {a b:Rat × Rat}:Half (0,-1) (way a b)↔eB a b:=by
 unfold Half xp dp way eB
 show (0<0*(b.2-a.2) - -1*(b.1-a.1)∨(0*(b.2-a.2) - -1*(b.1-a.1)=0∧0*(b.1-a.1) + -1*(b.2-a.2)<0))↔_
 grind
theorem yH {a b:Rat × Rat}:Half (0,1) (way a b)↔eB b a:=by
 unfold Half xp dp way eB
 show (0<0*(b.2-a.2)-1*(b.1-a.1)∨(0*(b.2-a.2)-1*(b.1-a.1)=0∧0*(b.1-a.1)+1*(b.2-a.2)<0))↔_
 grind
theorem jY {a:Rat × Rat}:¬ eB a a:=by unfold eB;grind
theorem vk {a b:Rat × Rat} (h:eB a b):¬ eB b a:=by unfold eB at *; grind
theorem pJ {a b c:Rat × Rat} (h:eB a b) (k:eB b c):eB a c:=by unfold eB at *; grind
theorem vw {a b:Rat × Rat} (h:a≠b):eB a b∨eB b a:=by
 have:¬ (a.1=b.1∧a.2=b.2):=fun e=>h (Prod.ext e.1 e.2)
 unfold eB;grind
theorem Lu.congr {l m:List (Rat × Rat)} (hm:∀ p,p∈m→p∈l) {a b:Rat × Rat} (h:Lu l a b):Lu m a b:=⟨h.1,fun p hp=>h.2 p (hm p hp)⟩
theorem ji.congr {l m P:List (Rat × Rat)} (h:ji l P) (hlm:∀ p,p∈l↔p∈m):ji m P where
 ne:=h.ne
 mem:=fun p hp=>(hlm p).1 (h.mem p hp)
 least:=fun p hp=>h.least p ((hlm p).2 hp)
 nx:=fun i hi=>Lu.congr (fun p hp=>(hlm p).2 hp) (h.nx i hi)
 fresh:=h.fresh
 close:=by
  rcases h.close with ⟨h1,h2⟩ | h1
  ·exact .inl ⟨h1,fun p hp=>h2 p ((hlm p).2 hp)⟩
  ·exact .inr (Lu.congr (fun p hp=>(hlm p).2 hp) h1)
theorem Em.two {e:Rat × Rat} {S O:List (Rat × Rat)} (h:Em e S O) {a b:Rat × Rat} (ha:a∈S) (hb:b∈S) (hab:a≠b):1<O.length:=by
 have hne:=h.ne
 rcases Nat.lt_or_ge 1 O.length with h1 | h1
 ·exact h1
 ·exfalso
  have e1:O.length-1=0:=by omega
  have eq:∀ p∈S,p=O[0]:=fun p hp=>by
   have a1:=h.low p hp
   have a2:=h.top p hp
   simp only [e1] at a2
   rcases a1 with a1 | a1
   ·exact a1
   ·rcases a2 with a2 | a2
    ·exact a2
    ·exact (jc (nM a1 a2)).elim
  exact hab (by rw [eq a ha,eq b hb])
theorem En {s L U:List (Rat × Rat)} (hL:Em (0,-1) s L) (hU:Em (0,1) s U) {a b:Rat × Rat} (ha:a∈s) (hb:b∈s) (hab:a≠b):ji s (L.dropLast++U.dropLast):=by
 have l1:=hL.two ha hb hab
 have u1:=hU.two ha hb hab
 have hLn:=hL.ne
 have hUn:=hU.ne
 have hLl:∀ i (hi:i<L.length),L[i]∈s:=fun i hi=>hL.mem _ (List.getElem_mem hi)
 have hUl:∀ i (hi:i<U.length),U[i]∈s:=fun i hi=>hU.mem _ (List.getElem_mem hi)
 have m1:L[L.length-1]'(by omega)=U[0]:=by
  rcases hL.top _ (hUl 0 hUn) with h1 | h1
  ·exact h1.symm
  ·rcases hU.low _ (hLl (L.length-1) (by omega)) with h2 | h2
   ·exact h2
   ·exact absurd (xq.1 h1) (vk (yH.1 h2))
 have m2:U[U.length-1]'(by omega)=L[0]:=by
  rcases hL.low _ (hUl (U.length-1) (by omega)) with h1 | h1
  ·exact h1
  ·rcases hU.top _ (hLl 0 hLn) with h2 | h2
   ·exact h2.symm
   ·exact absurd (xq.1 h1) (vk (yH.1 h2))
 have hlen:(L.dropLast++U.dropLast).length=L.length-1+(U.length-1):=by simp
 have gl:∀ i (hi:i<L.length-1) (h:i<(L.dropLast++U.dropLast).length),(L.dropLast++U.dropLast)[i]=L[i]'(by omega):=fun i hi h=>by
  rw [List.getElem_append_left (by simp;omega),List.getElem_dropLast]
 have gu:∀ i j (hi:i<U.length-1) (hj:j=L.length-1+i) (h:j<(L.dropLast++U.dropLast).length),(L.dropLast++U.dropLast)[j]=U[i]'(by omega):=fun i j hi hj h=>by
  subst hj
  rw [List.getElem_append_right (by simp),List.getElem_dropLast]
  simp
 have head:(L.dropLast++U.dropLast)[0]'(by omega)=L[0]:=gl 0 (by omega) _
 refine ⟨⟨by omega,?_,?_,?_,?_⟩,?_⟩
 ·intro p hp
  rcases List.mem_append.1 hp with hp | hp
  ·exact hL.mem p (by rw [List.dropLast_eq_take] at hp;exact List.mem_of_mem_take hp)
  ·exact hU.mem p (by rw [List.dropLast_eq_take] at hp;exact List.mem_of_mem_take hp)
 ·intro p hp
  rw [head]
  rcases hL.low p hp with h1 | h1
  ·rw [h1];exact jY
  ·exact vk (xq.1 h1)
 ·intro i hi
  rw [hlen] at hi
  rcases (show i+1<L.length-1∨i+1=L.length-1∨L.length-1≤i by omega) with h1 | h1 | h1
  ·rw [gl i (by omega),gl (i+1) h1]
   exact hL.nx i (by omega)
  ·rw [gl i (by omega),gu 0 (i+1) (by omega) (by omega),←m1]
   have:=hL.nx i (by omega)
   simp only [h1] at this
   exact this
  ·obtain ⟨k,rfl⟩ : ∃ k,i=L.length-1+k:=⟨i-(L.length-1),by omega⟩
   rw [gu k _ (by omega) rfl,gu (k+1) _ (by omega) (by omega)]
   exact hU.nx k (by omega)
 ·intro i hi h0
  rw [head]
  rw [hlen] at hi
  rcases (show i<L.length-1∨L.length-1≤i by omega) with h1 | h1
  ·rw [gl i h1]
   intro e
   have:=hL.lt' h0 (show i<L.length by omega)
   rw [e] at this
   exact jc this
  ·obtain ⟨k,rfl⟩ : ∃ k,i=L.length-1+k:=⟨i-(L.length-1),by omega⟩
   rw [gu k _ (by omega) rfl,←m2]
   intro e
   have:=hU.lt' (show k<U.length-1 by omega) (show U.length-1<U.length by omega)
   rw [e] at this
   exact jc this
 ·right
  have e1:(L.dropLast++U.dropLast)[(L.dropLast++U.dropLast).length-1]'(by omega)=U[U.length-2]'(by omega):=gu (U.length-2) _ (by omega) (by omega) _
  rw [e1,head,←m2]
  have:=hU.nx (U.length-2) (by omega)
  simp only [show U.length-2+1=U.length-1 by omega] at this
  exact this
def MI (P:List (Rat × Rat)):Prop:=3≤P.length∧∀ i j (hi:i<P.length) (hj:j<P.length),j≠i→j≠jk P.length i→0<eu P[i] (P[jk P.length i]'(rz (by omega))) P[j]
def Poly (P:List (Rat × Rat)):Prop:=MI P∧∀ j (hj:j<P.length),¬ eB P[j] (P[0]'(by omega))
theorem ji.poly {l P:List (Rat × Rat)} (h:ji l P) (h3:3≤P.length):Poly P:=
 ⟨⟨h3,fun i j hi hj h1 h2=>h.ab2 (by omega) i j hi hj h1 h2⟩,fun j hj=>h.least _ (h.mem _ (List.getElem_mem hj))⟩
theorem Tt (a c:Rat × Rat):eu a a c=0:=by unfold eu;grind
theorem MI.ne {P:List (Rat × Rat)} (h:MI P) (i:Nat) (hi:i<P.length):P[i]≠P[jk P.length i]'(rz (by omega)):=by
 intro e
 have h3:=h.1
 obtain ⟨j,hj,h1,h2⟩ : ∃ j,j<P.length∧j≠i∧j≠jk P.length i:=by
  by_cases c0:0≠i∧0≠jk P.length i
  ·exact ⟨0,by omega,c0.1,c0.2⟩
  ·by_cases c1:1≠i∧1≠jk P.length i
   ·exact ⟨1,by omega,c1.1,c1.2⟩
   ·refine ⟨2,by omega,?_,?_⟩
    ·omega
    ·omega
 have:=h.2 i j hi hj h1 h2
 rw [←e,Tt] at this
 exact Rat.lt_irrefl this
theorem MI.inj {P:List (Rat × Rat)} (h:MI P) (i j:Nat) (hi:i<P.length) (hj:j<P.length) (hij:i≠j):P[i]≠P[j]:=by
 intro e
 by_cases h1:j=jk P.length i
 ·subst h1
  exact h.ne i hi e
 ·have:=h.2 i j hi hj (Ne.symm hij) h1
  rw [←e,Cg] at this
  exact Rat.lt_irrefl this
theorem MI.side {P:List (Rat × Rat)} (h:MI P) (i:Nat) (hi:i<P.length):Lu P P[i] (P[jk P.length i]'(rz (by omega))):=by
 refine ⟨h.ne i hi,fun p hp=>?_⟩
 obtain ⟨j,hj,rfl⟩:=List.mem_iff_getElem.1 hp
 by_cases h1:j=i
 ·subst h1;rw [Cg];exact ⟨Rat.le_refl,fun _=>JY _ _⟩
 by_cases h2:j=jk P.length i
 ·subst h2;rw [Od];exact ⟨Rat.le_refl,fun _=>yE _ _⟩
 have:=h.2 i j hi hj h1 h2
 exact ⟨Rat.le_of_lt this,fun h0=>by rw [h0] at this;exact absurd this Rat.lt_irrefl⟩
theorem Poly.wrap {P:List (Rat × Rat)} (h:Poly P):ji P P where
 ne:=by have:=h.1.1;omega
 mem:=fun p hp=>hp
 least:=fun p hp=>by
  obtain ⟨j,hj,rfl⟩:=List.mem_iff_getElem.1 hp
  exact h.2 j hj
 nx:=fun i hi=>by
  have:=h.1.side i (by omega)
  unfold jk at this
  simp only [if_pos hi] at this
  exact this
 fresh:=fun i hi h0=>h.1.inj i 0 hi (by omega) (by omega)
 close:=by
  right
  have h3:=h.1.1
  have:=h.1.side (P.length-1) (by omega)
  unfold jk at this
  simp only [show ¬ P.length-1+1<P.length by omega,if_false] at this
  exact this
def JZ (P:List (Rat × Rat)) (k:Nat):List (Rat × Rat):=P.drop k++P.take k
theorem Tu (P:List (Rat × Rat)) {k:Nat} (hk:k≤P.length):(JZ P k).length=P.length:=by
 unfold JZ;simp;omega
abbrev pt (P:List (Rat × Rat)) (i:Nat):Rat × Rat:=P.getD i (0,0)
theorem cO {P:List (Rat × Rat)} {i:Nat} (h:i<P.length):pt P i=P[i]:=by unfold pt;rw [List.getD_eq_getElem?_getD,List.getElem?_eq_getElem h];rfl
def iU (P:List (Rat × Rat)):Nat→Rat
 | 0=>0
 | k+1=>iU P k+eu (pt P 0) (pt P (k+1)) (pt P (k+2))
def jD (P:List (Rat × Rat)):Rat:=iU P (P.length-2)
def FcP (B Nx Ny:Nat) (p:Rat × Rat):Prop:=Fc B Nx p.1∧Fc B Ny p.2
theorem ab5 {B Nx Ny:Nat} {a b c:Rat × Rat} (ha:FcP B Nx Ny a) (hb:FcP B Nx Ny b) (hc:FcP B Nx Ny c):Fc (8*B*B) (Nx*Ny) (eu a b c):=by
 have h1:=(hb.1.sub ha.1).mul (hc.2.sub ha.2)
 have h2:=(hb.2.sub ha.2).mul (hc.1.sub ha.1)
 rw [Nat.mul_comm Ny Nx] at h2
 exact (h1.sub h2).mono (by grind)
theorem EU {B Nx Ny:Nat} {P:List (Rat × Rat)} (h:∀ p∈P,FcP B Nx Ny p):∀ k,k+2≤P.length→Fc (8*B*B*k) (Nx*Ny) (iU P k)
 | 0,_=>⟨0,by simp,by unfold iU;simp⟩
 | k+1,hk=>by
  have hp:∀ i,i<P.length→FcP B Nx Ny (pt P i):=fun i hi=>by rw [cO hi];exact h _ (List.getElem_mem hi)
  have h1:=EU h k (by omega)
  have h2:=ab5 (hp 0 (by omega)) (hp (k+1) (by omega)) (hp (k+2) (by omega))
  exact (h1.add h2).mono (by grind)
end Go.Proofs.YtglncfkoohgdaaaGreatDoor
namespace Go.Proofs.YtglncfkoohgdaaaGreatDoor
end Go.Proofs.YtglncfkoohgdaaaGreatDoor
namespace Go.Proofs.YtglncfkoohgdaaaGreatDoor
section
variable {α:Type}
end
theorem J2 {Q:Nat→Prop} [DecidablePred Q]:∀ n,Q n→∃ m,m≤n∧Q m∧∀ i,i<m→¬ Q i
 | 0,h=>⟨0,Nat.le_refl _,h,fun _ hi=>absurd hi (Nat.not_lt_zero _)⟩
 | n+1,h=>by
  by_cases hx:∃ m,m≤n∧Q m
  ·obtain ⟨m,hm,hq⟩:=hx
   obtain ⟨t,h1,h2,h3⟩:=J2 m hq
   exact ⟨t,by omega,h2,h3⟩
  ·exact ⟨n+1,Nat.le_refl _,h,fun i hi hq=>hx ⟨i,by omega,hq⟩⟩
theorem bV {R:List (Rat × Rat)} {i:Nat} (h:i<R.length):pt R i∈R:=by rw [cO h];exact List.getElem_mem h
theorem J3 {R:List (Rat × Rat)} {m:Nat} {p:Rat × Rat} (h:p∈R.take m):∃ i,i<m∧i<R.length∧p=pt R i:=by
 obtain ⟨i,hi,rfl⟩:=List.mem_iff_getElem.1 h
 simp only [List.length_take] at hi
 exact ⟨i,by omega,by omega,by rw [cO (by omega),List.getElem_take]⟩
end Go.Proofs.YtglncfkoohgdaaaGreatDoor
namespace Go.Proofs.YtglncfkoohgdaaaGreatDoor
end Go.Proofs.YtglncfkoohgdaaaGreatDoor
namespace Go.Proofs.YtglncfkoohgdaaaGreatDoor
def InP (P:List (Rat × Rat)) (x:Rat × Rat):Prop:=∀ i,i<P.length→0≤eu (pt P i) (pt P (jk P.length i)) x
theorem afT {P:List (Rat × Rat)} (h:MI P) {x:Rat × Rat} (hx:InP P x):∃ j,0<j∧j+1<P.length∧0≤eu (pt P 0) (pt P j) x∧0≤eu (pt P (j+1)) (pt P 0) x:=by
 have h3:=h.1
 have hsw:∀ p q:Rat × Rat,eu q p x = -eu p q x:=fun p q=>by unfold eu;grind
 have hlast:=hx (P.length-1) (by omega)
 rw [show jk P.length (P.length-1)=0 by unfold jk;rw [if_neg (by omega)]] at hlast
 have Tv:=hx 0 (by omega)
 rw [show jk P.length 0=1 by unfold jk;rw [if_pos (by omega)]] at Tv
 obtain ⟨t,ht,h1,h2⟩:=J2 (Q:=fun t=>0≤eu (pt P (t+2)) (pt P 0) x) (P.length-3) (by rw [show P.length-3+2=P.length-1 by omega];exact hlast)
 refine ⟨t+1,by omega,by omega,?_,h1⟩
 rcases Nat.eq_zero_or_pos t with e | e
 ·subst e;exact Tv
 ·have:=h2 (t-1) (by omega)
  rw [show t-1+2=t+1 by omega,hsw (pt P 0) (pt P (t+1))] at this
  grind
end Go.Proofs.YtglncfkoohgdaaaGreatDoor
namespace Go.Proofs.YtglncfkoohgdaaaGreatDoor
end Go.Proofs.YtglncfkoohgdaaaGreatDoor
namespace Go.Proofs.YtglncfkoohgdaaaGreatDoor
def iK (P:List (Rat × Rat)) (t:Nat):Prop:=t<P.length∧∀ j,j<P.length→¬ eB (pt P j) (pt P t)
theorem Zv {a b:Rat × Rat} (h:¬ eB a b) (k:¬ eB b a):a=b:=Decidable.byContradiction fun hn=>(vw hn).elim h k
theorem iK.same {P:List (Rat × Rat)} {s t:Nat} (h:iK P s) (k:iK P t):pt P s=pt P t:=Zv (k.2 s h.1) (h.2 t k.1)
theorem iK.unique {P:List (Rat × Rat)} (hP:MI P) {s t:Nat} (h:iK P s) (k:iK P t):s=t:=by
 apply Decidable.byContradiction
 intro hn
 have:=h.same k
 rw [cO h.1,cO k.1] at this
 exact hP.inj s t h.1 k.1 hn this
theorem Poly.least {P:List (Rat × Rat)} (h:Poly P):iK P 0:=by
 have h3:=h.1.1
 refine ⟨by omega,fun j hj=>?_⟩
 rw [cO hj,cO (by omega)]
 exact h.2 j hj
end Go.Proofs.YtglncfkoohgdaaaGreatDoor
namespace Go.Proofs.YtglncfkoohgdaaaGreatDoor
end Go.Proofs.YtglncfkoohgdaaaGreatDoor
