import Derived.Test.YtogdahbbogimcaaGreatDoorMathZ
namespace Go.Proofs.YtogdahbbogimcaaGreatDoor
def crs (a b c:Rat × Rat):Rat:=(b.1-a.1)*(c.2-a.2)-(b.2-a.2)*(c.1-a.1)
def ins (a b x:Rat):Prop:=(x-a)*(x-b)≤0
def btw (a b p:Rat × Rat):Prop:=ins a.1 b.1 p.1∧ins a.2 b.2 p.2
def Nxt (l:List (Rat × Rat)) (a b:Rat × Rat):Prop:=a≠b∧∀ p∈l,0≤crs a b p∧(crs a b p=0→btw a b p)
theorem sq_nn (t:Rat):0≤t*t:=by
 rcases Rat.le_total (a:=0) (b:=t) with h | h
 ·exact Rat.mul_nonneg h h
 ·have:=Rat.mul_nonneg (show 0 ≤ -t by grind) (show 0 ≤ -t by grind)
  grind
theorem sq_zero {t:Rat} (h:t*t≤0):t=0:=by
 have:=sq_nn t
 have h0:t*t=0:=by grind
 rcases Rat.mul_eq_zero.1 h0 with h | h <;> exact h
theorem ins_anti {a x y:Rat} (h:ins a x y) (k:ins a y x):x=y:=by
 unfold ins at *
 have:(x-y)*(x-y)≤0:=by grind
 have:=sq_zero this
 grind
theorem ins_anti2 {a b x:Rat} (h:ins a x b) (k:ins b x a):a=b:=by
 unfold ins at *
 have:(a-b)*(a-b)≤0:=by grind
 have:=sq_zero this
 grind
theorem ins_left (a b:Rat):ins a b a:=by unfold ins;grind
theorem ins_right (a b:Rat):ins a b b:=by unfold ins;grind
theorem btw_left (a b:Rat × Rat):btw a b a:=⟨ins_left _ _,ins_left _ _⟩
theorem btw_right (a b:Rat × Rat):btw a b b:=⟨ins_right _ _,ins_right _ _⟩
theorem nxt_unique {l:List (Rat × Rat)} {a x y:Rat × Rat} (h:Nxt l a x) (k:Nxt l a y) (hx:x∈l) (hy:y∈l):x=y:=by
 obtain ⟨h1,h2⟩:=h.2 y hy
 obtain ⟨k1,k2⟩:=k.2 x hx
 have e:crs a y x = -crs a x y:=by unfold crs;grind
 have e0:crs a x y=0:=by grind
 have e1:crs a y x=0:=by grind
 exact Prod.ext (ins_anti (h2 e0).1 (k2 e1).1) (ins_anti (h2 e0).2 (k2 e1).2)
theorem nxt_inj {l:List (Rat × Rat)} {a b x:Rat × Rat} (h:Nxt l a x) (k:Nxt l b x) (ha:a∈l) (hb:b∈l):a=b:=by
 obtain ⟨h1,h2⟩:=h.2 b hb
 obtain ⟨k1,k2⟩:=k.2 a ha
 have e:crs b x a = -crs a x b:=by unfold crs;grind
 have e0:crs a x b=0:=by grind
 have e1:crs b x a=0:=by grind
 exact Prod.ext (ins_anti2 (h2 e0).1 (k2 e1).1) (ins_anti2 (h2 e0).2 (k2 e1).2)
def xp (u v:Rat × Rat):Rat:=u.1*v.2-u.2*v.1
def dp (u v:Rat × Rat):Rat:=u.1*v.1+u.2*v.2
def way (a b:Rat × Rat):Rat × Rat:=(b.1-a.1,b.2-a.2)
theorem crs_xp (a b c:Rat × Rat):crs a b c=xp (way a b) (way a c):=by unfold crs xp way;rfl
def Half (e u:Rat × Rat):Prop:=0<xp e u∨(xp e u=0∧dp e u<0)
theorem xp_swap (u v:Rat × Rat):xp v u = -xp u v:=by unfold xp;grind
theorem pluecker (e u v p:Rat × Rat):xp e u*xp v p=xp e v*xp u p+xp e p*xp v u:=by unfold xp;grind
theorem half_dot {e u v:Rat × Rat} (hu:Half e u) (hv:Half e v) (h:xp u v=0):0<dp u v:=by
 have h1:dp e e*dp u v=xp e u*xp e v+dp e u*dp e v:=by unfold xp dp;grind
 have h2:dp e u*xp e v-xp e u*dp e v=dp e e*xp u v:=by unfold xp dp;grind
 have he:0<dp e e:=by
  have h3:0≤dp e e:=by
   have:=sq_nn e.1
   have:=sq_nn e.2
   unfold dp;grind
  rcases (show dp e e=0∨0<dp e e by grind) with h0 | h0
  ·exfalso
   have a1:e.1*e.1≤0:=by have:=sq_nn e.2;unfold dp at h0;grind
   have a2:e.2*e.2≤0:=by have:=sq_nn e.1;unfold dp at h0;grind
   have b1:=sq_zero a1
   have b2:=sq_zero a2
   unfold Half xp dp at hu
   rw [b1,b2] at hu
   grind
  ·exact h0
 have hp:0<dp e e*dp u v:=by
  rw [h1]
  rw [h,Rat.mul_zero] at h2
  rcases hu with hu | ⟨hu,hu'⟩
  ·rcases hv with hv | ⟨hv,hv'⟩
   ·
    have a1:=Rat.mul_pos hu hv
    have a2:dp e u*xp e v*(xp e v*dp e v)=xp e u*dp e v*(xp e v*dp e v):=by rw [show dp e u*xp e v=xp e u*dp e v by grind]
    have a3:=Rat.mul_nonneg (Rat.le_of_lt a1) (sq_nn (dp e v))
    have a4:dp e u*dp e v*(xp e v*xp e v)=xp e u*xp e v*(dp e v*dp e v):=by grind
    have a5:0≤dp e u*dp e v:=by
     rcases (show 0≤dp e u*dp e v∨dp e u*dp e v<0 by grind) with h0 | h0
     ·exact h0
     ·exfalso
      have:=Rat.mul_pos (show 0 < -(dp e u*dp e v) by grind) (Rat.mul_pos hv hv)
      grind
    grind
   ·exfalso
    rw [hv,Rat.mul_zero] at h2
    have:=Rat.mul_pos hu (show 0 < -dp e v by grind)
    grind
  ·rcases hv with hv | ⟨hv,hv'⟩
   ·exfalso
    rw [hu,Rat.zero_mul] at h2
    have:=Rat.mul_pos (show 0 < -dp e u by grind) hv
    grind
   ·have:=Rat.mul_pos (show 0 < -dp e u by grind) (show 0 < -dp e v by grind)
    rw [hu,hv]
    grind
 exact (Rat.mul_pos_iff_of_pos_left he).1 hp
theorem half_trans {e u v p:Rat × Rat} (hu:Half e u) (hv:Half e v) (hp:Half e p) (h:0<xp v u) (k:0≤xp u p):0<xp v p:=by
 have h1:=pluecker e u v p
 rcases (show xp v p<0∨xp v p=0∨0<xp v p by grind) with h0 | h0 | h0
 ·exfalso
  rcases hu with hu | ⟨hu,hu'⟩
  ·have a1:=Rat.mul_pos hu (show 0 < -xp v p by grind)
   have a2:0≤xp e v*xp u p:=Rat.mul_nonneg (by rcases hv with h | h <;> grind) k
   have a3:0≤xp e p*xp v u:=Rat.mul_nonneg (by rcases hp with h | h <;> grind) (Rat.le_of_lt h)
   grind
  ·
   have h2:dp e u*xp e p-xp e u*dp e p=dp e e*xp u p:=by unfold xp dp;grind
   have h3:dp e u*xp e v-xp e u*dp e v=dp e e*xp u v:=by unfold xp dp;grind
   have h4:dp e v*xp e p-xp e v*dp e p=dp e e*xp v p:=by unfold xp dp;grind
   have he:0≤dp e e:=by
    have:=sq_nn e.1
    have:=sq_nn e.2
    unfold dp;grind
   have a1:=Rat.mul_nonneg he k
   have hpx:xp e p=0:=by
    rcases hp with hp | hp
    ·exfalso
     have:=Rat.mul_pos (show 0 < -dp e u by grind) hp
     rw [hu] at h2
     grind
    ·exact hp.1
   have hpd:dp e p<0:=by rcases hp with hp | hp <;> grind
   have hvx:0≤xp e v:=by rcases hv with hv | hv <;> grind
   have a2:=Rat.mul_nonneg hvx (show 0 ≤ -dp e p by grind)
   have a3:=Rat.mul_nonneg he (show 0 ≤ -xp v p by grind)
   rw [hpx] at h4
   have a4:xp e v * -dp e p=0:=by grind
   have hv0:xp e v=0:=by rcases Rat.mul_eq_zero.1 a4 with h | h <;> grind
   rw [hu,hv0] at h3
   have a5:dp e e*xp u v=0:=by grind
   rcases Rat.mul_eq_zero.1 a5 with a6 | a6
   ·have b1:e.1*e.1≤0:=by have:=sq_nn e.2;unfold dp at a6;grind
    have b2:e.2*e.2≤0:=by have:=sq_nn e.1;unfold dp at a6;grind
    have c1:=sq_zero b1
    have c2:=sq_zero b2
    unfold dp at hu'
    rw [c1,c2] at hu'
    grind
   ·have:=xp_swap u v
    grind
 ·exfalso
  have a1:=half_dot hv hp h0
  have h2:xp u p*dp v v=xp u v*dp v p+dp u v*xp v p:=by unfold xp dp;grind
  have hvv:0<dp v v:=half_dot hv hv (by unfold xp;grind)
  rw [h0,Rat.mul_zero] at h2
  have a2:=Rat.mul_nonneg k (Rat.le_of_lt hvv)
  have a3:=Rat.mul_pos (show 0 < -xp u v by have:=xp_swap u v;grind) a1
  grind
 ·exact h0
theorem ins_iff {a b x:Rat}:ins a b x↔(a≤x∧x≤b)∨(b≤x∧x≤a):=by
 unfold ins
 constructor
 ·intro h
  rcases (show a≤x∨x<a by grind) with h1 | h1
  ·rcases (show x≤b∨b<x by grind) with h2 | h2
   ·exact .inl ⟨h1,h2⟩
   ·rcases (show a<x∨a=x by grind) with h3 | h3
    ·exfalso
     have:=Rat.mul_pos (show 0<x-a by grind) (show 0<x-b by grind)
     grind
    ·exact .inr ⟨by grind,by grind⟩
  ·rcases (show b≤x∨x<b by grind) with h2 | h2
   ·exact .inr ⟨h2,by grind⟩
   ·exfalso
    have:=Rat.mul_pos (show 0<a-x by grind) (show 0<b-x by grind)
    grind
 ·rintro (⟨h1,h2⟩ | ⟨h1,h2⟩)
  ·have:=Rat.mul_nonneg (show 0≤x-a by grind) (show 0≤b-x by grind)
   grind
  ·have:=Rat.mul_nonneg (show 0≤a-x by grind) (show 0≤x-b by grind)
   grind
theorem ins_trans {a x q p:Rat} (h:ins a x p) (k:ins a q x):ins a q p:=by
 rw [ins_iff] at *
 grind
theorem btw_trans {a x q p:Rat × Rat} (h:btw a x p) (k:btw a q x):btw a q p:=⟨ins_trans h.1 k.1,ins_trans h.2 k.2⟩
theorem crs_self (a b:Rat × Rat):crs a b a=0:=by unfold crs;grind
theorem crs_end (a b:Rat × Rat):crs a b b=0:=by unfold crs;grind
theorem dp_pos {u:Rat × Rat} (h:u≠(0,0)):0<dp u u:=by
 have h1:=sq_nn u.1
 have h2:=sq_nn u.2
 unfold dp
 rcases (show 0<u.1*u.1+u.2*u.2∨u.1*u.1+u.2*u.2≤0 by grind) with h0 | h0
 ·exact h0
 ·exfalso
  exact h (Prod.ext (sq_zero (by grind)) (sq_zero (by grind)))
theorem way_ne {a b:Rat × Rat} (h:b≠a):way a b≠(0,0):=by
 intro e
 unfold way at e
 have e1:b.1-a.1=0:=congrArg Prod.fst e
 have e2:b.2-a.2=0:=congrArg Prod.snd e
 exact h (Prod.ext (by grind) (by grind))
theorem ray_split {a x q:Rat × Rat} (hx:x≠a) (h0:crs a x q=0) (hd:0<dp (way a x) (way a q)) :
  btw a x q∨(btw a q x∧∀ p,0≤crs a x p→0≤crs a q p∧(crs a q p=0→crs a x p=0)):=by
 have hU:=dp_pos (way_ne hx)
 rw [crs_xp] at h0
 have m1:(way a q).1*dp (way a x) (way a x)=(way a x).1*dp (way a x) (way a q):=by unfold xp at h0;unfold dp;grind
 have m2:(way a q).2*dp (way a x) (way a x)=(way a x).2*dp (way a x) (way a q):=by unfold xp at h0;unfold dp;grind
 generalize hUU:dp (way a x) (way a x)=U at *
 generalize hDD:dp (way a x) (way a q)=D at *
 rcases (show D≤U∨U<D by grind) with h | h
 ·left
  have key:∀ u v:Rat,v*U=u*D→v*(v-u)≤0:=fun u v e=>by
   have e2:v*(v-u)*(U*U)=u*u*(D*(D-U)):=by grind
   have b1:=Rat.mul_nonneg (sq_nn u) (Rat.mul_nonneg (Rat.le_of_lt hd) (show 0≤U-D by grind))
   rcases (show v*(v-u)≤0∨0<v*(v-u) by grind) with h0 | h0
   ·exact h0
   ·exfalso
    have:=Rat.mul_pos h0 (Rat.mul_pos hU hU)
    grind
  have k1:=key _ _ m1
  have k2:=key _ _ m2
  unfold way at k1 k2
  have k1':(q.1-a.1)*((q.1-a.1)-(x.1-a.1))≤0:=k1
  have k2':(q.2-a.2)*((q.2-a.2)-(x.2-a.2))≤0:=k2
  exact ⟨by unfold ins;grind,by unfold ins;grind⟩
 ·right
  have key:∀ u v:Rat,v*U=u*D→u*(u-v)≤0:=fun u v e=>by
   have e2:u*(u-v)*U=u*u*(U-D):=by grind
   have b1:=Rat.mul_nonneg (sq_nn u) (show 0≤D-U by grind)
   rcases (show u*(u-v)≤0∨0<u*(u-v) by grind) with h0 | h0
   ·exact h0
   ·exfalso
    have:=Rat.mul_pos h0 hU
    grind
  have k1:=key _ _ m1
  have k2:=key _ _ m2
  refine ⟨?_,fun p hp=>?_⟩
  ·unfold way at k1 k2
   have k1':(x.1-a.1)*((x.1-a.1)-(q.1-a.1))≤0:=k1
   have k2':(x.2-a.2)*((x.2-a.2)-(q.2-a.2))≤0:=k2
   exact ⟨by unfold ins;grind,by unfold ins;grind⟩
  ·have e:crs a q p*U=crs a x p*D:=by
    rw [crs_xp,crs_xp]
    unfold xp
    grind
   constructor
   ·rcases (show 0≤crs a q p∨crs a q p<0 by grind) with h1 | h1
    ·exact h1
    ·exfalso
     have b1:=Rat.mul_pos (show 0 < -crs a q p by grind) hU
     have b2:=Rat.mul_nonneg hp (Rat.le_of_lt hd)
     grind
   ·intro h1
    rw [h1,Rat.zero_mul] at e
    rcases Rat.mul_eq_zero.1 e.symm with h2 | h2
    ·exact h2
    ·exfalso;grind
theorem nxt_exists_aux {e a:Rat × Rat}:∀ (l:List (Rat × Rat)),(∀ p∈l,p=a∨Half e (way a p))→(∀ p∈l,p=a)∨∃ x,x∈l∧x≠a∧∀ p∈l,0≤crs a x p∧(crs a x p=0→btw a x p)
 | [],_=>.inl (fun p hp=>by cases hp)
 | q :: l,H=>by
  have hq:=H q (List.mem_cons_self ..)
  have hl:∀ p∈l,p=a∨Half e (way a p):=fun p hp=>H p (List.mem_cons_of_mem _ hp)
  by_cases hqa:q=a
  ·subst hqa
   rcases nxt_exists_aux l hl with h | ⟨x,hx,hxa,h⟩
   ·left
    intro p hp
    rcases List.mem_cons.1 hp with rfl | hp
    ·rfl
    ·exact h p hp
   ·right
    refine ⟨x,List.mem_cons_of_mem _ hx,hxa,fun p hp=>?_⟩
    rcases List.mem_cons.1 hp with rfl | hp
    ·rw [crs_self];exact ⟨Rat.le_refl,fun _=>btw_left _ _⟩
    ·exact h p hp
  ·have hqh:Half e (way a q):=hq.resolve_left hqa
   right
   rcases nxt_exists_aux l hl with h | ⟨x,hx,hxa,h⟩
   ·refine ⟨q,List.mem_cons_self ..,hqa,fun p hp=>?_⟩
    rcases List.mem_cons.1 hp with rfl | hp
    ·rw [crs_end];exact ⟨Rat.le_refl,fun _=>btw_right _ _⟩
    ·rw [h p hp,crs_self];exact ⟨Rat.le_refl,fun _=>btw_left _ _⟩
   ·have hxh:Half e (way a x):=(hl x hx).resolve_left hxa
    rcases (show 0<crs a x q∨crs a x q=0∨crs a x q<0 by grind) with hc | hc | hc
    ·refine ⟨x,List.mem_cons_of_mem _ hx,hxa,fun p hp=>?_⟩
     rcases List.mem_cons.1 hp with rfl | hp
     ·exact ⟨Rat.le_of_lt hc,fun h0=>by rw [h0] at hc;exact absurd hc Rat.lt_irrefl⟩
     ·exact h p hp
    ·have hd:=half_dot hxh hqh (by rw [←crs_xp];exact hc)
     rcases ray_split hxa hc hd with hb | ⟨hb,hr⟩
     ·refine ⟨x,List.mem_cons_of_mem _ hx,hxa,fun p hp=>?_⟩
      rcases List.mem_cons.1 hp with rfl | hp
      ·exact ⟨by rw [hc];exact Rat.le_refl,fun _=>hb⟩
      ·exact h p hp
     ·refine ⟨q,List.mem_cons_self ..,hqa,fun p hp=>?_⟩
      rcases List.mem_cons.1 hp with rfl | hp
      ·rw [crs_end];exact ⟨Rat.le_refl,fun _=>btw_right _ _⟩
      ·obtain ⟨h1,h2⟩:=h p hp
       obtain ⟨r1,r2⟩:=hr p h1
       exact ⟨r1,fun h0=>btw_trans (h2 (r2 h0)) hb⟩
    ·refine ⟨q,List.mem_cons_self ..,hqa,fun p hp=>?_⟩
     rcases List.mem_cons.1 hp with rfl | hp
     ·rw [crs_end];exact ⟨Rat.le_refl,fun _=>btw_right _ _⟩
     ·by_cases hpa:p=a
      ·rw [hpa,crs_self];exact ⟨Rat.le_refl,fun _=>btw_left _ _⟩
      ·have h1:=(h p hp).1
       rw [crs_xp] at h1 hc
       have h2:=half_trans hxh hqh ((hl p hp).resolve_left hpa) (by rw [xp_swap];grind) h1
       rw [crs_xp]
       exact ⟨Rat.le_of_lt h2,fun h0=>by rw [h0] at h2;exact absurd h2 Rat.lt_irrefl⟩
theorem nxt_exists {e a:Rat × Rat} {l:List (Rat × Rat)} (H:∀ p∈l,p=a∨Half e (way a p)) (h:∃ p,p∈l∧p≠a):∃ x,x∈l∧Nxt l a x:=by
 rcases nxt_exists_aux l H with h0 | ⟨x,hx,hxa,h0⟩
 ·obtain ⟨p,hp,hpa⟩:=h
  exact absurd (h0 p hp) hpa
 ·exact ⟨x,hx,Ne.symm hxa,h0⟩
def lssP (a b:Rat × Rat):Prop:=a.1<b.1∨(a.1=b.1∧a.2<b.2)
theorem half_least {l:List (Rat × Rat)} {a:Rat × Rat} (h:∀ p∈l,¬ lssP p a):∀ p∈l,p=a∨Half (0,-1) (way a p):=fun p hp=>by
 have h1:=h p hp
 unfold lssP at h1
 by_cases hpa:p=a
 ·exact .inl hpa
 ·right
  unfold Half xp dp way
  show 0<0*(p.2-a.2) - -1*(p.1-a.1)∨(0*(p.2-a.2) - -1*(p.1-a.1)=0∧0*(p.1-a.1) + -1*(p.2-a.2)<0)
  have h2:¬ (p.1=a.1∧p.2=a.2):=fun h=>hpa (Prod.ext h.1 h.2)
  grind
theorem half_nxt {l:List (Rat × Rat)} {a b:Rat × Rat} (h:Nxt l b a):∀ p∈l,p=a∨Half (way b a) (way a p):=fun p hp=>by
 obtain ⟨h1,h2⟩:=h.2 p hp
 have e:xp (way b a) (way a p)=crs b a p:=by unfold xp way crs;grind
 by_cases hpa:p=a
 ·exact .inl hpa
 ·right
  unfold Half
  rw [e]
  rcases (show 0<crs b a p∨crs b a p=0 by grind) with h0 | h0
  ·exact .inl h0
  ·refine .inr ⟨h0,?_⟩
   obtain ⟨k1,k2⟩:=h2 h0
   have hp:=dp_pos (way_ne hpa)
   unfold ins at k1 k2
   unfold dp way at *
   have hp':0<(p.1-a.1)*(p.1-a.1)+(p.2-a.2)*(p.2-a.2):=hp
   show (a.1-b.1)*(p.1-a.1)+(a.2-b.2)*(p.2-a.2)<0
   grind
theorem nodup_len {α:Type} [BEq α] [LawfulBEq α]:∀ (P l:List α),P.Nodup→(∀ p∈P,p∈l)→P.length≤l.length
 | [],_,_,_=>Nat.zero_le _
 | p :: P,l,hn,hs=>by
  have hp:=hs p (List.mem_cons_self ..)
  obtain ⟨h1,h2⟩:=List.nodup_cons.1 hn
  have ih:=nodup_len P (l.erase p) h2 (fun q hq=>by
   have hne:q≠p:=fun e=>h1 (by rw [←e];exact hq)
   exact (List.mem_erase_of_ne hne).2 (hs q (List.mem_cons_of_mem _ hq)))
  have hl:(l.erase p).length=l.length-1:=List.length_erase_of_mem hp
  have:0<l.length:=List.length_pos_of_mem hp
  rw [List.length_cons]
  omega
structure Part (l P:List (Rat × Rat)):Prop where
 ne:0<P.length
 mem:∀ p∈P,p∈l
 least:∀ p∈l,¬ lssP p P[0]
 nx:∀ i (h:i+1<P.length),Nxt l P[i] P[i+1]
 fresh:∀ i (h:i<P.length),0<i→P[i]≠P[0]
theorem Part.inj {l P:List (Rat × Rat)} (h:Part l P):∀ (i j:Nat) (hi:i<P.length) (hj:j<P.length),i<j→P[i]≠P[j]
 | 0,j,hi,hj,hij=>fun e=>h.fresh j hj hij e.symm
 | i+1,j,hi,hj,hij=>fun e=>by
  obtain ⟨k,rfl⟩ : ∃ k,j=k+1:=⟨j-1,by omega⟩
  have a:=h.nx i hi
  have b:=h.nx k hj
  rw [e] at a
  exact h.inj i k (by omega) (by omega) (by omega) (nxt_inj a b (h.mem _ (List.getElem_mem _)) (h.mem _ (List.getElem_mem _)))
theorem Part.nodup {l P:List (Rat × Rat)} (h:Part l P):P.Nodup:=by
 rw [List.nodup_iff_pairwise_ne]
 exact List.pairwise_iff_getElem.2 fun i j hi hj hij=>h.inj i j hi hj hij
theorem Part.len {l P:List (Rat × Rat)} (h:Part l P):P.length≤l.length:=nodup_len P l h.nodup h.mem
theorem Part.half {l P:List (Rat × Rat)} (h:Part l P) (i:Nat) (hi:i<P.length):∃ e,∀ p∈l,p=P[i]∨Half e (way P[i] p):=by
 cases i with
 | zero=>exact ⟨_,half_least h.least⟩
 | succ i=>exact ⟨_,half_nxt (h.nx i hi)⟩
theorem Part.next {l P:List (Rat × Rat)} (h:Part l P) (i:Nat) (hi:i<P.length) (hx:∃ p,p∈l∧p≠P[i]):∃ x,x∈l∧Nxt l P[i] x:=by
 obtain ⟨e,he⟩:=h.half i hi
 exact nxt_exists he hx
theorem Part.snoc {l P:List (Rat × Rat)} (h:Part l P) {x:Rat × Rat} (hx:x∈l) (hn:Nxt l (P[P.length-1]'(by have:=h.ne;omega)) x) (h0:x≠P[0]'h.ne):Part l (P ++ [x]) where
 ne:=by simp
 mem:=fun p hp=>by
  rcases List.mem_append.1 hp with hp | hp
  ·exact h.mem p hp
  ·rw [List.mem_singleton.1 hp];exact hx
 least:=by
  rw [List.getElem_append_left h.ne]
  exact h.least
 nx:=fun i hi=>by
  have hne:=h.ne
  have hl:(P ++ [x]).length=P.length+1:=by simp
  rcases (show i+1<P.length∨i+1=P.length by omega) with h1 | h1
  ·rw [List.getElem_append_left h1,List.getElem_append_left (by omega)]
   exact h.nx i h1
  ·rw [List.getElem_append_left (show i<P.length by omega),List.getElem_append_right (show P.length≤i+1 by omega)]
   simp only [List.getElem_singleton]
   have e:P.length-1=i:=by omega
   simp only [e] at hn
   exact hn
 fresh:=fun i hi h1=>by
  have hne:=h.ne
  rw [List.getElem_append_left (bs:=[x]) hne]
  have hl:(P ++ [x]).length=P.length+1:=by simp
  rcases (show i<P.length∨i=P.length by omega) with h2 | h2
  ·rw [List.getElem_append_left h2]
   exact h.fresh i h2 h1
  ·rw [List.getElem_append_right (by omega)]
   simp only [List.getElem_singleton]
   exact h0
structure Wrap (l P:List (Rat × Rat)):Prop extends Part l P where
 close:(P.length=1∧∀ p∈l,p=P[0]'ne)∨Nxt l (P[P.length-1]'(by omega)) (P[0]'ne)
theorem Wrap.head {l P Q:List (Rat × Rat)} (h:Wrap l P) (k:Wrap l Q):P[0]'h.ne=Q[0]'k.ne:=by
 have a:=h.least _ (k.mem _ (List.getElem_mem k.ne))
 have b:=k.least _ (h.mem _ (List.getElem_mem h.ne))
 unfold lssP at *
 refine Prod.ext ?_ ?_ <;> grind
theorem Wrap.same {l P Q:List (Rat × Rat)} (h:Wrap l P) (k:Wrap l Q):∀ i (hi:i<P.length) (hj:i<Q.length),P[i]=Q[i]
 | 0,_,_=>h.head k
 | i+1,hi,hj=>by
  have e:=h.same k i (by omega) (by omega)
  have a:=h.nx i hi
  have b:=k.nx i hj
  rw [e] at a
  exact nxt_unique a b (h.mem _ (List.getElem_mem _)) (k.mem _ (List.getElem_mem _))
theorem Wrap.le {l P Q:List (Rat × Rat)} (h:Wrap l P) (k:Wrap l Q):Q.length≤P.length:=by
 apply Nat.le_of_not_lt
 intro hlt
 have hne:=h.ne
 have e:=h.same k (P.length-1) (by omega) (by omega)
 have b:=k.nx (P.length-1) (by omega)
 rcases h.close with ⟨h1,h2⟩ | h1
 ·have a1:=h2 _ (k.mem _ (List.getElem_mem (show P.length-1+1<Q.length by omega)))
  have a2:=h2 _ (k.mem _ (List.getElem_mem (show P.length-1<Q.length by omega)))
  exact b.1 (by rw [a1,a2])
 ·rw [e] at h1
  have a1:=nxt_unique h1 b (h.mem _ (List.getElem_mem _)) (k.mem _ (List.getElem_mem _))
  rw [h.head k] at a1
  exact k.fresh _ (show P.length-1+1<Q.length by omega) (by omega) a1.symm
theorem Wrap.unique {l P Q:List (Rat × Rat)} (h:Wrap l P) (k:Wrap l Q):P=Q:=by
 have e:P.length=Q.length:=Nat.le_antisymm (k.le h) (h.le k)
 exact List.ext_getElem e fun i hi hj=>h.same k i hi hj
def nxI (n i:Nat):Nat:=if i+1<n then i+1 else 0
theorem nxI_lt {n i:Nat} (h:0<n):nxI n i<n:=by unfold nxI;split <;> omega
theorem Wrap.side {l P:List (Rat × Rat)} (h:Wrap l P) (h2:2≤P.length) (i:Nat) (hi:i<P.length):Nxt l P[i] (P[nxI P.length i]'(nxI_lt h.ne)):=by
 unfold nxI
 by_cases h1:i+1<P.length
 ·simp only [if_pos h1]
  exact h.nx i h1
 ·simp only [if_neg h1]
  have e:P.length-1=i:=by omega
  rcases h.close with ⟨h3,_⟩ | h3
  ·omega
  ·simp only [e] at h3
   exact h3
theorem off_side {l:List (Rat × Rat)} {a b c y:Rat × Rat} (ha:a∈l) (hb:b∈l) (hcl:c∈l) (hab:Nxt l a b) (hcy:Nxt l c y) (hca:c≠a) (hcb:c≠b):0<crs a b c:=by
 obtain ⟨h1,h2⟩:=hab.2 c hcl
 rcases (show 0<crs a b c∨crs a b c=0 by grind) with h0 | h0
 ·exact h0
 ·exfalso
  obtain ⟨k1,k2⟩:=h2 h0
  obtain ⟨pa,qa⟩:=hcy.2 a ha
  obtain ⟨pb,qb⟩:=hcy.2 b hb
  have hu:=dp_pos (way_ne (Ne.symm hca))
  have hv:=dp_pos (way_ne (Ne.symm hcb))
  have e0:xp (way c a) (way c b)=0:=by
   have:crs a b c=xp (way c a) (way c b):=by unfold crs xp way;grind
   rw [←this];exact h0
  rw [crs_xp] at pa pb qa qb
  have hD:dp (way c a) (way c b)<0:=by
   have d0:dp (way c a) (way c b)≤0:=by
    unfold ins at k1 k2
    unfold dp way
    show (a.1-c.1)*(b.1-c.1)+(a.2-c.2)*(b.2-c.2)≤0
    grind
   rcases (show dp (way c a) (way c b)<0∨dp (way c a) (way c b)=0 by grind) with h | h
   ·exact h
   ·exfalso
    have e:dp (way c a) (way c a)*dp (way c b) (way c b)=dp (way c a) (way c b)*dp (way c a) (way c b)+xp (way c a) (way c b)*xp (way c a) (way c b):=by unfold dp xp;grind
    have:=Rat.mul_pos hu hv
    rw [h,e0] at e
    grind
  have i1:xp (way c y) (way c a)*dp (way c b) (way c b)=xp (way c y) (way c b)*dp (way c a) (way c b)-dp (way c y) (way c b)*xp (way c a) (way c b):=by unfold xp dp;grind
  rw [e0,Rat.mul_zero] at i1
  have z1:xp (way c y) (way c a)=0:=by
   have b1:=Rat.mul_nonneg pa (Rat.le_of_lt hv)
   have b2:=Rat.mul_nonneg pb (show 0 ≤ -dp (way c a) (way c b) by grind)
   have b3:xp (way c y) (way c a)*dp (way c b) (way c b)=0:=by grind
   rcases Rat.mul_eq_zero.1 b3 with h | h
   ·exact h
   ·exfalso;grind
  have z2:xp (way c y) (way c b)=0:=by
   rw [z1,Rat.zero_mul] at i1
   have b3:xp (way c y) (way c b)*dp (way c a) (way c b)=0:=by grind
   rcases Rat.mul_eq_zero.1 b3 with h | h
   ·exact h
   ·exfalso;grind
  obtain ⟨u1,u2⟩:=qa z1
  obtain ⟨v1,v2⟩:=qb z2
  have m1:0<dp (way c a) (way c y):=by
   unfold ins at u1 u2
   unfold dp way at *
   have hu':0<(a.1-c.1)*(a.1-c.1)+(a.2-c.2)*(a.2-c.2):=hu
   show 0<(a.1-c.1)*(y.1-c.1)+(a.2-c.2)*(y.2-c.2)
   grind
  have m2:0<dp (way c b) (way c y):=by
   unfold ins at v1 v2
   unfold dp way at *
   have hv':0<(b.1-c.1)*(b.1-c.1)+(b.2-c.2)*(b.2-c.2):=hv
   show 0<(b.1-c.1)*(y.1-c.1)+(b.2-c.2)*(y.2-c.2)
   grind
  have i2:dp (way c a) (way c y)*dp (way c b) (way c b)=dp (way c b) (way c y)*dp (way c a) (way c b)+xp (way c a) (way c b)*xp (way c y) (way c b):=by unfold xp dp;grind
  rw [e0,Rat.zero_mul] at i2
  have b1:=Rat.mul_pos m1 hv
  have b2:=Rat.mul_pos m2 (show 0 < -dp (way c a) (way c b) by grind)
  grind
theorem Wrap.convex {l P:List (Rat × Rat)} (h:Wrap l P) (h2:2≤P.length) (i j:Nat) (hi:i<P.length) (hj:j<P.length) (h3:j≠i) (h4:j≠nxI P.length i) :
  0<crs P[i] (P[nxI P.length i]'(nxI_lt h.ne)) P[j]:=by
 have inj:∀ m n (hm:m<P.length) (hn:n<P.length),m≠n→P[m]≠P[n]:=fun m n hm hn hne=>by
  rcases Nat.lt_or_gt_of_ne hne with hlt | hlt
  ·exact h.inj m n hm hn hlt
  ·exact Ne.symm (h.inj n m hn hm hlt)
 exact off_side (h.mem _ (List.getElem_mem _)) (h.mem _ (List.getElem_mem _)) (h.mem _ (List.getElem_mem _)) (h.side h2 i hi) (h.side h2 j hj) (inj _ _ _ _ h3) (inj _ _ _ _ h4)
theorem half_ne {e u:Rat × Rat} (h:Half e u):u≠(0,0):=by
 intro h0
 rw [h0] at h
 unfold Half xp dp at h
 have h':0<e.1*0-e.2*0∨(e.1*0-e.2*0=0∧e.1*0+e.2*0<0):=h
 grind
theorem half_e {e u:Rat × Rat} (h:Half e u):e≠(0,0):=by
 intro h0
 rw [h0] at h
 unfold Half xp dp at h
 have h':0<0*u.2-0*u.1∨(0*u.2-0*u.1=0∧0*u.1+0*u.2<0):=h
 grind
theorem half_add {e u v:Rat × Rat} (hu:Half e u) (hv:Half e v):Half e (u.1+v.1,u.2+v.2):=by
 unfold Half xp dp at *
 show 0<e.1*(u.2+v.2)-e.2*(u.1+v.1)∨(e.1*(u.2+v.2)-e.2*(u.1+v.1)=0∧e.1*(u.1+v.1)+e.2*(u.2+v.2)<0)
 grind
theorem way_add (a b c:Rat × Rat):way a c=((way a b).1+(way b c).1,(way a b).2+(way b c).2):=by
 unfold way
 exact Prod.ext (by show c.1-a.1=b.1-a.1+(c.1-b.1);grind) (by show c.2-a.2=b.2-a.2+(c.2-b.2);grind)
theorem half_lt_trans {e a b c:Rat × Rat} (h:Half e (way a b)) (k:Half e (way b c)):Half e (way a c):=by
 rw [way_add a b c]
 exact half_add h k
theorem half_irrefl {e a:Rat × Rat} (h:Half e (way a a)):False:=half_ne h (by unfold way;exact Prod.ext (by show a.1-a.1=0;grind) (by show a.2-a.2=0;grind))
theorem half_trans' {e u v p:Rat × Rat} (hu:Half e u) (hv:Half e v) (hp:Half e p) (h:0≤xp v u) (k:0≤xp u p):0≤xp v p:=by
 rcases (show 0<xp v u∨xp v u=0 by grind) with h0 | h0
 ·exact Rat.le_of_lt (half_trans hu hv hp h0 k)
 ·have hd:=half_dot hv hu h0
  have hU:=dp_pos (half_ne hu)
  have e1:xp v p*dp u u=dp v u*xp u p+dp u p*xp v u:=by unfold xp dp;grind
  rw [h0,Rat.mul_zero] at e1
  have:=Rat.mul_nonneg (Rat.le_of_lt hd) k
  rcases (show 0≤xp v p∨xp v p<0 by grind) with h1 | h1
  ·exact h1
  ·exfalso
   have:=Rat.mul_pos (show 0 < -xp v p by grind) hU
   grind
theorem half_trans2 {e u v p:Rat × Rat} (hu:Half e u) (hv:Half e v) (hp:Half e p) (h:0≤xp v u) (k:0<xp u p):0<xp v p:=by
 rcases (show 0<xp v p∨xp v p≤0 by grind) with h1 | h1
 ·exact h1
 ·exfalso
  have:=half_trans' hv hp hu (by rw [xp_swap];grind) h
  have:=xp_swap u p
  grind
theorem line_btw {e c p x:Rat × Rat} (h1:Half e (way c p)) (h2:p=x∨Half e (way p x)) (hx:Half e (way c x)) (h0:crs c x p=0):btw c x p:=by
 rcases h2 with rfl | h2
 ·exact btw_right _ _
 ·have hxc:x≠c:=fun h=>half_irrefl (by rw [h] at hx;exact hx)
  have h0':=h0
  rw [crs_xp] at h0'
  rcases ray_split hxc h0 (half_dot hx h1 h0') with h | ⟨h,_⟩
  ·exact h
  ·exfalso
   have h3:xp (way c x) (way p x)=0:=by unfold xp way at *; grind
   have h4:=half_dot hx h2 h3
   obtain ⟨k1,k2⟩:=h
   unfold ins at k1 k2
   unfold dp way at h4
   have h4':0<(x.1-c.1)*(x.1-p.1)+(x.2-c.2)*(x.2-p.2):=h4
   grind
structure Chn (e:Rat × Rat) (S O:List (Rat × Rat)):Prop where
 ne:0<O.length
 mem:∀ p∈O,p∈S
 low:∀ p∈S,p=O[0]∨Half e (way O[0] p)
 top:∀ p∈S,p=O[O.length-1]'(by omega)∨Half e (way p (O[O.length-1]'(by omega)))
 asc:∀ i (h:i+1<O.length),Half e (way O[i] O[i+1])
 nx:∀ i (h:i+1<O.length),Nxt S O[i] O[i+1]
theorem Chn.one (e a:Rat × Rat):Chn e [a] [a] where
 ne:=by simp
 mem:=fun p hp=>hp
 low:=fun p hp=>.inl (List.mem_singleton.1 hp)
 top:=fun p hp=>.inl (List.mem_singleton.1 hp)
 asc:=fun i h=>by simp at h
 nx:=fun i h=>by simp at h
theorem Chn.lt {e:Rat × Rat} {S O:List (Rat × Rat)} (h:Chn e S O) (i:Nat):∀ d (hd:i+d+1<O.length),Half e (way O[i] O[i+d+1])
 | 0,hd=>h.asc i hd
 | d+1,hd=>half_lt_trans (h.lt i d (by omega)) (h.asc (i+d+1) hd)
theorem Chn.lt' {e:Rat × Rat} {S O:List (Rat × Rat)} (h:Chn e S O) {i j:Nat} (hij:i<j) (hj:j<O.length):Half e (way O[i] O[j]):=by
 obtain ⟨d,rfl⟩ : ∃ d,j=i+d+1:=⟨j-i-1,by omega⟩
 exact h.lt i d hj
theorem Chn.step {e:Rat × Rat} {S O:List (Rat × Rat)} (h:Chn e S O) {x:Rat × Rat} (hx:∀ p∈S,Half e (way p x)) {j:Nat} (hj0:0<j) (hj:j≤O.length)
  (hpop:∀ hl:j<O.length,crs (O[j-1]'(by omega)) O[j] x≤0) (hkeep:∀ _:1<j,0<crs (O[j-2]'(by omega)) (O[j-1]'(by omega)) x):Chn e (S ++ [x]) (O.take j ++ [x]):=by
 have hOm:∀ i (hi:i<O.length),O[i]∈S:=fun i hi=>h.mem _ (List.getElem_mem hi)
 have hOx:∀ i (hi:i<O.length),Half e (way O[i] x):=fun i hi=>hx _ (hOm i hi)
 have left:∀ d i (hi:i+1<j),i+2+d=j→0<crs (O[i]'(by omega)) (O[i+1]'(by omega)) x:=by
  intro d
  induction d with
  | zero =>
   intro i hi hd
   obtain rfl:j=i+2:=by omega
   exact hkeep (by omega)
  | succ d ih =>
   intro i hi hd
   have a1:=ih (i+1) (by omega) (by omega)
   have a2:=(h.nx i (by omega)).2 _ (hOm (i+2) (by omega))
   have h1:=h.asc i (by omega)
   have h2:=h.asc (i+1) (by omega)
   have h3:=hOx (i+1) (by omega)
   have e1:crs (O[i]'(by omega)) (O[i+1]'(by omega)) x=xp (way (O[i]'(by omega)) (O[i+1]'(by omega))) (way (O[i+1]'(by omega)) x):=by unfold crs xp way;grind
   have e2:crs (O[i]'(by omega)) (O[i+1]'(by omega)) (O[i+2]'(by omega))=xp (way (O[i]'(by omega)) (O[i+1]'(by omega))) (way (O[i+1]'(by omega)) (O[i+2]'(by omega))):=by unfold crs xp way;grind
   rw [e1]
   rw [crs_xp] at a1
   exact half_trans2 h2 h1 h3 (by rw [←e2];exact a2.1) a1
 have hnew:∀ p∈S,0≤crs (O[j-1]'(by omega)) x p∧(crs (O[j-1]'(by omega)) x p=0→btw (O[j-1]'(by omega)) x p):=by
  intro p hp
  have hcx:=hOx (j-1) (by omega)
  by_cases hpc:p=O[j-1]'(by omega)
  ·rw [hpc,crs_self]
   exact ⟨Rat.le_refl,fun _=>btw_left _ _⟩
  by_cases hlt:Half e (way (O[j-1]'(by omega)) p)
  ·
   have hjl:j<O.length:=by
    rcases Nat.lt_or_ge j O.length with h1 | h1
    ·exact h1
    ·exfalso
     obtain rfl:j=O.length:=by omega
     rcases h.top p hp with h2 | h2
     ·exact hpc h2
     ·exact half_irrefl (half_lt_trans hlt h2)
   have a1:=hpop hjl
   have hside:=h.nx (j-1) (by omega)
   have hasc:=h.asc (j-1) (by omega)
   simp only [show j-1+1=j by omega] at hside hasc
   have a2:=(hside.2 p hp).1
   rw [crs_xp] at a1 a2
   have a3:0≤xp (way (O[j-1]'(by omega)) x) (way (O[j-1]'(by omega)) p):=half_trans' hasc hcx hlt (by rw [xp_swap];grind) a2
   refine ⟨by rw [crs_xp];exact a3,fun h0=>line_btw hlt ?_ hcx h0⟩
   exact .inr (hx p hp)
  ·
   have hj1:1<j:=by
    rcases Nat.lt_or_ge 1 j with h1 | h1
    ·exact h1
    ·exfalso
     obtain rfl:j=1:=by omega
     rcases h.low p hp with h2 | h2
     ·exact hpc h2
     ·exact hlt h2
   have a1:=hkeep hj1
   have hside:=h.nx (j-2) (by omega)
   have hasc:=h.asc (j-2) (by omega)
   simp only [show j-2+1=j-1 by omega] at hside hasc
   have a2:=(hside.2 p hp).1
   have hpc':Half e (way p (O[j-1]'(by omega))):=by
    have he:=half_e hcx
    have hw:=way_ne (a:=O[j-1]'(by omega)) (b:=p) hpc
    have hE:=dp_pos he
    have hW:=dp_pos hw
    have hid:dp e e*dp (way (O[j-1]'(by omega)) p) (way (O[j-1]'(by omega)) p)=xp e (way (O[j-1]'(by omega)) p)*xp e (way (O[j-1]'(by omega)) p)+dp e (way (O[j-1]'(by omega)) p)*dp e (way (O[j-1]'(by omega)) p):=by unfold xp dp;grind
    have hpos:=Rat.mul_pos hE hW
    have n1:xp e (way p (O[j-1]'(by omega))) = -xp e (way (O[j-1]'(by omega)) p):=by unfold xp way;grind
    have n2:dp e (way p (O[j-1]'(by omega))) = -dp e (way (O[j-1]'(by omega)) p):=by unfold dp way;grind
    unfold Half at hlt ⊢
    rw [n1,n2]
    rcases (show xp e (way (O[j-1]'(by omega)) p)<0∨xp e (way (O[j-1]'(by omega)) p)=0∨0<xp e (way (O[j-1]'(by omega)) p) by grind) with h0 | h0 | h0
    ·left;grind
    ·right
     rw [h0] at hid hlt ⊢
     have:¬ dp e (way (O[j-1]'(by omega)) p)=0:=fun hz=>by rw [hz] at hid;grind
     grind
    ·exfalso;exact hlt (.inl h0)
   have e1:crs (O[j-2]'(by omega)) (O[j-1]'(by omega)) x=xp (way (O[j-2]'(by omega)) (O[j-1]'(by omega))) (way (O[j-1]'(by omega)) x):=by unfold crs xp way;grind
   have e2:crs (O[j-2]'(by omega)) (O[j-1]'(by omega)) p=xp (way p (O[j-1]'(by omega))) (way (O[j-2]'(by omega)) (O[j-1]'(by omega))):=by unfold crs xp way;grind
   rw [e1] at a1
   rw [e2] at a2
   have a3:=half_trans2 hasc hpc' hcx a2 a1
   have e3:crs (O[j-1]'(by omega)) x p=xp (way p (O[j-1]'(by omega))) (way (O[j-1]'(by omega)) x):=by unfold crs xp way;grind
   rw [e3]
   exact ⟨Rat.le_of_lt a3,fun h0=>by rw [h0] at a3;exact absurd a3 Rat.lt_irrefl⟩
 have hlen:(O.take j ++ [x]).length=j+1:=by simp;omega
 have get:∀ i (hi:i<j) (hl:i<(O.take j ++ [x]).length),(O.take j ++ [x])[i]=O[i]'(by omega):=fun i hi hl=>by
  rw [List.getElem_append_left (by simp;omega),List.getElem_take]
 have getx:∀ (hl:j<(O.take j ++ [x]).length),(O.take j ++ [x])[j]=x:=fun hl=>by
  rw [List.getElem_append_right (by simp;omega)]
  simp
 refine ⟨by omega,?_,?_,?_,?_,?_⟩
 ·intro p hp
  rcases List.mem_append.1 hp with hp | hp
  ·exact List.mem_append_left _ (h.mem p (List.mem_of_mem_take hp))
  ·exact List.mem_append_right _ hp
 ·intro p hp
  rw [get 0 hj0]
  rcases List.mem_append.1 hp with hp | hp
  ·exact h.low p hp
  ·rw [List.mem_singleton.1 hp];exact .inr (hOx 0 (by omega))
 ·intro p hp
  simp only [hlen,Nat.add_sub_cancel]
  rw [getx]
  rcases List.mem_append.1 hp with hp | hp
  ·exact .inr (hx p hp)
  ·exact .inl (List.mem_singleton.1 hp)
 ·intro i hi
  rw [hlen] at hi
  rcases Nat.lt_or_ge (i+1) j with h1 | h1
  ·rw [get i (by omega),get (i+1) h1]
   exact h.asc i (by omega)
  ·obtain rfl:j=i+1:=by omega
   rw [get i (by omega),getx]
   exact hOx i (by omega)
 ·intro i hi
  rw [hlen] at hi
  rcases Nat.lt_or_ge (i+1) j with h1 | h1
  ·rw [get i (by omega),get (i+1) h1]
   obtain ⟨n1,n2⟩:=h.nx i (by omega)
   refine ⟨n1,fun p hp=>?_⟩
   rcases List.mem_append.1 hp with hp | hp
   ·exact n2 p hp
   ·rw [List.mem_singleton.1 hp]
    have:=left (j-2-i) i h1 (by omega)
    exact ⟨Rat.le_of_lt this,fun h0=>by rw [h0] at this;exact absurd this Rat.lt_irrefl⟩
  ·obtain rfl:j=i+1:=by omega
   rw [get i (by omega),getx]
   refine ⟨fun h0=>half_irrefl (by have:=hOx i (by omega);rw [h0] at this;exact this),fun p hp=>?_⟩
   rcases List.mem_append.1 hp with hp | hp
   ·exact hnew p hp
   ·rw [List.mem_singleton.1 hp,crs_end]
    exact ⟨Rat.le_refl,fun _=>btw_right _ _⟩
theorem half_low {a b:Rat × Rat}:Half (0,-1) (way a b)↔lssP a b:=by
 unfold Half xp dp way lssP
 show (0<0*(b.2-a.2) - -1*(b.1-a.1)∨(0*(b.2-a.2) - -1*(b.1-a.1)=0∧0*(b.1-a.1) + -1*(b.2-a.2)<0))↔_
 grind
theorem half_high {a b:Rat × Rat}:Half (0,1) (way a b)↔lssP b a:=by
 unfold Half xp dp way lssP
 show (0<0*(b.2-a.2)-1*(b.1-a.1)∨(0*(b.2-a.2)-1*(b.1-a.1)=0∧0*(b.1-a.1)+1*(b.2-a.2)<0))↔_
 grind
theorem lssP_irrefl {a:Rat × Rat}:¬ lssP a a:=by unfold lssP;grind
theorem lssP_asymm {a b:Rat × Rat} (h:lssP a b):¬ lssP b a:=by unfold lssP at *; grind
theorem lssP_trans {a b c:Rat × Rat} (h:lssP a b) (k:lssP b c):lssP a c:=by unfold lssP at *; grind
theorem lssP_total {a b:Rat × Rat} (h:a≠b):lssP a b∨lssP b a:=by
 have:¬ (a.1=b.1∧a.2=b.2):=fun e=>h (Prod.ext e.1 e.2)
 unfold lssP;grind
theorem Nxt.congr {l m:List (Rat × Rat)} (hm:∀ p,p∈m→p∈l) {a b:Rat × Rat} (h:Nxt l a b):Nxt m a b:=⟨h.1,fun p hp=>h.2 p (hm p hp)⟩
theorem Wrap.congr {l m P:List (Rat × Rat)} (h:Wrap l P) (hlm:∀ p,p∈l↔p∈m):Wrap m P where
 ne:=h.ne
 mem:=fun p hp=>(hlm p).1 (h.mem p hp)
 least:=fun p hp=>h.least p ((hlm p).2 hp)
 nx:=fun i hi=>Nxt.congr (fun p hp=>(hlm p).2 hp) (h.nx i hi)
 fresh:=h.fresh
 close:=by
  rcases h.close with ⟨h1,h2⟩ | h1
  ·exact .inl ⟨h1,fun p hp=>h2 p ((hlm p).2 hp)⟩
  ·exact .inr (Nxt.congr (fun p hp=>(hlm p).2 hp) h1)
theorem Chn.two {e:Rat × Rat} {S O:List (Rat × Rat)} (h:Chn e S O) {a b:Rat × Rat} (ha:a∈S) (hb:b∈S) (hab:a≠b):1<O.length:=by
 have hne:=h.ne
 rcases Nat.lt_or_ge 1 O.length with h1 | h1
 ·exact h1
 ·exfalso
  have e1:O.length-1=0:=by omega
  have eq:∀ p∈S,p=O[0]:=fun p hp=>by
   have a1:=h.low p hp
   have a2:=h.top p hp
   simp only [e1] at a2
   rcases a1 with a1 | a1
   ·exact a1
   ·rcases a2 with a2 | a2
    ·exact a2
    ·exact (half_irrefl (half_lt_trans a1 a2)).elim
  exact hab (by rw [eq a ha,eq b hb])
theorem wrap_of_sides {s L U:List (Rat × Rat)} (hL:Chn (0,-1) s L) (hU:Chn (0,1) s U) {a b:Rat × Rat} (ha:a∈s) (hb:b∈s) (hab:a≠b):Wrap s (L.dropLast++U.dropLast):=by
 have l1:=hL.two ha hb hab
 have u1:=hU.two ha hb hab
 have hLn:=hL.ne
 have hUn:=hU.ne
 have hLl:∀ i (hi:i<L.length),L[i]∈s:=fun i hi=>hL.mem _ (List.getElem_mem hi)
 have hUl:∀ i (hi:i<U.length),U[i]∈s:=fun i hi=>hU.mem _ (List.getElem_mem hi)
 have m1:L[L.length-1]'(by omega)=U[0]:=by
  rcases hL.top _ (hUl 0 hUn) with h1 | h1
  ·exact h1.symm
  ·rcases hU.low _ (hLl (L.length-1) (by omega)) with h2 | h2
   ·exact h2
   ·exact absurd (half_low.1 h1) (lssP_asymm (half_high.1 h2))
 have m2:U[U.length-1]'(by omega)=L[0]:=by
  rcases hL.low _ (hUl (U.length-1) (by omega)) with h1 | h1
  ·exact h1
  ·rcases hU.top _ (hLl 0 hLn) with h2 | h2
   ·exact h2.symm
   ·exact absurd (half_low.1 h1) (lssP_asymm (half_high.1 h2))
 have hlen:(L.dropLast++U.dropLast).length=L.length-1+(U.length-1):=by simp
 have gl:∀ i (hi:i<L.length-1) (h:i<(L.dropLast++U.dropLast).length),(L.dropLast++U.dropLast)[i]=L[i]'(by omega):=fun i hi h=>by
  rw [List.getElem_append_left (by simp;omega),List.getElem_dropLast]
 have gu:∀ i j (hi:i<U.length-1) (hj:j=L.length-1+i) (h:j<(L.dropLast++U.dropLast).length),(L.dropLast++U.dropLast)[j]=U[i]'(by omega):=fun i j hi hj h=>by
  subst hj
  rw [List.getElem_append_right (by simp),List.getElem_dropLast]
  simp
 have head:(L.dropLast++U.dropLast)[0]'(by omega)=L[0]:=gl 0 (by omega) _
 refine ⟨⟨by omega,?_,?_,?_,?_⟩,?_⟩
 ·intro p hp
  rcases List.mem_append.1 hp with hp | hp
  ·exact hL.mem p (by rw [List.dropLast_eq_take] at hp;exact List.mem_of_mem_take hp)
  ·exact hU.mem p (by rw [List.dropLast_eq_take] at hp;exact List.mem_of_mem_take hp)
 ·intro p hp
  rw [head]
  rcases hL.low p hp with h1 | h1
  ·rw [h1];exact lssP_irrefl
  ·exact lssP_asymm (half_low.1 h1)
 ·intro i hi
  rw [hlen] at hi
  rcases (show i+1<L.length-1∨i+1=L.length-1∨L.length-1≤i by omega) with h1 | h1 | h1
  ·rw [gl i (by omega),gl (i+1) h1]
   exact hL.nx i (by omega)
  ·rw [gl i (by omega),gu 0 (i+1) (by omega) (by omega),←m1]
   have:=hL.nx i (by omega)
   simp only [h1] at this
   exact this
  ·obtain ⟨k,rfl⟩ : ∃ k,i=L.length-1+k:=⟨i-(L.length-1),by omega⟩
   rw [gu k _ (by omega) rfl,gu (k+1) _ (by omega) (by omega)]
   exact hU.nx k (by omega)
 ·intro i hi h0
  rw [head]
  rw [hlen] at hi
  rcases (show i<L.length-1∨L.length-1≤i by omega) with h1 | h1
  ·rw [gl i h1]
   intro e
   have:=hL.lt' h0 (show i<L.length by omega)
   rw [e] at this
   exact half_irrefl this
  ·obtain ⟨k,rfl⟩ : ∃ k,i=L.length-1+k:=⟨i-(L.length-1),by omega⟩
   rw [gu k _ (by omega) rfl,←m2]
   intro e
   have:=hU.lt' (show k<U.length-1 by omega) (show U.length-1<U.length by omega)
   rw [e] at this
   exact half_irrefl this
 ·right
  have e1:(L.dropLast++U.dropLast)[(L.dropLast++U.dropLast).length-1]'(by omega)=U[U.length-2]'(by omega):=gu (U.length-2) _ (by omega) (by omega) _
  rw [e1,head,←m2]
  have:=hU.nx (U.length-2) (by omega)
  simp only [show U.length-2+1=U.length-1 by omega] at this
  exact this
def Cvx (P:List (Rat × Rat)):Prop:=3≤P.length∧∀ i j (hi:i<P.length) (hj:j<P.length),j≠i→j≠nxI P.length i→0<crs P[i] (P[nxI P.length i]'(nxI_lt (by omega))) P[j]
def Poly (P:List (Rat × Rat)):Prop:=Cvx P∧∀ j (hj:j<P.length),¬ lssP P[j] (P[0]'(by omega))
theorem Wrap.poly {l P:List (Rat × Rat)} (h:Wrap l P) (h3:3≤P.length):Poly P:=
 ⟨⟨h3,fun i j hi hj h1 h2=>h.convex (by omega) i j hi hj h1 h2⟩,fun j hj=>h.least _ (h.mem _ (List.getElem_mem hj))⟩
theorem crs_same (a c:Rat × Rat):crs a a c=0:=by unfold crs;grind
theorem Cvx.ne {P:List (Rat × Rat)} (h:Cvx P) (i:Nat) (hi:i<P.length):P[i]≠P[nxI P.length i]'(nxI_lt (by omega)):=by
 intro e
 have h3:=h.1
 obtain ⟨j,hj,h1,h2⟩ : ∃ j,j<P.length∧j≠i∧j≠nxI P.length i:=by
  by_cases c0:0≠i∧0≠nxI P.length i
  ·exact ⟨0,by omega,c0.1,c0.2⟩
  ·by_cases c1:1≠i∧1≠nxI P.length i
   ·exact ⟨1,by omega,c1.1,c1.2⟩
   ·refine ⟨2,by omega,?_,?_⟩
    ·omega
    ·omega
 have:=h.2 i j hi hj h1 h2
 rw [←e,crs_same] at this
 exact Rat.lt_irrefl this
theorem Cvx.inj {P:List (Rat × Rat)} (h:Cvx P) (i j:Nat) (hi:i<P.length) (hj:j<P.length) (hij:i≠j):P[i]≠P[j]:=by
 intro e
 by_cases h1:j=nxI P.length i
 ·subst h1
  exact h.ne i hi e
 ·have:=h.2 i j hi hj (Ne.symm hij) h1
  rw [←e,crs_self] at this
  exact Rat.lt_irrefl this
theorem Cvx.side {P:List (Rat × Rat)} (h:Cvx P) (i:Nat) (hi:i<P.length):Nxt P P[i] (P[nxI P.length i]'(nxI_lt (by omega))):=by
 refine ⟨h.ne i hi,fun p hp=>?_⟩
 obtain ⟨j,hj,rfl⟩:=List.mem_iff_getElem.1 hp
 by_cases h1:j=i
 ·subst h1;rw [crs_self];exact ⟨Rat.le_refl,fun _=>btw_left _ _⟩
 by_cases h2:j=nxI P.length i
 ·subst h2;rw [crs_end];exact ⟨Rat.le_refl,fun _=>btw_right _ _⟩
 have:=h.2 i j hi hj h1 h2
 exact ⟨Rat.le_of_lt this,fun h0=>by rw [h0] at this;exact absurd this Rat.lt_irrefl⟩
theorem Poly.wrap {P:List (Rat × Rat)} (h:Poly P):Wrap P P where
 ne:=by have:=h.1.1;omega
 mem:=fun p hp=>hp
 least:=fun p hp=>by
  obtain ⟨j,hj,rfl⟩:=List.mem_iff_getElem.1 hp
  exact h.2 j hj
 nx:=fun i hi=>by
  have:=h.1.side i (by omega)
  unfold nxI at this
  simp only [if_pos hi] at this
  exact this
 fresh:=fun i hi h0=>h.1.inj i 0 hi (by omega) (by omega)
 close:=by
  right
  have h3:=h.1.1
  have:=h.1.side (P.length-1) (by omega)
  unfold nxI at this
  simp only [show ¬ P.length-1+1<P.length by omega,if_false] at this
  exact this
def rotL (P:List (Rat × Rat)) (k:Nat):List (Rat × Rat):=P.drop k++P.take k
theorem rotL_len (P:List (Rat × Rat)) {k:Nat} (hk:k≤P.length):(rotL P k).length=P.length:=by
 unfold rotL;simp;omega
def rotI (n k i:Nat):Nat:=if i+k<n then i+k else i+k-n
theorem rotI_lt {n k i:Nat} (hk:k≤n) (hi:i<n):rotI n k i<n:=by unfold rotI;split <;> omega
theorem rotL_get (P:List (Rat × Rat)) {k i:Nat} (hk:k≤P.length) (hi:i<P.length) (h:i<(rotL P k).length):(rotL P k)[i]=P[rotI P.length k i]'(rotI_lt hk hi):=by
 have h':i<(P.drop k++P.take k).length:=h
 show (P.drop k++P.take k)[i]'h'=_
 unfold rotI
 by_cases h1:i+k<P.length
 ·simp only [if_pos h1]
  rw [List.getElem_append_left (by simp;omega),List.getElem_drop]
  simp only [Nat.add_comm]
 ·simp only [if_neg h1]
  rw [List.getElem_append_right (by simp;omega),List.getElem_take]
  have e:i-(P.drop k).length=i+k-P.length:=by simp;omega
  simp only [e]
theorem rotI_nx {n k i:Nat} (hk:k≤n) (hi:i<n):rotI n k (nxI n i)=nxI n (rotI n k i):=by
 unfold rotI nxI
 (repeat' split) <;> omega
theorem rotI_inj {n k i j:Nat} (_:k≤n) (hi:i<n) (hj:j<n) (h:rotI n k i=rotI n k j):i=j:=by
 unfold rotI at h
 split at h <;> split at h <;> omega
theorem Cvx.rot {P:List (Rat × Rat)} (h:Cvx P) {k:Nat} (hk:k≤P.length):Cvx (rotL P k):=by
 have hl:=rotL_len P hk
 refine ⟨by rw [hl];exact h.1,fun i j hi hj h1 h2=>?_⟩
 have hi':i<P.length:=by omega
 have hj':j<P.length:=by omega
 have hn:nxI (rotL P k).length i<P.length:=by rw [hl];exact nxI_lt (by omega)
 rw [rotL_get P hk hi',rotL_get P hk hj',rotL_get P hk hn]
 have e:rotI P.length k (nxI (rotL P k).length i)=nxI P.length (rotI P.length k i):=by rw [hl];exact rotI_nx hk hi'
 simp only [e]
 refine h.2 _ _ (rotI_lt hk hi') (rotI_lt hk hj') (fun e2=>h1 (rotI_inj hk hj' hi' e2)) (fun e2=>h2 ?_)
 rw [←e] at e2
 exact rotI_inj hk hj' hn e2
theorem cvx_reverse {P:List (Rat × Rat)} (h3:3≤P.length) (h:∀ i j (hi:i<P.length) (hj:j<P.length),j≠i→j≠nxI P.length i→crs P[i] (P[nxI P.length i]'(nxI_lt (by omega))) P[j]<0):Cvx P.reverse:=by
 have hl:P.reverse.length=P.length:=List.length_reverse
 refine ⟨by rw [hl];exact h3,fun i j hi hj h1 h2=>?_⟩
 have hi':i<P.length:=by omega
 have hj':j<P.length:=by omega
 have hn:nxI P.reverse.length i<P.length:=by rw [hl];exact nxI_lt (by omega)
 simp only [List.getElem_reverse]
 have e:nxI P.length (P.length-1-nxI P.reverse.length i)=P.length-1-i:=by
  rw [hl]
  unfold nxI
  split <;> split <;> omega
 have:=h (P.length-1-nxI P.reverse.length i) (P.length-1-j) (by omega) (by omega) (by omega) (by rw [e];omega)
 simp only [e] at this
 have e2:∀ a b c:Rat × Rat,crs a b c = -crs b a c:=fun a b c=>by unfold crs;grind
 rw [e2]
 grind
def Fc (n c:Nat) (q:Rat):Prop:=∃ a:Int,a.natAbs≤n*c∧q*(c:Rat)=(a:Rat)
theorem Fc.mono {n c n':Nat} {q:Rat} (h:Fc n c q) (h1:n≤n'):Fc n' c q:=by
 obtain ⟨a,h2,h3⟩:=h
 exact ⟨a,Nat.le_trans h2 (Nat.mul_le_mul_right _ h1),h3⟩
theorem Fc.wide {n c:Nat} {q:Rat} (h:Fc n c q) (d:Nat):Fc n (c*d) q:=by
 obtain ⟨a,h2,h3⟩:=h
 refine ⟨a*d,?_,?_⟩
 ·rw [Int.natAbs_mul,Int.natAbs_natCast,←Nat.mul_assoc]
  exact Nat.mul_le_mul_right _ h2
 ·rw [Rat.natCast_mul,Rat.intCast_mul,Rat.intCast_natCast,←h3,Rat.mul_assoc]
theorem Fc.wide' {n c:Nat} {q:Rat} (h:Fc n c q) (d:Nat):Fc n (d*c) q:=by rw [Nat.mul_comm];exact h.wide d
theorem Fc.add {n c n':Nat} {p q:Rat} (h:Fc n c p) (k:Fc n' c q):Fc (n+n') c (p+q):=by
 obtain ⟨a,h2,h3⟩:=h
 obtain ⟨b,k2,k3⟩:=k
 refine ⟨a+b,?_,?_⟩
 ·have:=Int.natAbs_add_le a b
  rw [Nat.add_mul]
  omega
 ·rw [Rat.intCast_add,←h3,←k3];grind
theorem Fc.neg {n c:Nat} {q:Rat} (h:Fc n c q):Fc n c (-q):=by
 obtain ⟨a,h2,h3⟩:=h
 exact ⟨-a,by rw [Int.natAbs_neg];exact h2,by rw [Rat.intCast_neg,←h3,Rat.neg_mul]⟩
theorem Fc.sub {n c n':Nat} {p q:Rat} (h:Fc n c p) (k:Fc n' c q):Fc (n+n') c (p-q):=by
 rw [Rat.sub_eq_add_neg]
 exact h.add k.neg
theorem Fc.mul {n c n' c':Nat} {p q:Rat} (h:Fc n c p) (k:Fc n' c' q):Fc (n*n') (c*c') (p*q):=by
 obtain ⟨a,h2,h3⟩:=h
 obtain ⟨b,k2,k3⟩:=k
 refine ⟨a*b,?_,?_⟩
 ·rw [Int.natAbs_mul]
  have t2:=Nat.mul_le_mul h2 k2
  have t4:n*n'*(c*c')=n*c*(n'*c'):=by grind
  omega
 ·rw [Rat.natCast_mul,Rat.intCast_mul,←h3,←k3]
  grind
theorem Fc.int {n:Nat} {a:Int} (h:a.natAbs≤n):Fc n 1 (a:Rat):=⟨a,by omega,by rw [show ((1:Nat):Rat)=1 from rfl,Rat.mul_one]⟩
theorem Fc.own (q:Rat):Fc q.num.natAbs q.den q:=⟨q.num,Nat.le_mul_of_pos_right _ q.den_pos,by
 have h1:q.num/q.den=q:=by
  have:=Rat.num_divInt_den q
  rw [Rat.divInt_eq_div] at this
  exact this
 conv=>lhs;lhs;rw [←h1]
 exact Rat.div_mul_cancel (fun e=>by rw [Rat.natCast_eq_zero_iff] at e;exact q.den_nz e)⟩
theorem mkRat_le (n:Int) (d:Nat) (hd:0<d):(mkRat n d).num.natAbs≤n.natAbs∧(mkRat n d).den≤d:=by
 rw [Rat.num_mkRat,Rat.den_mkRat,if_neg (by omega),if_neg (by omega)]
 refine ⟨?_,Nat.div_le_self _ _⟩
 rw [Int.natAbs_ediv_of_dvd (Int.ofNat_dvd_left.2 (by rw [Nat.gcd_comm];exact Nat.gcd_dvd_left _ _))]
 exact Nat.div_le_self _ _
theorem Fc.parts {n c:Nat} {q:Rat} (h:Fc n c q) (hc:0<c):q.num.natAbs≤n*c∧q.den≤c:=by
 obtain ⟨a,h2,h3⟩:=h
 have hc0:(c:Rat)≠0:=fun e=>by rw [Rat.natCast_eq_zero_iff] at e;omega
 have e:q=mkRat a c:=by rw [Rat.mkRat_eq_div,←h3,Rat.mul_div_cancel hc0]
 rw [e]
 obtain ⟨m1,m2⟩:=mkRat_le a c hc
 exact ⟨Nat.le_trans m1 h2,m2⟩
theorem Fc.quot {n c d m:Nat} {p q:Rat} (h:Fc n (c*d) p) (k:Fc m c q) (hc:0<c) (hd:0<d) (hq:q≠0):(p*q⁻¹).num.natAbs≤n*(c*d)∧(p*q⁻¹).den≤m*c*d:=by
 obtain ⟨a,h2,h3⟩:=h
 obtain ⟨b,k2,k3⟩:=k
 have hc0:(c:Rat)≠0:=fun e=>by rw [Rat.natCast_eq_zero_iff] at e;omega
 have hd0:(d:Rat)≠0:=fun e=>by rw [Rat.natCast_eq_zero_iff] at e;omega
 have hb:b≠0:=fun e=>by
  rw [e] at k3
  rcases Rat.mul_eq_zero.1 (k3.trans rfl) with h | h
  ·exact hq h
  ·exact hc0 h
 have hbq:(b:Rat)≠0:=fun e=>hb (Rat.intCast_eq_zero_iff.1 e)
 have hpos:0<b.natAbs*d:=Nat.mul_pos (Int.natAbs_pos.2 hb) hd
 have hN:((b.natAbs*d:Nat):Rat)≠0:=fun e=>by rw [Rat.natCast_eq_zero_iff] at e;omega
 have hs:((b.sign:Int):Rat)*(b.natAbs:Rat)=(b:Rat):=by
  rw [←Rat.intCast_natCast,←Rat.intCast_mul,Int.sign_mul_natAbs]
 have hss:((b.sign:Int):Rat)*((b.sign:Int):Rat)=1:=by
  rcases Int.lt_or_gt_of_ne hb with h | h
  ·rw [Int.sign_eq_neg_one_of_neg h];decide +kernel
  ·rw [Int.sign_eq_one_of_pos h];decide +kernel
 have e:p*q⁻¹=mkRat (b.sign*a) (b.natAbs*d):=by
  rw [Rat.mkRat_eq_div]
  have h4:p*q⁻¹*((b.natAbs*d:Nat):Rat)=((b.sign*a:Int):Rat):=by
   have hqi:=Rat.mul_inv_cancel _ hq
   rw [Rat.natCast_mul] at *
   rw [Rat.intCast_mul,←h3]
   have h5:(b.natAbs:Rat)=((b.sign:Int):Rat)*(q*(c:Rat)):=by
    rw [k3,←hs,←Rat.mul_assoc,hss,Rat.one_mul]
   rw [h5]
   grind
  rw [←h4,Rat.mul_div_cancel hN]
 rw [e]
 obtain ⟨m1,m2⟩:=mkRat_le (b.sign*a) (b.natAbs*d) hpos
 refine ⟨Nat.le_trans m1 ?_,Nat.le_trans m2 (Nat.mul_le_mul_right _ k2)⟩
 rw [Int.natAbs_mul]
 have:b.sign.natAbs=1:=Int.natAbs_sign_of_ne_zero hb
 rw [this,Nat.one_mul]
 exact h2
def dens:List Rat→Nat
 | []=>1
 | q :: l=>q.den*dens l
theorem dens_pos:∀ l,0<dens l
 | []=>by decide
 | q :: l=>Nat.mul_pos q.den_pos (dens_pos l)
theorem dens_le {d:Nat}:∀ l:List Rat,(∀ q∈l,q.den≤d)→dens l≤d ^ l.length
 | [],_=>Nat.le_refl _
 | q :: l,h=>by
  rw [List.length_cons,Nat.pow_succ,Nat.mul_comm]
  exact Nat.mul_le_mul (h q (List.mem_cons_self ..)) (dens_le l (fun p hp=>h p (List.mem_cons_of_mem _ hp)))
theorem fc_dens {n:Nat}:∀ (l:List Rat),(∀ q∈l,q.num.natAbs≤n)→∀ q∈l,Fc n (dens l) q
 | q :: l,h,p,hp=>by
  rcases List.mem_cons.1 hp with rfl | hp
  ·exact ((Fc.own p).mono (h p (List.mem_cons_self ..))).wide _
  ·exact (fc_dens l (fun r hr=>h r (List.mem_cons_of_mem _ hr)) p hp).wide' _
end Go.Proofs.YtogdahbbogimcaaGreatDoor
