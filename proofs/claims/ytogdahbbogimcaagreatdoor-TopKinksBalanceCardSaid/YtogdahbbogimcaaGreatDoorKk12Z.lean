import Derived.Test.YtogdahbbogimcaaGreatDoorKk9Z
namespace Go.Proofs.YtogdahbbogimcaaGreatDoor
theorem abs_lt_one {t:Rat} (h:absQ t<1):-1<t∧t<1:=by
 unfold absQ at h
 split at h <;> constructor <;> grind
theorem inv_pos {a:Rat} (h:0<a):0<a⁻¹:=Rat.inv_pos.2 h
theorem sq_nonneg (t:Rat):0≤t*t:=by
 rcases rat_le_or 0 t with h | h
 ·exact Rat.mul_nonneg h h
 ·have h2:0 ≤ -t:=by grind
  have:=Rat.mul_nonneg h2 h2
  grind
theorem one_sq_pos (t:Rat):0<1+t*t:=by
 have:=sq_nonneg t
 grind
theorem ts_pos {t s:Rat} (ht:-1<t∧t<1) (hs:-1<s∧s<1):0<1+t*s:=by
 have h1:0<(1+t)*(1+s):=Rat.mul_pos (by grind) (by grind)
 have h2:0<(1-t)*(1-s):=Rat.mul_pos (by grind) (by grind)
 grind
theorem dir_eq (t:Rat):∃ a,0<a∧(1+t*t)*a=1∧dirQ t=((1-t*t)*a,(t+t)*a):=
 ⟨(1+t*t)⁻¹,inv_pos (one_sq_pos t),Rat.mul_inv_cancel _ (one_sq_ne t),rfl⟩
theorem dot_pos {t s:Rat} (ht:-1<t∧t<1) (hs:-1<s∧s<1):0<1+dotQ (upQ (dirQ t)) (upQ (dirQ s)):=by
 obtain ⟨a,ha,ha1,he⟩:=dir_eq t
 obtain ⟨b,hb,hb1,hf⟩:=dir_eq s
 have h0:=ts_pos ht hs
 have h1:1+dotQ (upQ (dirQ t)) (upQ (dirQ s))=2*((1+t*s)*(1+t*s))*(a*b):=by
  unfold dotQ upQ
  rw [he,hf]
  grind
 rw [h1]
 exact Rat.mul_pos (Rat.mul_pos (by decide +kernel) (Rat.mul_pos h0 h0)) (Rat.mul_pos ha hb)
theorem PrIn.t {D:List (Rat × Rat)} (h:PrIn D) {k:Nat} (hk:k<D.length):-1<tK D k∧tK D k<1:=by
 rw [←tK_eq hk]
 exact abs_lt_one (h _ (List.getElem_mem hk)).1
theorem PrIn.l {D:List (Rat × Rat)} (h:PrIn D) {k:Nat} (hk:k<D.length):0<lK D k:=by
 rw [←lK_eq hk]
 exact (h _ (List.getElem_mem hk)).2
theorem PrIn.noDiv {D:List (Rat × Rat)} (h:PrIn D):NoDiv D:=fun k h0 hk=>by
 have:=dot_pos (h.t (show k-1<D.length by omega)) (h.t hk)
 unfold nK
 intro e
 rw [e] at this
 exact Rat.lt_irrefl this
theorem dir_one (t:Rat):(dirQ t).1*(dirQ t).1+(dirQ t).2*(dirQ t).2=1:=by
 obtain ⟨a,ha,ha1,he⟩:=dir_eq t
 rw [he]
 have h:((1-t*t)*a)*((1-t*t)*a)+((t+t)*a)*((t+t)*a)=((1+t*t)*a)*((1+t*t)*a):=by grind
 show (1-t*t)*a*((1-t*t)*a)+(t+t)*a*((t+t)*a)=1
 rw [h,ha1]
 decide +kernel
theorem dir_right {t:Rat} (ht:-1<t∧t<1):0<(dirQ t).1:=by
 obtain ⟨a,ha,ha1,he⟩:=dir_eq t
 rw [he]
 have h1:0<(1+t)*(1-t):=Rat.mul_pos (by grind) (by grind)
 exact Rat.mul_pos (by grind) ha
theorem nK_one (D:List (Rat × Rat)) (k:Nat):(nK D k).1*(nK D k).1+(nK D k).2*(nK D k).2=1:=by
 have:=dir_one (tK D k)
 unfold nK upQ
 show -(dirQ (tK D k)).2 * -(dirQ (tK D k)).2+(dirQ (tK D k)).1*(dirQ (tK D k)).1=1
 grind
theorem mid_dot {a b:QP} {c:Rat} (ha:a.1*a.1+a.2*a.2=1) (hc:(1+dotQ a b)*c=1):dotQ a (plusQ (0,0) (plusQ a b 1) (1*c))=1:=by
 unfold dotQ at hc
 unfold dotQ plusQ
 show a.1*(0+1*c*(a.1+1*b.1))+a.2*(0+1*c*(a.2+1*b.2))=1
 grind
theorem mid_dot2 {a b:QP} {c:Rat} (hb:b.1*b.1+b.2*b.2=1) (hc:(1+dotQ a b)*c=1):dotQ b (plusQ (0,0) (plusQ a b 1) (1*c))=1:=by
 unfold dotQ at hc
 unfold dotQ plusQ
 show b.1*(0+1*c*(a.1+1*b.1))+b.2*(0+1*c*(a.2+1*b.2))=1
 grind
theorem ax_left {D:List (Rat × Rat)} (hI:PrIn D) {k:Nat} (hk:k<D.length):dotQ (nK D k) (axK D k)=1:=by
 unfold axK
 by_cases h0:k=0
 ·rw [if_pos h0,h0]
  exact nK_one D 0
 ·rw [if_neg h0,if_pos hk]
  exact mid_dot2 (nK_one D k) (Rat.mul_inv_cancel _ (hI.noDiv k (by omega) hk))
theorem ax_right {D:List (Rat × Rat)} (hI:PrIn D) {k:Nat} (_:k<D.length):dotQ (nK D k) (axK D (k+1))=1:=by
 unfold axK
 rw [if_neg (by omega),Nat.add_sub_cancel]
 by_cases h1:k+1<D.length
 ·rw [if_pos h1]
  have:=hI.noDiv (k+1) (by omega) h1
  rw [Nat.add_sub_cancel] at this
  exact mid_dot (nK_one D k) (Rat.mul_inv_cancel _ this)
 ·rw [if_neg h1]
  exact nK_one D k
theorem hU_on {s:QP} {D:List (Rat × Rat)} (hI:PrIn D) {k:Nat} (hk:k<D.length) (h r:Rat):hU s D (plusQ (bedQ s D h k) (dirQ (tK D k)) r) k=h:=by
 have h1:=ax_left hI hk
 unfold hU
 unfold nK upQ dotQ at h1
 unfold nK upQ dotQ minusQ bedQ plusQ
 generalize dirQ (tK D k)=u at *
 generalize axK D k=x at *
 generalize atK s D k=a at *
 show -u.2*(a.1+h*x.1+r*u.1 + -1*a.1)+u.1*(a.2+h*x.2+r*u.2 + -1*a.2)=h
 have h2:-u.2*x.1+u.1*x.2=1:=h1
 grind
theorem xU_on {s:QP} {D:List (Rat × Rat)} (hI:PrIn D) {k:Nat} (hk:k<D.length) (h r:Rat):xU s D (plusQ (bedQ s D h k) (dirQ (tK D k)) r) k=r:=by
 have h1:=dir_one (tK D k)
 unfold xU
 rw [hU_on hI hk]
 unfold dotQ minusQ
 generalize dirQ (tK D k)=u at *
 generalize bedQ s D h k=a at *
 unfold plusQ
 show u.1*(a.1+r*u.1 + -1*a.1)+u.2*(a.2+r*u.2 + -1*a.2)=r
 grind
theorem rest_sum (D:List (Rat × Rat)) (h x:Rat):∀ k,k≤D.length→sumR ((lgL D h).take k)+restQ D h x k=x
 | 0,_=>by rw [List.take_zero];show (0:Rat)+x=x;grind
 | k+1,hk=>by
  have ih:=rest_sum D h x k (by omega)
  have hl:k<(lgL D h).length:=by unfold lgL;simp;omega
  rw [List.take_succ_eq_append_getElem hl,sumR_snoc,lgL_get hl,restQ]
  grind
theorem bed_next {s:QP} {D:List (Rat × Rat)} (hI:PrIn D) {k:Nat} (hk:k<D.length) (h:Rat):bedQ s D h (k+1)=plusQ (bedQ s D h k) (dirQ (tK D k)) (lgQ D h k):=by
 have h1:=ax_left hI hk
 have h2:=ax_right hI hk
 have h3:=dir_one (tK D k)
 unfold bedQ lgQ gK
 rw [atK]
 unfold nK upQ dotQ at h1 h2
 unfold dotQ minusQ
 generalize dirQ (tK D k)=u at *
 generalize axK D k=x at *
 generalize axK D (k+1)=y at *
 generalize atK s D k=a at *
 generalize lK D k=l at *
 have h4:-u.2*x.1+u.1*x.2=1:=h1
 have h5:-u.2*y.1+u.1*y.2=1:=h2
 unfold plusQ
 refine Prod.ext ?_ ?_
 ·show a.1+l*u.1+h*y.1=a.1+h*x.1+(l+(u.1*(y.1 + -1*x.1)+u.2*(y.2 + -1*x.2))*h)*u.1
  grind
 ·show a.2+l*u.2+h*y.2=a.2+h*x.2+(l+(u.1*(y.1 + -1*x.1)+u.2*(y.2 + -1*x.2))*h)*u.2
  grind
def Within (D:List (Rat × Rat)) (h:Rat):Prop:=∀ k,k<D.length→0<lgQ D h k
def On (s:QP) (D:List (Rat × Rat)) (h:Rat) (k:Nat) (P:QP):Prop:=∃ r,0≤r∧r≤lgQ D h k∧P=plusQ (bedQ s D h k) (dirQ (tK D k)) r
theorem within_between {D:List (Rat × Rat)} {h h' g:Rat} (w:Within D h) (w':Within D h') (h1:h≤g) (h2:g≤h'):Within D g:=fun k hk=>by
 have a:=w k hk
 have b:=w' k hk
 unfold lgQ at *
 generalize gK D k=c at *
 generalize lK D k=l at *
 rcases rat_le_or 0 c with hc | hc
 ·have:=Rat.mul_le_mul_of_nonneg_left h1 hc
  grind
 ·have:=Rat.mul_le_mul_of_nonneg_left h2 (show 0 ≤ -c by grind)
  grind
theorem bed_right {s:QP} {D:List (Rat × Rat)} (hI:PrIn D) {h:Rat} (w:Within D h) {k:Nat} (hk:k<D.length):(bedQ s D h k).1<(bedQ s D h (k+1)).1:=by
 rw [bed_next hI hk h]
 have:=Rat.mul_pos (w k hk) (dir_right (hI.t hk))
 show (bedQ s D h k).1<(bedQ s D h k).1+lgQ D h k*(dirQ (tK D k)).1
 grind
theorem bed_mono {s:QP} {D:List (Rat × Rat)} (hI:PrIn D) {h:Rat} (w:Within D h) (j:Nat):∀ d,j+d≤D.length→(bedQ s D h j).1≤(bedQ s D h (j+d)).1
 | 0,_=>Rat.le_refl
 | d+1,hd=>by
  have:=bed_mono (s:=s) hI w j d (by omega)
  have h2:=bed_right (s:=s) hI w (show j+d<D.length by omega)
  rw [show j+(d+1)=j+d+1 by omega]
  grind
theorem bed_strict {s:QP} {D:List (Rat × Rat)} (hI:PrIn D) {h:Rat} (w:Within D h) {j k:Nat} (hjk:j<k) (hk:k≤D.length):(bedQ s D h j).1<(bedQ s D h k).1:=by
 have h1:=bed_right (s:=s) hI w (show j<D.length by omega)
 have h2:=bed_mono (s:=s) hI w (j+1) (k-(j+1)) (by omega)
 rw [show j+1+(k-(j+1))=k by omega] at h2
 grind
theorem On.left {s:QP} {D:List (Rat × Rat)} (hI:PrIn D) {h:Rat} {k:Nat} (hk:k<D.length) {P:QP} (o:On s D h k P):(bedQ s D h k).1≤P.1:=by
 obtain ⟨r,h1,_,rfl⟩:=o
 have:=Rat.mul_nonneg h1 (Rat.le_of_lt (dir_right (hI.t hk)))
 show (bedQ s D h k).1≤(bedQ s D h k).1+r*(dirQ (tK D k)).1
 grind
theorem On.right {s:QP} {D:List (Rat × Rat)} (hI:PrIn D) {h:Rat} {k:Nat} (hk:k<D.length) {P:QP} (o:On s D h k P):P.1≤(bedQ s D h (k+1)).1:=by
 obtain ⟨r,_,h2,rfl⟩:=o
 rw [bed_next hI hk h]
 have:=Rat.mul_nonneg (show 0≤lgQ D h k-r by grind) (Rat.le_of_lt (dir_right (hI.t hk)))
 show (bedQ s D h k).1+r*(dirQ (tK D k)).1≤(bedQ s D h k).1+lgQ D h k*(dirQ (tK D k)).1
 grind
theorem limb_up {s:QP} {D:List (Rat × Rat)} (hI:PrIn D) {h h':Rat} {k:Nat} (hk:k<D.length) {r r':Rat} {P P':QP} (o:P=plusQ (bedQ s D h k) (dirQ (tK D k)) r) (o':P'=plusQ (bedQ s D h' k) (dirQ (tK D k)) r') (hx:P.1=P'.1) :
  (P'.2-P.2)*(dirQ (tK D k)).1=h'-h:=by
 have e1:=hU_on (s:=s) hI hk h r
 have e2:=hU_on (s:=s) hI hk h' r'
 rw [←o] at e1
 rw [←o'] at e2
 unfold hU nK upQ dotQ minusQ plusQ at e1 e2
 generalize dirQ (tK D k)=u at *
 generalize atK s D k=a at *
 have e3:-u.2*(P.1 + -1*a.1)+u.1*(P.2 + -1*a.2)=h:=e1
 have e4:-u.2*(P'.1 + -1*a.1)+u.1*(P'.2 + -1*a.2)=h':=e2
 rw [hx] at e3
 grind
theorem axis_at {s:QP} {D:List (Rat × Rat)} {h h' X:Rat} (hh:h<h') (j:Nat) (hX:((bedQ s D h j).1≤X∧X≤(bedQ s D h' j).1)∨((bedQ s D h' j).1≤X∧X≤(bedQ s D h j).1)) :
  ∃ g,h≤g∧g≤h'∧(bedQ s D g j).1=X:=by
 unfold bedQ plusQ at *
 generalize atK s D j=a at *
 generalize axK D j=x at *
 have hX':(a.1+h*x.1≤X∧X≤a.1+h'*x.1)∨(a.1+h'*x.1≤X∧X≤a.1+h*x.1):=hX
 by_cases h0:x.1=0
 ·refine ⟨h,Rat.le_refl,Rat.le_of_lt hh,?_⟩
  show a.1+h*x.1=X
  rw [h0] at hX' ⊢
  grind
 ·have hg:(X-a.1)*x.1⁻¹*x.1=X-a.1:=by rw [Rat.mul_assoc,Rat.inv_mul_cancel _ h0,Rat.mul_one]
  generalize (X-a.1)*x.1⁻¹=g at hg
  refine ⟨g,?_,?_,show a.1+g*x.1=X by grind⟩
  ·refine Rat.not_lt.1 fun hlt=>?_
   rcases (show x.1<0∨0<x.1 by grind) with hx | hx
   ·have h1:=Rat.mul_pos (show 0<h-g by grind) (show 0 < -x.1 by grind)
    have h2:=Rat.mul_pos (show 0<h'-g by grind) (show 0 < -x.1 by grind)
    grind
   ·have h1:=Rat.mul_pos (show 0<h-g by grind) hx
    have h2:=Rat.mul_pos (show 0<h'-g by grind) hx
    grind
  ·refine Rat.not_lt.1 fun hlt=>?_
   rcases (show x.1<0∨0<x.1 by grind) with hx | hx
   ·have h1:=Rat.mul_pos (show 0<g-h by grind) (show 0 < -x.1 by grind)
    have h2:=Rat.mul_pos (show 0<g-h' by grind) (show 0 < -x.1 by grind)
    grind
   ·have h1:=Rat.mul_pos (show 0<g-h by grind) hx
    have h2:=Rat.mul_pos (show 0<g-h' by grind) hx
    grind
theorem le_split {p q:Rat} (h:p≤q):p<q∨p=q:=by grind
theorem corner {s:QP} {D:List (Rat × Rat)} {g:Rat} (w:Within D g) {k:Nat} (hk:k<D.length):On s D g k (bedQ s D g k):=by
 refine ⟨0,Rat.le_refl,Rat.le_of_lt (w k hk),?_⟩
 unfold plusQ
 refine Prod.ext ?_ ?_
 ·show (bedQ s D g k).1=(bedQ s D g k).1+0*(dirQ (tK D k)).1
  grind
 ·show (bedQ s D g k).2=(bedQ s D g k).2+0*(dirQ (tK D k)).2
  grind
theorem same_left {s:QP} {D:List (Rat × Rat)} (hI:PrIn D) {h:Rat} (w:Within D h) {i k:Nat} (hik:i≤k) (hk:k<D.length) {P:QP} (o:On s D h k P) (hx:(bedQ s D h i).1=P.1):i=k∧P=bedQ s D h k:=by
 have hl:=o.left hI hk
 rcases Nat.lt_or_ge i k with h1 | h1
 ·have:=bed_strict (s:=s) hI w h1 (Nat.le_of_lt hk)
  grind
 ·obtain rfl:i=k:=by omega
  refine ⟨rfl,?_⟩
  obtain ⟨r,h2,_,rfl⟩:=o
  have hu:=dir_right (hI.t hk)
  have hx':(bedQ s D h i).1=(bedQ s D h i).1+r*(dirQ (tK D i)).1:=hx
  have h3:r*(dirQ (tK D i)).1=0:=by grind
  have h4:r=0:=by
   rcases Rat.mul_eq_zero.1 h3 with h | h
   ·exact h
   ·grind
  rw [h4]
  unfold plusQ
  refine Prod.ext ?_ ?_
  ·show (bedQ s D h i).1+0*(dirQ (tK D i)).1=(bedQ s D h i).1
   grind
  ·show (bedQ s D h i).2+0*(dirQ (tK D i)).2=(bedQ s D h i).2
   grind
theorem up_of {a b u c:Rat} (h:(b-a)*u=c) (hu:0<u):(0<c→a<b)∧(0≤c→a≤b):=by
 constructor
 ·intro hc
  refine Rat.not_le.1 fun hle=>?_
  have:=Rat.mul_nonneg (show 0≤a-b by grind) (Rat.le_of_lt hu)
  grind
 ·intro hc
  refine Rat.not_lt.1 fun hlt=>?_
  have:=Rat.mul_pos (show 0<a-b by grind) hu
  grind
theorem bed_up {s:QP} {D:List (Rat × Rat)} (hI:PrIn D):∀ (d j k:Nat) (h h':Rat) (P P':QP),Within D h→Within D h'→h<h'→(j+d=k∨k+d=j)→j<D.length→k<D.length→On s D h k P→On s D h' j P'→P.1=P'.1→P.2<P'.2
 | 0,j,k,h,h',P,P',_,_,hh,hd,hj,_,o,o',hx=>by
  obtain rfl:j=k:=by omega
  obtain ⟨r,_,_,e⟩:=o
  obtain ⟨r',_,_,e'⟩:=o'
  exact (up_of (limb_up hI hj e e' hx) (dir_right (hI.t hj))).1 (by grind)
 | d+1,j,k,h,h',P,P',w,w',hh,hd,hj,hk,o,o',hx=>by
  rcases hd with hd | hd
  ·have a1:=o'.right hI hj
   have a2:=o.left hI hk
   have a3:=bed_mono (s:=s) hI w (j+1) d (by omega)
   rw [show j+1+d=k by omega] at a3
   obtain ⟨g,g1,g2,g3⟩:=axis_at (s:=s) (D:=D) hh (j+1) (X:=P.1) (.inl ⟨by grind,by grind⟩)
   have wg:=within_between w w' g1 g2
   obtain ⟨r',_,_,e'⟩:=id o'
   have up:=up_of (limb_up hI hj (bed_next (s:=s) hI hj g) e' (by rw [g3];exact hx)) (dir_right (hI.t hj))
   have u2:=up.2 (by grind)
   rcases le_split g1 with h1 | h1
   ·have ih:=bed_up hI d (j+1) k h g P (bedQ s D g (j+1)) w wg h1 (.inl (by omega)) (by omega) hk o (corner wg (by omega)) g3.symm
    grind
   ·subst h1
    obtain ⟨e,hp⟩:=same_left hI w (show j+1≤k by omega) hk o g3
    have u1:=up.1 (by grind)
    rw [hp,←e]
    exact u1
  ·have a1:=o.right hI hk
   have a2:=o'.left hI hj
   have a3:=bed_mono (s:=s) hI w' (k+1) d (by omega)
   rw [show k+1+d=j by omega] at a3
   obtain ⟨g,g1,g2,g3⟩:=axis_at (s:=s) (D:=D) hh (k+1) (X:=P.1) (.inr ⟨by grind,by grind⟩)
   have wg:=within_between w w' g1 g2
   obtain ⟨r,_,_,e⟩:=id o
   have up:=up_of (limb_up hI hk e (bed_next (s:=s) hI hk g) g3.symm) (dir_right (hI.t hk))
   have u2:=up.2 (by grind)
   rcases le_split g2 with h1 | h1
   ·have ih:=bed_up hI d j (k+1) g h' (bedQ s D g (k+1)) P' wg w' h1 (.inr (by omega)) hj (by omega) (corner wg (by omega)) o' (by rw [g3];exact hx)
    grind
   ·subst h1
    obtain ⟨e2,hp⟩:=same_left hI w' (show k+1≤j by omega) hj o' (by rw [g3];exact hx)
    have u1:=up.1 (by grind)
    rw [hp,←e2]
    exact u1
theorem one_height {s:QP} {D:List (Rat × Rat)} (hI:PrIn D) {j k:Nat} {h h':Rat} {P:QP} (w:Within D h) (w':Within D h') (hj:j<D.length) (hk:k<D.length) (o:On s D h k P) (o':On s D h' j P):h=h':=by
 obtain ⟨d,hd⟩ : ∃ d,j+d=k∨k+d=j:=by
  rcases Nat.le_total j k with h1 | h1
  ·exact ⟨k-j,by omega⟩
  ·exact ⟨j-k,by omega⟩
 rcases rat_le_or h h' with h1 | h1
 ·rcases le_split h1 with h2 | h2
  ·exact absurd (bed_up hI d j k h h' P P w w' h2 hd hj hk o o' rfl) Rat.lt_irrefl
  ·exact h2
 ·exact absurd (bed_up hI d k j h' h P P w' w h1 (by omega) hk hj o' o rfl) Rat.lt_irrefl
theorem On.x {s:QP} {D:List (Rat × Rat)} (hI:PrIn D) {h:Rat} {k:Nat} (hk:k<D.length) {P:QP} (o:On s D h k P):P=plusQ (bedQ s D h k) (dirQ (tK D k)) (xU s D P k)∧0≤xU s D P k∧xU s D P k≤lgQ D h k∧hU s D P k=h:=by
 obtain ⟨r,h1,h2,rfl⟩:=o
 rw [xU_on hI hk,hU_on hI hk]
 exact ⟨rfl,h1,h2,rfl⟩
theorem take_sum {D:List (Rat × Rat)} {h:Rat} {k:Nat} (hk:k<D.length):sumR ((lgL D h).take (k+1))=sumR ((lgL D h).take k)+lgQ D h k:=by
 have hl:k<(lgL D h).length:=by unfold lgL;simp;omega
 rw [List.take_succ_eq_append_getElem hl,sumR_snoc,lgL_get hl]
theorem one_way_lt {s:QP} {D:List (Rat × Rat)} (hI:PrIn D) {j k:Nat} {h:Rat} {P:QP} (w:Within D h) (hjk:j<k) (hk:k<D.length) (o:On s D h k P) (o':On s D h j P) :
  sumR ((lgL D h).take j)+xU s D P j=sumR ((lgL D h).take k)+xU s D P k:=by
 have hj:j<D.length:=by omega
 have a1:=o'.right hI hj
 have a2:=o.left hI hk
 have a3:=bed_mono (s:=s) hI w (j+1) (k-(j+1)) (by omega)
 rw [show j+1+(k-(j+1))=k by omega] at a3
 have hx:(bedQ s D h (j+1)).1=P.1:=by grind
 obtain ⟨e,hp⟩:=same_left hI w (show j+1≤k by omega) hk o hx
 subst e
 have e1:xU s D P (j+1)=0:=by
  obtain ⟨r,_,_,e0⟩:=corner (s:=s) w hk
  rw [hp]
  have h0:bedQ s D h (j+1)=plusQ (bedQ s D h (j+1)) (dirQ (tK D (j+1))) 0:=by
   unfold plusQ
   refine Prod.ext ?_ ?_
   ·show (bedQ s D h (j+1)).1=(bedQ s D h (j+1)).1+0*(dirQ (tK D (j+1))).1
    grind
   ·show (bedQ s D h (j+1)).2=(bedQ s D h (j+1)).2+0*(dirQ (tK D (j+1))).2
    grind
  have h1:=xU_on (s:=s) hI hk h 0
  rwa [←h0] at h1
 have e2:xU s D P j=lgQ D h j:=by
  rw [hp,bed_next hI hj h,xU_on hI hj]
 rw [e1,e2,take_sum hj]
 grind
theorem one_way {s:QP} {D:List (Rat × Rat)} (hI:PrIn D) {j k:Nat} {h:Rat} {P:QP} (w:Within D h) (hj:j<D.length) (hk:k<D.length) (o:On s D h k P) (o':On s D h j P) :
  sumR ((lgL D h).take j)+xU s D P j=sumR ((lgL D h).take k)+xU s D P k:=by
 rcases Nat.lt_trichotomy j k with h1 | h1 | h1
 ·exact one_way_lt hI w h1 hk o o'
 ·rw [h1]
 ·exact (one_way_lt hI w h1 hj o' o).symm
theorem hit_on {s:QP} {D:List (Rat × Rat)} (hI:PrIn D) {k:Nat} (hk:k<D.length) {P:QP} (hit:hitU s D P k):Within D (hU s D P k)∧On s D (hU s D P k) k P:=by
 obtain ⟨h1,h2,h3⟩:=hit
 refine ⟨within_true.1 h1,xU s D P k,Rat.not_lt.1 h2,h3,?_⟩
 have a1:=ax_left hI hk
 have d1:=dir_one (tK D k)
 unfold xU bedQ
 generalize hh:hU s D P k=h
 unfold hU at hh
 unfold nK upQ dotQ at a1 hh
 unfold dotQ minusQ at *
 generalize dirQ (tK D k)=u at *
 generalize axK D k=x at *
 generalize atK s D k=a at *
 have a2:-u.2*x.1+u.1*x.2=1:=a1
 unfold plusQ at *
 have hh2:-u.2*(P.1 + -1*a.1)+u.1*(P.2 + -1*a.2)=h:=hh
 refine Prod.ext ?_ ?_
 ·show P.1=a.1+h*x.1+(u.1*(P.1 + -1*(a.1+h*x.1))+u.2*(P.2 + -1*(a.2+h*x.2)))*u.1
  grind
 ·show P.2=a.2+h*x.2+(u.1*(P.1 + -1*(a.1+h*x.1))+u.2*(P.2 + -1*(a.2+h*x.2)))*u.2
  grind
theorem unfold_of_fold {s:QP} {D:List (Rat × Rat)} (hI:PrIn D) {h x:Rat} {k j:Nat} (w:withinB D h=true) (hk:k<D.length) (hr:0≤restQ D h x k) (hl:restQ D h x k≤lgQ D h k) (hj:j<D.length) (hit:hitU s D (foldP s D h x k) j) :
  outU s D (foldP s D h x k) j=(x,h):=by
 obtain ⟨wj,oj⟩:=hit_on hI hj hit
 have ok:On s D h k (foldP s D h x k):=⟨restQ D h x k,hr,hl,rfl⟩
 have hw:=within_true.1 w
 have e:=one_height hI hw wj hj hk ok oj
 rw [←e] at oj
 have e2:=one_way hI hw hj hk ok oj
 have e3:xU s D (foldP s D h x k) k=restQ D h x k:=xU_on hI hk h _
 rw [e3,rest_sum D h x k (Nat.le_of_lt hk)] at e2
 unfold outU
 rw [←e]
 exact Prod.ext e2 rfl
theorem fold_hits {s:QP} {D:List (Rat × Rat)} (hI:PrIn D) {h x:Rat} {k:Nat} (w:withinB D h=true) (hk:k<D.length) (hr:0≤restQ D h x k) (hl:restQ D h x k≤lgQ D h k):hitU s D (foldP s D h x k) k:=by
 have e1:hU s D (foldP s D h x k) k=h:=hU_on hI hk h _
 have e2:xU s D (foldP s D h x k) k=restQ D h x k:=xU_on hI hk h _
 unfold hitU
 rw [e1,e2]
 exact ⟨w,Rat.not_lt.2 hr,hl⟩
def Fq (n b:Nat) (q:Rat):Prop:=∃ (c:Nat) (a:Int),0<c∧c≤b∧a.natAbs≤n*c∧q*(c:Rat)=(a:Rat)
theorem Fq.mono {n b n' b':Nat} {q:Rat} (h:Fq n b q) (h1:n≤n') (h2:b≤b'):Fq n' b' q:=by
 obtain ⟨c,a,h3,h4,h5,h6⟩:=h
 exact ⟨c,a,h3,Nat.le_trans h4 h2,Nat.le_trans h5 (Nat.mul_le_mul_right _ h1),h6⟩
theorem Fq.int {n:Nat} {a:Int} (h:a.natAbs≤n):Fq n 1 (a:Rat):=⟨1,a,by decide,by decide,by omega,by rw [show ((1:Nat):Rat)=1 from rfl,Rat.mul_one]⟩
theorem Fq.add {n b n' b':Nat} {q q':Rat} (h:Fq n b q) (k:Fq n' b' q'):Fq (n+n') (b*b') (q+q'):=by
 obtain ⟨c,a,h3,h4,h5,h6⟩:=h
 obtain ⟨d,e,k3,k4,k5,k6⟩:=k
 refine ⟨c*d,a*d+e*c,Nat.mul_pos h3 k3,Nat.mul_le_mul h4 k4,?_,?_⟩
 ·have t1:=Int.natAbs_add_le (a*d) (e*c)
  rw [Int.natAbs_mul,Int.natAbs_mul,Int.natAbs_natCast,Int.natAbs_natCast] at t1
  have t2:=Nat.mul_le_mul_right d h5
  have t3:=Nat.mul_le_mul_right c k5
  have t4:(n+n')*(c*d)=n*c*d+n'*d*c:=by grind
  omega
 ·rw [Rat.natCast_mul,Rat.intCast_add,Rat.intCast_mul,Rat.intCast_mul,Rat.intCast_natCast,Rat.intCast_natCast,←h6,←k6]
  grind
theorem Fq.mul {n b n' b':Nat} {q q':Rat} (h:Fq n b q) (k:Fq n' b' q'):Fq (n*n') (b*b') (q*q'):=by
 obtain ⟨c,a,h3,h4,h5,h6⟩:=h
 obtain ⟨d,e,k3,k4,k5,k6⟩:=k
 refine ⟨c*d,a*e,Nat.mul_pos h3 k3,Nat.mul_le_mul h4 k4,?_,?_⟩
 ·rw [Int.natAbs_mul]
  have t2:=Nat.mul_le_mul h5 k5
  have t4:n*n'*(c*d)=n*c*(n'*d):=by grind
  omega
 ·rw [Rat.natCast_mul,Rat.intCast_mul,←h6,←k6]
  grind
theorem Fq.neg {n b:Nat} {q:Rat} (h:Fq n b q):Fq n b (-q):=by
 obtain ⟨c,a,h3,h4,h5,h6⟩:=h
 exact ⟨c,-a,h3,h4,by rw [Int.natAbs_neg];exact h5,by rw [Rat.intCast_neg,←h6,Rat.neg_mul]⟩
theorem Fq.sub {n b n' b':Nat} {q q':Rat} (h:Fq n b q) (k:Fq n' b' q'):Fq (n+n') (b*b') (q-q'):=by
 rw [Rat.sub_eq_add_neg]
 exact h.add k.neg
theorem Fq.fr {n b:Nat} {q:Rat} (h:Fq n b q):Fr (n*b) b q:=by
 obtain ⟨c,a,h3,h4,h5,h6⟩:=h
 have hc:(c:Rat)≠0:=fun e=>by rw [Rat.natCast_eq_zero_iff] at e;omega
 have e:q=mkRat a c:=by
  rw [Rat.mkRat_eq_div,←h6,Rat.mul_div_cancel hc]
 rw [e]
 exact Fr.mkRat h3 (Nat.le_trans h5 (Nat.mul_le_mul_left _ h4)) h4
theorem Fq.ok {n b:Nat} {q:Rat} (h:Fq n b q) (h1:n*b<10 ^ 200) (h2:b<10 ^ 200):OkB q:=(okR2 h.fr h1 h2).1
structure Plan (s:QP) (D:List (Rat × Rat)):Prop where
 s1:Fq 9 1 s.1
 s2:Fq 9 1 s.2
 d:∀ x∈D,(∃ j:Int,-5≤j∧j≤5∧x.1*6=(j:Rat))∧(∃ l:Int,1≤l∧l≤6∧x.2=(l:Rat))
 n:D.length≤4
 ne:0<D.length
theorem Plan.t {s:QP} {D:List (Rat × Rat)} (h:Plan s D) (k:Nat):∃ j:Int,-5≤j∧j≤5∧tK D k*6=(j:Rat):=by
 by_cases hk:k<D.length
 ·rw [←tK_eq hk];exact (h.d _ (List.getElem_mem hk)).1
 ·refine ⟨0,by decide,by decide,?_⟩
  unfold tK;rw [List.getD_eq_getElem?_getD,List.getElem?_eq_none (by omega)];show (0:Rat)*6=((0:Int):Rat);decide +kernel
theorem Plan.l {s:QP} {D:List (Rat × Rat)} (h:Plan s D) (k:Nat):Fq 6 1 (lK D k):=by
 by_cases hk:k<D.length
 ·rw [←lK_eq hk]
  obtain ⟨l,h1,h2,h3⟩:=(h.d _ (List.getElem_mem hk)).2
  rw [h3]
  exact Fq.int (by omega)
 ·unfold lK;rw [List.getD_eq_getElem?_getD,List.getElem?_eq_none (by omega)]
  exact Fq.int (a:=0) (by decide)
theorem sixth_fq {t:Rat} {j:Int} (h1:-5≤j) (h2:j≤5) (h:t*6=(j:Rat)):Fq 1 6 t:=⟨6,j,by decide,by decide,by omega,h⟩
theorem Plan.ok {s:QP} {D:List (Rat × Rat)} (h:Plan s D):PrOk s D where
 s1:=h.s1.ok (by decide) (by decide)
 s2:=h.s2.ok (by decide) (by decide)
 d:=fun x hx=>by
  obtain ⟨⟨j,h1,h2,h3⟩,l,h4,h5,h6⟩:=h.d x hx
  refine ⟨(sixth_fq h1 h2 h3).ok (by decide) (by decide),?_⟩
  rw [h6]
  exact (Fq.int (n:=6) (by omega)).ok (by decide) (by decide)
 n:=h.n
 ne:=h.ne
theorem Plan.in {s:QP} {D:List (Rat × Rat)} (h:Plan s D):PrIn D:=fun x hx=>by
 obtain ⟨⟨j,h1,h2,h3⟩,l,h4,h5,h6⟩:=h.d x hx
 have a1:(-5:Rat)≤(j:Rat):=by
  have:=Rat.intCast_le_intCast.2 h1
  exact this
 have a2:(j:Rat)≤5:=by
  have:=Rat.intCast_le_intCast.2 h2
  exact this
 have a3:(1:Rat)≤(l:Rat):=by
  have:=Rat.intCast_le_intCast.2 h4
  exact this
 refine ⟨?_,by rw [h6];grind⟩
 unfold absQ
 split <;> grind
theorem dir_num {t:Rat} {j:Int} (h1:-5≤j) (h2:j≤5) (h:t*6=(j:Rat)) :
  ∃ (m:Nat) (a b:Int),0<m∧m≤61∧a.natAbs≤m∧b.natAbs≤m∧(dirQ t).1*(m:Rat)=(a:Rat)∧(dirQ t).2*(m:Rat)=(b:Rat):=by
 obtain ⟨x,_,hx1,he⟩:=dir_eq t
 have hj:j*j≤25∧12*j≤36+j*j ∧ -(12*j)≤36+j*j:=by
  have:j = -5∨j = -4∨j = -3∨j = -2∨j = -1∨j=0∨j=1∨j=2∨j=3∨j=4∨j=5:=by omega
  rcases this with h | h | h | h | h | h | h | h | h | h | h <;> rw [h] <;> decide
 have hj0:0≤j*j:=by
  have:=Int.natAbs_mul_self' j
  have:=Int.natAbs_mul j j
  omega
 obtain ⟨m,hm⟩ : ∃ m:Nat,(m:Int)=36+j*j:=⟨(36+j*j).toNat,by omega⟩
 have hmq:(m:Rat)=36+(j:Rat)*(j:Rat):=by
  rw [←Rat.intCast_natCast,hm,Rat.intCast_add,Rat.intCast_mul];rfl
 refine ⟨m,36-j*j,12*j,by omega,by omega,by omega,by omega,?_,?_⟩
 ·rw [he,hmq,Rat.intCast_sub,Rat.intCast_mul,←h]
  show (1-t*t)*x*(36+t*6*(t*6))=36-t*6*(t*6)
  grind
 ·rw [he,hmq,Rat.intCast_mul,←h]
  show (t+t)*x*(36+t*6*(t*6))=12*(t*6)
  grind
theorem Plan.dir {s:QP} {D:List (Rat × Rat)} (h:Plan s D) (k:Nat):Fq 1 61 (dirQ (tK D k)).1∧Fq 1 61 (dirQ (tK D k)).2:=by
 obtain ⟨j,h1,h2,h3⟩:=h.t k
 obtain ⟨m,a,b,m1,m2,ha,hb,e1,e2⟩:=dir_num h1 h2 h3
 exact ⟨⟨m,a,m1,m2,by omega,e1⟩,⟨m,b,m1,m2,by omega,e2⟩⟩
theorem am_le {a b:Int} {m n:Nat} (h:a.natAbs≤m) (k:b.natAbs≤n):(a*b).natAbs≤m*n:=by
 rw [Int.natAbs_mul]
 exact Nat.mul_le_mul h k
theorem Plan.ax {s:QP} {D:List (Rat × Rat)} (h:Plan s D) (k:Nat):Fq 7442 11163 (axK D k).1∧Fq 7442 11163 (axK D k).2:=by
 have hn:∀ k,Fq 7442 11163 (nK D k).1∧Fq 7442 11163 (nK D k).2:=fun k=>⟨(h.dir k).2.neg.mono (by decide) (by decide),(h.dir k).1.mono (by decide) (by decide)⟩
 unfold axK
 by_cases h0:k=0
 ·rw [if_pos h0];exact hn 0
 rw [if_neg h0]
 by_cases hk:k<D.length
 rotate_left
 ·rw [if_neg hk];exact hn _
 rw [if_pos hk]
 have hc:=Rat.mul_inv_cancel _ (h.in.noDiv k (by omega) hk)
 have hp:=dot_pos (h.in.t (show k-1<D.length by omega)) (h.in.t hk)
 generalize hcc:(1+dotQ (nK D (k-1)) (nK D k))⁻¹=c at hc
 have hp':0<1+dotQ (nK D (k-1)) (nK D k):=hp
 obtain ⟨j,h1,h2,h3⟩:=h.t (k-1)
 obtain ⟨m,a,b,m1,m2,ha,hb,e1,e2⟩:=dir_num h1 h2 h3
 obtain ⟨j',h1',h2',h3'⟩:=h.t k
 obtain ⟨m',a',b',m1',m2',ha',hb',e1',e2'⟩:=dir_num h1' h2' h3'
 unfold dotQ nK upQ at hc hp'
 unfold plusQ nK upQ
 generalize dirQ (tK D (k-1))=u at *
 generalize dirQ (tK D k)=v at *
 have hc':(1+(-u.2 * -v.2+u.1*v.1))*c=1:=hc
 have hp2:0<1+(-u.2 * -v.2+u.1*v.1):=hp'
 have eE:((m*m'+a*a'+b*b':Int):Rat)=(1+(-u.2 * -v.2+u.1*v.1))*((m:Rat)*(m':Rat)):=by
  rw [Rat.intCast_add,Rat.intCast_add,Rat.intCast_mul,Rat.intCast_mul,Rat.intCast_mul,Rat.intCast_natCast,Rat.intCast_natCast,←e1,←e2,←e1',←e2']
  grind
 have hE:(0:Int)<m*m'+a*a'+b*b':=by
  rw [←Rat.intCast_pos,eE]
  exact Rat.mul_pos hp2 (Rat.mul_pos (Rat.natCast_pos.2 m1) (Rat.natCast_pos.2 m1'))
 have b1:=am_le ha ha'
 have b2:=am_le hb hb'
 have b0:m*m'≤61*61:=Nat.mul_le_mul m2 m2'
 have b3:(b*m').natAbs≤m*m':=am_le hb (by rw [Int.natAbs_natCast];exact Nat.le_refl _)
 have b4:(b'*m).natAbs≤m'*m:=am_le hb' (by rw [Int.natAbs_natCast];exact Nat.le_refl _)
 have b5:(a*m').natAbs≤m*m':=am_le ha (by rw [Int.natAbs_natCast];exact Nat.le_refl _)
 have b6:(a'*m).natAbs≤m'*m:=am_le ha' (by rw [Int.natAbs_natCast];exact Nat.le_refl _)
 rw [Nat.mul_comm m' m] at b4 b6
 obtain ⟨E,hEE⟩ : ∃ E:Nat,(E:Int)=m*m'+a*a'+b*b':=⟨(m*m'+a*a'+b*b':Int).toNat,by omega⟩
 have eE2:(E:Rat)=(1+(-u.2 * -v.2+u.1*v.1))*((m:Rat)*(m':Rat)):=by rw [←Rat.intCast_natCast,hEE,eE]
 have hEp:0<E:=by omega
 have hEl:E≤11163:=by
  have:((m*m':Nat):Int)=(m:Int)*(m':Int):=by simp
  omega
 have hEn:7442≤7442*E:=by omega
 refine ⟨⟨E,-(b*m'+b'*m),hEp,hEl,?_,?_⟩,⟨E,a*m'+a'*m,hEp,hEl,?_,?_⟩⟩
 ·refine Nat.le_trans ?_ hEn
  omega
 ·rw [eE2,Rat.intCast_neg,Rat.intCast_add,Rat.intCast_mul,Rat.intCast_mul,Rat.intCast_natCast,Rat.intCast_natCast,←e2,←e2']
  show (0+1*c*(-u.2+1 * -v.2))*((1+(-u.2 * -v.2+u.1*v.1))*((m:Rat)*(m':Rat))) = -(u.2*m*m'+v.2*m'*m)
  generalize 1+(-u.2 * -v.2+u.1*v.1)=z at *
  grind
 ·refine Nat.le_trans ?_ hEn
  omega
 ·rw [eE2,Rat.intCast_add,Rat.intCast_mul,Rat.intCast_mul,Rat.intCast_natCast,Rat.intCast_natCast,←e1,←e1']
  show (0+1*c*(u.1+1*v.1))*((1+(-u.2 * -v.2+u.1*v.1))*((m:Rat)*(m':Rat)))=u.1*m*m'+v.1*m'*m
  generalize 1+(-u.2 * -v.2+u.1*v.1)=z at *
  grind
def Fq2 (n b:Nat) (p:QP):Prop:=Fq n b p.1∧Fq n b p.2
theorem Fq2.plus {n b n' b' n'' b'':Nat} {p d:QP} {k:Rat} (hp:Fq2 n b p) (hd:Fq2 n' b' d) (hk:Fq n'' b'' k):Fq2 (n+n''*n') (b*(b''*b')) (plusQ p d k):=⟨hp.1.add (hk.mul hd.1),hp.2.add (hk.mul hd.2)⟩
theorem Fq2.mono {n b n' b':Nat} {q:QP} (h:Fq2 n b q) (h1:n≤n') (h2:b≤b'):Fq2 n' b' q:=⟨h.1.mono h1 h2,h.2.mono h1 h2⟩
theorem Fq2.dot {n b n' b':Nat} {p d:QP} (hp:Fq2 n b p) (hd:Fq2 n' b' d):Fq (n*n'+n*n') (b*b'*(b*b')) (dotQ p d):=(hp.1.mul hd.1).add (hp.2.mul hd.2)
theorem fq_m1:Fq 1 1 (-1):=Fq.int (a:=-1) (by decide)
theorem Plan.atq {s:QP} {D:List (Rat × Rat)} (h:Plan s D):∀ k,Fq2 (9+6*k) (61 ^ k) (atK s D k)
 | 0=>⟨h.s1,h.s2⟩
 | k+1=>((h.atq k).plus (h.dir k) (h.l k)).mono (by omega) (by rw [Nat.pow_succ];omega)
theorem Plan.at4 {s:QP} {D:List (Rat × Rat)} (h:Plan s D) {k:Nat} (hk:k≤4):Fq2 33 (61 ^ 4) (atK s D k):=
 (h.atq k).mono (by omega) (Nat.pow_le_pow_right (by decide) hk)
theorem Plan.g {s:QP} {D:List (Rat × Rat)} (h:Plan s D) (k:Nat):Fq 29768 ((61*(11163*11163))*(61*(11163*11163))) (gK D k):=
 (Fq2.dot (h.dir k) (Fq2.plus (h.ax (k+1)) (h.ax k) fq_m1)).mono (by decide) (by decide)
def bLg:Nat:=4*((61*(11163*11163))*(61*(11163*11163)))
theorem Plan.lg {s:QP} {D:List (Rat × Rat)} (h:Plan s D) {x:Rat} (hx:Fq 32 4 x) (k:Nat):Fq 952582 bLg (lgQ D x k):=
 ((h.l k).add ((h.g k).mul hx)).mono (by decide) (by decide)
theorem Plan.rest {s:QP} {D:List (Rat × Rat)} (h:Plan s D) {x y:Rat} (hx:Fq 32 4 x) (hy:Fq 32 4 y):∀ k,Fq (32+952582*k) (4*bLg ^ k) (restQ D x y k)
 | 0=>hy.mono (by omega) (by decide)
 | k+1=>((h.rest hx hy k).sub (h.lg hx k)).mono (by omega) (by rw [Nat.pow_succ,Nat.mul_assoc];exact Nat.le_refl _)
theorem Plan.rest4 {s:QP} {D:List (Rat × Rat)} (h:Plan s D) {x y:Rat} (hx:Fq 32 4 x) (hy:Fq 32 4 y) {k:Nat} (hk:k≤4):Fq 4000000 (4*bLg ^ 4) (restQ D x y k):=
 (h.rest hx hy k).mono (by omega) (Nat.mul_le_mul_left _ (Nat.pow_le_pow_right (by decide) hk))
theorem Plan.restz {s:QP} {D:List (Rat × Rat)} (h:Plan s D) {x y:Rat} (hx:Fq 32 4 x) (hy:Fq 32 4 y) {k:Nat} (hk:k≤D.length):Sz 100000000 (restQ D x y k):=
 ((h.rest4 hx hy (Nat.le_trans hk h.n)).ok (by decide) (by decide)).sz.mono (by decide)
theorem Plan.fold {s:QP} {D:List (Rat × Rat)} (h:Plan s D) {x y:Rat} (hx:Fq 32 4 x) (hy:Fq 32 4 y) {k:Nat} (hk:k<D.length):OkB (foldP s D x y k).1∧OkB (foldP s D x y k).2:=by
 have hk4:k≤4:=by have:=h.n;omega
 have h2:Fq2 (10 ^ 12) (10 ^ 120) (foldP s D x y k):=
  (Fq2.plus (Fq2.plus (h.at4 hk4) (h.ax k) hx) (h.dir k) (h.rest4 hx hy hk4)).mono (by decide) (by decide)
 exact ⟨h2.1.ok (by decide) (by decide),h2.2.ok (by decide) (by decide)⟩
theorem least_of {P:Nat→Prop}:∀ n,P n→∃ m,m≤n∧P m∧∀ j,j<m→¬ P j:=fun n=>by
 induction n using Nat.strongRecOn with
 | _ n ih =>
  intro h
  by_cases hx:∃ j,j<n∧P j
  ·obtain ⟨j,h1,h2⟩:=hx
   obtain ⟨m,h3,h4,h5⟩:=ih j h1 h2
   exact ⟨m,by omega,h4,h5⟩
  ·exact ⟨n,Nat.le_refl _,h,fun j hj hp=>hx ⟨j,hj,hp⟩⟩
theorem fold_found {s:QP} {D:List (Rat × Rat)} (hI:PrIn D) {h x:Rat} {k:Nat} (w:withinB D h=true) (hx:¬ x<0) (hk:k<D.length) (hl:restQ D h x k≤lgQ D h k) (hb:∀ j,j<k→lgQ D h j<restQ D h x j) :
  ∃ k0,k0<D.length∧hitU s D (foldP s D h x k) k0∧(∀ j,j<k0→¬ hitU s D (foldP s D h x k) j)∧outU s D (foldP s D h x k) k0=(x,h):=by
 have hr:0≤restQ D h x k:=by
  cases k with
  | zero=>exact Rat.not_lt.1 hx
  | succ k =>
   have:=hb k (by omega)
   show 0≤restQ D h x k-lgQ D h k
   grind
 have h1:=fold_hits (s:=s) hI w hk hr hl
 obtain ⟨m,h2,h3,h4⟩:=least_of k h1
 exact ⟨m,by omega,h3,h4,unfold_of_fold hI w hk hr hl (by omega) h3⟩
end Go.Proofs.YtogdahbbogimcaaGreatDoor
