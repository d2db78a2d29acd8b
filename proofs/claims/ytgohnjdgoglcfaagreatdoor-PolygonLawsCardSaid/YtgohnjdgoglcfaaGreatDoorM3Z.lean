import Derived.Test.YtgohnjdgoglcfaaGreatDoorV19Z
import Derived.Test.YtgohnjdgoglcfaaGreatDoorU2WZ
namespace Go.Proofs.YtgohnjdgoglcfaaGreatDoor
theorem leastTo_one {P:List QP} {x:QP} (h:∀ i,i<P.length→0<sdU P x i):∀ k,k≤P.length→leastTo P x sgnR k=1
 | 0,_=>rfl
 | k+1,hk=>by
  unfold leastTo
  rw [leastTo_one h k (by omega),sgnR_pos (h k (by omega))]
  rfl
theorem where_cen {P:List QP} (h:Cvx P):whereP P (cenP P)=1:=leastTo_one (fun i hi=>by
 have:=h.cen_in i hi
 rw [←pt_eq hi,←pt_eq (nxI_lt (by omega))] at this
 exact this) _ (Nat.le_refl _)
theorem Cvx.corner_in {P:List QP} (h:Cvx P) {p:QP} (hp:p∈P):InP P p:=fun i hi=>by
 have h3:=h.1
 have hn:nxI P.length i<P.length:=nxI_lt (by omega)
 obtain ⟨j,hj,rfl⟩:=mem_pt hp
 by_cases e1:j=i
 ·rw [e1,crs_self];exact Rat.le_refl
 ·by_cases e2:j=nxI P.length i
  ·rw [e2,crs_end];exact Rat.le_refl
  ·have:=h.2 i j hi hj e1 e2
   rw [←pt_eq hi,←pt_eq hj,←pt_eq hn] at this
   grind
theorem leastTo_in {P:List QP} {x:QP} (h:InP P x):∀ k,k≤P.length→0≤leastTo P x sgnR k
 | 0,_=>(by decide:(0:Int)≤1)
 | k+1,hk=>by
  have h1:=leastTo_in h k (by omega)
  have h2:=h k (by omega)
  unfold leastTo
  have h3:0≤sgnR (sdU P x k):=by
   rcases sgnR_cases (sdU P x k) with ⟨a,b⟩ | ⟨a,b⟩ | ⟨a,b⟩
   ·exact absurd h2 (by unfold sdU at a;grind)
   ·omega
   ·omega
  omega
theorem ClipIs.inside {f:QP→Rat} {P X:List QP} {a b c:Rat} (hl:ClipLine f P a b c) (h:ClipIs f P X):∀ q∈X,0≤whereP P q:=fun q hq=>by
 have hm:=h.mem q hq
 rcases h with ⟨hp,t,ht,rfl⟩ | ⟨_,rfl⟩
 ·have hc:=hl.some hp
  have hI:=hc.corner_in hm
  rw [hl.fn] at hI hp
  exact leastTo_in ((hl.cvx.clip_in a b c hl.ne hp q).1.1 hI).1 _ (Nat.le_refl _)
 ·cases hq
theorem Poly.hull {P X:List QP} (h:Poly P) (hX:Wrap P X):X=P:=hX.unique h.wrap
end Go.Proofs.YtgohnjdgoglcfaaGreatDoor
