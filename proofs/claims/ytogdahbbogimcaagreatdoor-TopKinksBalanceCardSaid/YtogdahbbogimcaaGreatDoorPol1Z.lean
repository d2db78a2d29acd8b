import Derived.Test.YtogdahbbogimcaaGreatDoorHul1Z
set_option maxHeartbeats 2000000
namespace Go.Proofs.YtogdahbbogimcaaGreatDoor
abbrev pt (P:List (Rat × Rat)) (i:Nat):Rat × Rat:=P.getD i (0,0)
theorem pt_eq {P:List (Rat × Rat)} {i:Nat} (h:i<P.length):pt P i=P[i]:=by unfold pt;rw [List.getD_eq_getElem?_getD,List.getElem?_eq_getElem h];rfl
def areaTo (P:List (Rat × Rat)):Nat→Rat
 | 0=>0
 | k+1=>areaTo P k+crs (pt P 0) (pt P (k+1)) (pt P (k+2))
def cenXTo (P:List (Rat × Rat)):Nat→Rat
 | 0=>0
 | k+1=>cenXTo P k+crs (pt P 0) (pt P (k+1)) (pt P (k+2))*((pt P 0).1+(pt P (k+1)).1+(pt P (k+2)).1)
def cenYTo (P:List (Rat × Rat)):Nat→Rat
 | 0=>0
 | k+1=>cenYTo P k+crs (pt P 0) (pt P (k+1)) (pt P (k+2))*((pt P 0).2+(pt P (k+1)).2+(pt P (k+2)).2)
def areaP (P:List (Rat × Rat)):Rat:=areaTo P (P.length-2)
def cenP (P:List (Rat × Rat)):Rat × Rat:=(cenXTo P (P.length-2)*(3*areaP P)⁻¹,cenYTo P (P.length-2)*(3*areaP P)⁻¹)
theorem Cvx.fan {P:List (Rat × Rat)} (h:Cvx P) {k:Nat} (hk:k+2<P.length):0<crs (pt P 0) (pt P (k+1)) (pt P (k+2)):=by
 rw [pt_eq (show 0<P.length by omega),pt_eq (show k+1<P.length by omega),pt_eq hk]
 have:=h.2 (k+1) 0 (by omega) (by omega) (by omega) (by unfold nxI;rw [if_pos (by omega)];omega)
 unfold nxI at this
 simp only [show k+1+1<P.length by omega,if_true] at this
 have e:crs (P[0]'(by omega)) (P[k+1]'(by omega)) (P[k+2]'(by omega))=crs (P[k+1]'(by omega)) (P[k+1+1]'(by omega)) (P[0]'(by omega)):=by unfold crs;grind
 rw [e]
 exact this
theorem Cvx.areaTo_pos {P:List (Rat × Rat)} (h:Cvx P):∀ k,k+2<P.length→0<areaTo P (k+1)
 | 0,hk=>by
  have:=h.fan hk
  show 0<0+crs (pt P 0) (pt P (0+1)) (pt P (0+2))
  grind
 | k+1,hk=>by
  have h1:=h.areaTo_pos k (by omega)
  have h2:=h.fan hk
  show 0<areaTo P (k+1)+crs (pt P 0) (pt P (k+1+1)) (pt P (k+1+2))
  grind
theorem Cvx.area_pos {P:List (Rat × Rat)} (h:Cvx P):0<areaP P:=by
 have h3:=h.1
 unfold areaP
 have:=h.areaTo_pos (P.length-3) (by omega)
 rwa [show P.length-3+1=P.length-2 by omega] at this
theorem crs_sum (a b p q r:Rat × Rat) (w:Rat):w*(crs a b p+crs a b q+crs a b r)=(b.1-a.1)*(w*(p.2+q.2+r.2))-(b.2-a.2)*(w*(p.1+q.1+r.1))-3*w*((b.1-a.1)*a.2-(b.2-a.2)*a.1):=by unfold crs;grind
def offTo (P:List (Rat × Rat)) (a b:Rat × Rat):Nat→Rat
 | 0=>0
 | k+1=>offTo P a b k+crs (pt P 0) (pt P (k+1)) (pt P (k+2))*(crs a b (pt P 0)+crs a b (pt P (k+1))+crs a b (pt P (k+2)))
theorem offTo_eq (P:List (Rat × Rat)) (a b:Rat × Rat):∀ k,offTo P a b k=(b.1-a.1)*cenYTo P k-(b.2-a.2)*cenXTo P k-3*areaTo P k*((b.1-a.1)*a.2-(b.2-a.2)*a.1)
 | 0=>by unfold offTo cenYTo cenXTo areaTo;grind
 | k+1=>by
  have ih:=offTo_eq P a b k
  have h:=crs_sum a b (pt P 0) (pt P (k+1)) (pt P (k+2)) (crs (pt P 0) (pt P (k+1)) (pt P (k+2)))
  show offTo P a b k+crs (pt P 0) (pt P (k+1)) (pt P (k+2))*(crs a b (pt P 0)+crs a b (pt P (k+1))+crs a b (pt P (k+2)))=(b.1-a.1)*(cenYTo P k+crs (pt P 0) (pt P (k+1)) (pt P (k+2))*((pt P 0).2+(pt P (k+1)).2+(pt P (k+2)).2))-(b.2-a.2)*(cenXTo P k+crs (pt P 0) (pt P (k+1)) (pt P (k+2))*((pt P 0).1+(pt P (k+1)).1+(pt P (k+2)).1))-3*(areaTo P k+crs (pt P 0) (pt P (k+1)) (pt P (k+2)))*((b.1-a.1)*a.2-(b.2-a.2)*a.1)
  rw [ih,h]
  grind
theorem Cvx.cen_in {P:List (Rat × Rat)} (h:Cvx P) (i:Nat) (hi:i<P.length):0<crs P[i] (P[nxI P.length i]'(nxI_lt (by omega))) (cenP P):=by
 have h3:=h.1
 have hA:=h.area_pos
 generalize ha:P[i]=a
 generalize hb:P[nxI P.length i]'(nxI_lt (by omega))=b
 have hside:=h.side i hi
 rw [ha,hb] at hside
 have nn:∀ j,j<P.length→0≤crs a b (pt P j):=fun j hj=>by
  rw [pt_eq hj]
  exact (hside.2 _ (List.getElem_mem hj)).1
 have mono:∀ k,k+2≤P.length→0≤offTo P a b k:=fun k=>by
  induction k with
  | zero=>intro _;exact Rat.le_refl
  | succ k ih =>
   intro hk
   have h1:=ih (by omega)
   have h2:=Rat.mul_nonneg (Rat.le_of_lt (h.fan (show k+2<P.length by omega))) (show 0≤crs a b (pt P 0)+crs a b (pt P (k+1))+crs a b (pt P (k+2)) by
    have:=nn 0 (by omega);have:=nn (k+1) (by omega);have:=nn (k+2) (by omega);grind)
   show 0≤offTo P a b k+crs (pt P 0) (pt P (k+1)) (pt P (k+2))*(crs a b (pt P 0)+crs a b (pt P (k+1))+crs a b (pt P (k+2)))
   grind
 obtain ⟨j,hj,hjp⟩ : ∃ j,j<P.length∧0<crs a b (pt P j):=by
  obtain ⟨j,hj,h1,h2⟩ : ∃ j,j<P.length∧j≠i∧j≠nxI P.length i:=by
   by_cases c0:0≠i∧0≠nxI P.length i
   ·exact ⟨0,by omega,c0.1,c0.2⟩
   ·by_cases c1:1≠i∧1≠nxI P.length i
    ·exact ⟨1,by omega,c1.1,c1.2⟩
    ·exact ⟨2,by omega,by omega,by omega⟩
  refine ⟨j,hj,?_⟩
  rw [pt_eq hj,←ha,←hb]
  exact h.2 i j hi hj h1 h2
 have step:∀ k,k+2<P.length→(0<crs a b (pt P 0)∨0<crs a b (pt P (k+1))∨0<crs a b (pt P (k+2)))→0<offTo P a b (k+1):=fun k hk hc=>by
  have h1:=mono k (by omega)
  have h2:=Rat.mul_pos (h.fan hk) (show 0<crs a b (pt P 0)+crs a b (pt P (k+1))+crs a b (pt P (k+2)) by
   have:=nn 0 (by omega);have:=nn (k+1) (by omega);have:=nn (k+2) (by omega);grind)
  show 0<offTo P a b k+crs (pt P 0) (pt P (k+1)) (pt P (k+2))*(crs a b (pt P 0)+crs a b (pt P (k+1))+crs a b (pt P (k+2)))
  grind
 have up:∀ d k,k+d+2≤P.length→0<offTo P a b k→0<offTo P a b (k+d):=fun d=>by
  induction d with
  | zero=>intro k _ hp;exact hp
  | succ d ih =>
   intro k hk hp
   have h1:=ih k (by omega) hp
   have h2:=Rat.mul_nonneg (Rat.le_of_lt (h.fan (show (k+d)+2<P.length by omega))) (show 0≤crs a b (pt P 0)+crs a b (pt P (k+d+1))+crs a b (pt P (k+d+2)) by
    have:=nn 0 (by omega);have:=nn (k+d+1) (by omega);have:=nn (k+d+2) (by omega);grind)
   show 0<offTo P a b (k+d)+crs (pt P 0) (pt P (k+d+1)) (pt P (k+d+2))*(crs a b (pt P 0)+crs a b (pt P (k+d+1))+crs a b (pt P (k+d+2)))
   grind
 have hall:0<offTo P a b (P.length-2):=by
  rcases (show j=0∨j=1∨2≤j by omega) with rfl | rfl | h2
  ·have:=step 0 (by omega) (.inl hjp)
   have:=up (P.length-3) 1 (by omega) this
   rwa [show 1+(P.length-3)=P.length-2 by omega] at this
  ·have:=step 0 (by omega) (.inr (.inl hjp))
   have:=up (P.length-3) 1 (by omega) this
   rwa [show 1+(P.length-3)=P.length-2 by omega] at this
  ·have:=step (j-2) (by omega) (.inr (.inr (by rw [show j-2+2=j by omega];exact hjp)))
   have:=up (P.length-1-j) (j-2+1) (by omega) this
   rwa [show j-2+1+(P.length-1-j)=P.length-2 by omega] at this
 rw [offTo_eq] at hall
 have hA3:3*areaP P≠0:=fun e=>by grind
 have hi3:=Rat.mul_inv_cancel _ hA3
 have hinv:0<(3*areaP P)⁻¹:=Rat.inv_pos.2 (by grind)
 have e:crs a b (cenP P)=((b.1-a.1)*cenYTo P (P.length-2)-(b.2-a.2)*cenXTo P (P.length-2)-3*areaTo P (P.length-2)*((b.1-a.1)*a.2-(b.2-a.2)*a.1))*(3*areaP P)⁻¹:=by
  unfold crs cenP
  show (b.1-a.1)*(cenYTo P (P.length-2)*(3*areaP P)⁻¹-a.2)-(b.2-a.2)*(cenXTo P (P.length-2)*(3*areaP P)⁻¹-a.1)=_
  rw [show areaTo P (P.length-2)=areaP P from rfl]
  generalize (3*areaP P)⁻¹=v at *
  grind
 rw [e]
 exact Rat.mul_pos hall hinv
def FcP (B Nx Ny:Nat) (p:Rat × Rat):Prop:=Fc B Nx p.1∧Fc B Ny p.2
theorem fc_crs {B Nx Ny:Nat} {a b c:Rat × Rat} (ha:FcP B Nx Ny a) (hb:FcP B Nx Ny b) (hc:FcP B Nx Ny c):Fc (8*B*B) (Nx*Ny) (crs a b c):=by
 have h1:=(hb.1.sub ha.1).mul (hc.2.sub ha.2)
 have h2:=(hb.2.sub ha.2).mul (hc.1.sub ha.1)
 rw [Nat.mul_comm Ny Nx] at h2
 exact (h1.sub h2).mono (by grind)
theorem fc_areaTo {B Nx Ny:Nat} {P:List (Rat × Rat)} (h:∀ p∈P,FcP B Nx Ny p):∀ k,k+2≤P.length→Fc (8*B*B*k) (Nx*Ny) (areaTo P k)
 | 0,_=>⟨0,by simp,by unfold areaTo;simp⟩
 | k+1,hk=>by
  have hp:∀ i,i<P.length→FcP B Nx Ny (pt P i):=fun i hi=>by rw [pt_eq hi];exact h _ (List.getElem_mem hi)
  have h1:=fc_areaTo h k (by omega)
  have h2:=fc_crs (hp 0 (by omega)) (hp (k+1) (by omega)) (hp (k+2) (by omega))
  exact (h1.add h2).mono (by grind)
theorem fc_cenXTo {B Nx Ny:Nat} {P:List (Rat × Rat)} (h:∀ p∈P,FcP B Nx Ny p):∀ k,k+2≤P.length→Fc (24*B*B*B*k) (Nx*Ny*Nx) (cenXTo P k)
 | 0,_=>⟨0,by simp,by unfold cenXTo;simp⟩
 | k+1,hk=>by
  have hp:∀ i,i<P.length→FcP B Nx Ny (pt P i):=fun i hi=>by rw [pt_eq hi];exact h _ (List.getElem_mem hi)
  have h1:=fc_cenXTo h k (by omega)
  have h2:=(fc_crs (hp 0 (by omega)) (hp (k+1) (by omega)) (hp (k+2) (by omega))).mul (((hp 0 (by omega)).1.add (hp (k+1) (by omega)).1).add (hp (k+2) (by omega)).1)
  exact (h1.add h2).mono (by grind)
theorem fc_cenYTo {B Nx Ny:Nat} {P:List (Rat × Rat)} (h:∀ p∈P,FcP B Nx Ny p):∀ k,k+2≤P.length→Fc (24*B*B*B*k) (Nx*Ny*Ny) (cenYTo P k)
 | 0,_=>⟨0,by simp,by unfold cenYTo;simp⟩
 | k+1,hk=>by
  have hp:∀ i,i<P.length→FcP B Nx Ny (pt P i):=fun i hi=>by rw [pt_eq hi];exact h _ (List.getElem_mem hi)
  have h1:=fc_cenYTo h k (by omega)
  have h2:=(fc_crs (hp 0 (by omega)) (hp (k+1) (by omega)) (hp (k+2) (by omega))).mul (((hp 0 (by omega)).2.add (hp (k+1) (by omega)).2).add (hp (k+2) (by omega)).2)
  exact (h1.add h2).mono (by grind)
def towP (a b:Rat × Rat) (k:Rat):Rat × Rat:=(a.1+k*(b.1-a.1),a.2+k*(b.2-a.2))
def valP (a b c:Rat) (p:Rat × Rat):Rat:=a*p.1+b*p.2-c
theorem crs_tow (a b p q:Rat × Rat) (k:Rat):crs a b (towP p q k)=(1-k)*crs a b p+k*crs a b q:=by unfold crs towP;grind
theorem val_tow (a b c:Rat) (p q:Rat × Rat) (k:Rat):valP a b c (towP p q k)=(1-k)*valP a b c p+k*valP a b c q:=by unfold valP towP;grind
theorem crs_cyc (a b c:Rat × Rat):crs a b c=crs b c a:=by unfold crs;grind
theorem crs_val (a b p:Rat × Rat):crs a b p=valP (a.2-b.2) (b.1-a.1) (valP (a.2-b.2) (b.1-a.1) 0 a) p:=by unfold crs valP;grind
theorem val_four (a b c:Rat) (p q r s:Rat × Rat):crs q r s*valP a b c p+crs p q s*valP a b c r=crs p r s*valP a b c q+crs p q r*valP a b c s:=by unfold crs valP;grind
def Tri (n:Nat) (p:Nat→Rat × Rat):Prop:=∀ i j k,i<j→j<k→k<n→0<crs (p i) (p j) (p k)
theorem Tri.le {n:Nat} {p:Nat→Rat × Rat} (h:Tri n p) (i j k:Nat) (h1:i≤j) (h2:j≤k) (h3:k<n):0≤crs (p i) (p j) (p k):=by
 rcases Nat.lt_or_eq_of_le h1 with h1 | h1
 ·rcases Nat.lt_or_eq_of_le h2 with h2 | h2
  ·exact Rat.le_of_lt (h i j k h1 h2 h3)
  ·subst h2;rw [crs_end];exact Rat.le_refl
 ·subst h1;rw [crs_same];exact Rat.le_refl
def prI (n i:Nat):Nat:=if i=0 then n-1 else i-1
theorem prI_lt {n i:Nat} (h:i<n):prI n i<n:=by unfold prI;split <;> omega
theorem nx_pr {n i:Nat} (h:i<n):nxI n (prI n i)=i:=by unfold nxI prI;split <;> split <;> omega
theorem Cvx.half {P:List (Rat × Rat)} (h:Cvx P) (i:Nat) (hi:i<P.length):∃ e,∀ p∈P,p=P[i]∨Half e (way P[i] p):=by
 have:=h.side (prI P.length i) (prI_lt hi)
 simp only [nx_pr hi] at this
 exact ⟨_,half_nxt this⟩
theorem Cvx.tri {P:List (Rat × Rat)} (h:Cvx P):Tri P.length (pt P):=by
 intro i j k hij hjk hk
 obtain ⟨e,he⟩:=h.half i (by omega)
 have hH:∀ j (hj:j<P.length),i<j→Half e (way P[i] P[j]):=fun j hj hij=>by
  rcases he _ (List.getElem_mem hj) with h1 | h1
  ·exact absurd h1.symm (h.inj i j (by omega) hj (by omega))
  ·exact h1
 have hS:∀ j (hj:j+1<P.length),i<j→0<crs P[i] P[j] P[j+1]:=fun j hj hij=>by
  have:=h.2 j i (by omega) (by omega) (by omega) (by unfold nxI;rw [if_pos hj];omega)
  unfold nxI at this
  simp only [if_pos hj] at this
  rw [crs_cyc]
  exact this
 have key:∀ d (hd:j+1+d<P.length),0<crs P[i] P[j] P[j+1+d]:=by
  intro d
  induction d with
  | zero=>intro hd;exact hS j hd hij
  | succ d ih =>
   intro hd
   have a:=ih (by omega)
   have b:=hS (j+1+d) hd (by omega)
   rw [crs_xp] at a b ⊢
   exact half_trans (hH (j+1+d) (by omega) (by omega)) (hH j (by omega) hij) (hH (j+1+(d+1)) hd (by omega)) a (Rat.le_of_lt b)
 obtain ⟨d,rfl⟩ : ∃ d,k=j+1+d:=⟨k-j-1,by omega⟩
 rw [pt_eq (by omega),pt_eq (by omega),pt_eq hk]
 exact key d hk
theorem cvx_of_tri {P:List (Rat × Rat)} (h3:3≤P.length) (h:Tri P.length (pt P)):Cvx P:=by
 refine ⟨h3,fun i j hi hj h1 h2=>?_⟩
 have e:∀ i (hi:i<P.length),P[i]=pt P i:=fun i hi=>(pt_eq hi).symm
 rw [e i hi,e j hj,e _ (nxI_lt (by omega))]
 unfold nxI at h2 ⊢
 by_cases hi1:i+1<P.length
 ·rw [if_pos hi1] at h2 ⊢
  rcases (show i+1<j∨j<i by omega) with h4 | h4
  ·exact h i (i+1) j (by omega) h4 hj
  ·rw [←crs_cyc];exact h j i (i+1) h4 (by omega) hi1
 ·rw [if_neg hi1] at h2 ⊢
  rw [crs_cyc]
  exact h 0 j i (by omega) (by omega) hi
def cutF (p:Nat→Rat × Rat) (m:Nat) (A B:Rat × Rat) (i:Nat):Rat × Rat:=if i<m then p i else if i=m then A else B
theorem Tri.cut {n:Nat} {p:Nat→Rat × Rat} (h:Tri n p) {m:Nat} (hm0:0<m) (hm:m<n) (h3:3≤n) {k l:Rat} (hk0:0<k) (hk1:k≤1) (hl0:0≤l) (hl1:l<1) (hkl:m+1=n→k<1∧0<l) :
  Tri (m+2) (cutF p m (towP (p (m-1)) (p m) k) (towP (p (n-1)) (p 0) l)):=by
 intro i j t hij hjt ht
 have k1:0≤1-k:=by grind
 have l1:0<1-l:=by grind
 have k0:=Rat.le_of_lt hk0
 unfold cutF
 rcases (show t<m∨t=m∨(t=m+1∧j<m)∨(t=m+1∧j=m) by omega) with h1 | h1 | ⟨h1,h2⟩ | ⟨h1,h2⟩
 ·rw [if_pos (by omega),if_pos (by omega),if_pos h1]
  exact h i j t hij hjt (by omega)
 ·subst h1
  rw [if_pos (by omega),if_pos hjt,if_neg (by omega),if_pos rfl,crs_tow]
  have a:=Rat.mul_nonneg k1 (h.le i j (t-1) (by omega) (by omega) (by omega))
  have b:=Rat.mul_pos hk0 (h i j t hij hjt hm)
  grind
 ·subst h1
  rw [if_pos (by omega),if_pos h2,if_neg (by omega),if_neg (by omega),crs_tow]
  have a:=Rat.mul_pos l1 (h i j (n-1) hij (by omega) (by omega))
  have b:=Rat.mul_nonneg hl0 (h.le 0 i j (by omega) (by omega) (by omega))
  rw [crs_cyc (p i) (p j) (p 0),crs_cyc (p j) (p 0) (p i)]
  grind
 ·subst h1 h2
  rw [if_pos hij,if_neg (by omega),if_pos rfl,if_neg (by omega),if_neg (by omega),crs_tow]
  have e1:∀ z,crs (p i) (towP (p (j-1)) (p j) k) z=(1-k)*crs (p i) (p (j-1)) z+k*crs (p i) (p j) z:=fun z=>by unfold crs towP;grind
  rw [e1,e1]
  have a1:=h.le i (j-1) (n-1) (by omega) (by omega) (by omega)
  have a2:=h.le 0 i (j-1) (by omega) (by omega) (by omega)
  have a3:=h.le i j (n-1) (by omega) (by omega) (by omega)
  have a4:=h.le 0 i j (by omega) (by omega) (by omega)
  rw [crs_cyc (p 0),crs_cyc (p i)] at a2 a4
  rw [crs_cyc (p i) (p (j-1)) (p 0),crs_cyc (p i) (p j) (p 0)]
  have b1:=Rat.mul_nonneg (Rat.le_of_lt l1) (Rat.mul_nonneg k1 a1)
  have b2:=Rat.mul_nonneg hl0 (Rat.mul_nonneg k1 a2)
  have b3:=Rat.mul_nonneg (Rat.le_of_lt l1) (Rat.mul_nonneg k0 a3)
  have b4:=Rat.mul_nonneg hl0 (Rat.mul_nonneg k0 a4)
  rcases (show j<n-1∨j+1=n by omega) with h5 | h5
  ·have c3:=Rat.mul_pos l1 (Rat.mul_pos hk0 (h i j (n-1) hij h5 (by omega)))
   grind
  ·obtain ⟨hk2,hl2⟩:=hkl h5
   rcases (show i<j-1∨0<i by omega) with h6 | h6
   ·have c1:=Rat.mul_pos l1 (Rat.mul_pos (show 0<1-k by grind) (h i (j-1) (n-1) h6 (by omega) (by omega)))
    grind
   ·have c4:=Rat.mul_pos hl2 (Rat.mul_pos hk0 (h 0 i j h6 hij hm))
    rw [crs_cyc (p 0),crs_cyc (p i)] at c4
    grind
section
variable {α:Type}
def pth (g:Rat × Rat→Rat × Rat→List α):List (Rat × Rat)→List α
 | []=>[]
 | [_]=>[]
 | p :: q :: L=>g p q++pth g (q :: L)
def cyc (g:Rat × Rat→Rat × Rat→List α):List (Rat × Rat)→List α
 | []=>[]
 | p :: L=>pth g (p :: (L ++ [p]))
theorem pth_app (g:Rat × Rat→Rat × Rat→List α) (a:Rat × Rat) (Y:List (Rat × Rat)):∀ X,pth g (X++a :: Y)=pth g (X ++ [a])++pth g (a :: Y)
 | []=>by simp [pth]
 | [x]=>by simp [pth]
 | x :: y :: X=>by
  have:=pth_app g a Y (y :: X)
  simp only [List.cons_append] at this ⊢
  simp only [pth,this,List.append_assoc]
theorem cyc_two (g:Rat × Rat→Rat × Rat→List α) (x y:Rat × Rat) (X Y:List (Rat × Rat)):cyc g (x :: X++y :: Y)=pth g (x :: X ++ [y])++pth g (y :: Y ++ [x]):=by
 show pth g (x :: (X++y :: Y ++ [x]))=_
 rw [List.append_assoc]
 exact pth_app g y (Y ++ [x]) (x :: X)
def cycTo (g:Rat × Rat→Rat × Rat→List α) (P:List (Rat × Rat)):Nat→List α
 | 0=>[]
 | k+1=>cycTo g P k++g (pt P k) (pt P (nxI P.length k))
theorem cycTo_pth (g:Rat × Rat→Rat × Rat→List α) (P:List (Rat × Rat)):∀ k,k<P.length→cycTo g P k=pth g (P.take (k+1))
 | 0,h=>by
  cases P with
  | nil=>simp at h
  | cons p L=>simp [cycTo,pth]
 | k+1,h=>by
  have ih:=cycTo_pth g P k (by omega)
  have e:P.take (k+1+1)=P.take k++P[k] :: [P[k+1]]:=by
   rw [List.take_succ_eq_append_getElem h,List.take_succ_eq_append_getElem (by omega),List.append_assoc];rfl
  have e2:P.take (k+1)=P.take k ++ [P[k]]:=List.take_succ_eq_append_getElem (by omega)
  rw [e,pth_app,←e2,←ih]
  show cycTo g P k++g (pt P k) (pt P (nxI P.length k))=_
  rw [show nxI P.length k=k+1 by unfold nxI;rw [if_pos h],pt_eq (by omega),pt_eq h]
  simp [pth]
theorem cycTo_all (g:Rat × Rat→Rat × Rat→List α) (P:List (Rat × Rat)):cycTo g P P.length=cyc g P:=by
 cases hP:P with
 | nil=>rfl
 | cons p L =>
  rw [←hP]
  have hn:P.length=L.length+1:=by rw [hP];rfl
  have ih:=cycTo_pth g P L.length (by omega)
  rw [List.take_of_length_le (by omega)] at ih
  rw [hn]
  show cycTo g P L.length++g (pt P L.length) (pt P (nxI P.length L.length))=_
  rw [ih,show nxI P.length L.length=0 by unfold nxI;rw [if_neg (by omega)]]
  have e:P=P.take L.length ++ [pt P L.length]:=by
   rw [pt_eq (by omega),←List.take_succ_eq_append_getElem,List.take_of_length_le (by omega)]
  have e0:pt P 0=p:=by rw [hP];rfl
  have h2:=pth_app g (pt P L.length) [p] (P.take L.length)
  rw [←e] at h2
  rw [show P.take L.length++pt P L.length :: [p]=P ++ [p] by
   rw [show P.take L.length++pt P L.length :: [p]=(P.take L.length ++ [pt P L.length]) ++ [p] by simp,←e]] at h2
  rw [e0]
  have h3:cyc g P=pth g (P ++ [p]):=by rw [hP];rfl
  rw [h3,h2]
  simp [pth]
end
def emit (f:Rat × Rat→Rat) (p q:Rat × Rat):List (Rat × Rat):=
 (if 0≤f p then [p] else [])++(if f p*f q<0 then [towP p q (f p/(f p-f q))] else [])
def clipL (f:Rat × Rat→Rat) (P:List (Rat × Rat)):List (Rat × Rat):=cyc (emit f) P
theorem mul_neg_iff {a b:Rat} (ha:0<a):a*b<0↔b<0:=by
 constructor
 ·intro h
  apply Decidable.byContradiction
  intro hb
  have:=Rat.mul_nonneg (Rat.le_of_lt ha) (show 0≤b by grind)
  grind
 ·intro h
  have:=Rat.mul_pos ha (show 0 < -b by grind)
  grind
theorem pth_pos (f:Rat × Rat→Rat) (a:Rat × Rat) (ha:0≤f a):∀ X,(∀ p∈X,0≤f p)→pth (emit f) (X ++ [a])=X
 | [],_=>by simp [pth]
 | [x],h=>by
  have hx:=h x (by simp)
  have:¬ f x*f a<0:=by have:=Rat.mul_nonneg hx ha;grind
  simp [pth,emit,hx,this]
 | x :: y :: X,h=>by
  have ih:=pth_pos f a ha (y :: X) (fun p hp=>h p (List.mem_cons_of_mem _ hp))
  have hx:=h x (by simp)
  have hy:=h y (by simp)
  have:¬ f x*f y<0:=by have:=Rat.mul_nonneg hx hy;grind
  simp only [List.cons_append] at ih ⊢
  simp only [pth,ih]
  simp [emit,hx,this]
theorem pth_neg (f:Rat × Rat→Rat) (a:Rat × Rat) (ha:f a≤0):∀ X,(∀ p∈X,f p≤0)→pth (emit f) (X ++ [a])=X.filter (fun p=>decide (f p=0))
 | [],_=>by simp [pth]
 | [x],h=>by
  have hx:=h x (by simp)
  have:¬ f x*f a<0:=by have:=Rat.mul_nonneg (show 0 ≤ -f x by grind) (show 0 ≤ -f a by grind);grind
  by_cases h0:f x=0
  ·simp [pth,emit,h0]
  ·have:¬ 0≤f x:=by grind
   simp [pth,emit, *]
 | x :: y :: X,h=>by
  have ih:=pth_neg f a ha (y :: X) (fun p hp=>h p (List.mem_cons_of_mem _ hp))
  have hx:=h x (by simp)
  have hy:=h y (by simp)
  have h1:¬ f x*f y<0:=by have:=Rat.mul_nonneg (show 0 ≤ -f x by grind) (show 0 ≤ -f y by grind);grind
  simp only [List.cons_append] at ih ⊢
  simp only [pth,ih]
  rw [List.filter_cons (x:=x)]
  by_cases h0:f x=0
  ·simp [emit,h0]
  ·have:¬ 0≤f x:=by grind
   simp [emit,h0,h1,this]
def cutP (f:Rat × Rat→Rat) (p q:Rat × Rat):Rat × Rat:=towP p q (f p/(f p-f q))
theorem tow_one (p q:Rat × Rat):towP p q 1=q:=by unfold towP;ext <;> grind
theorem tow_zero (p q:Rat × Rat):towP p q 0=p:=by unfold towP;ext <;> grind
theorem cutP_end {f:Rat × Rat→Rat} {p q:Rat × Rat} (hp:f p≠0) (h:f q=0):cutP f p q=q:=by
 unfold cutP
 rw [h,show f p-0=f p by grind,show f p/f p=1 by rw [Rat.div_def,Rat.mul_inv_cancel _ hp],tow_one]
theorem cutP_begin {f:Rat × Rat→Rat} {p q:Rat × Rat} (h:f p=0):cutP f p q=p:=by
 unfold cutP
 rw [h,show (0:Rat)/(0-f q)=0 by grind,tow_zero]
theorem clip_normal {f:Rat × Rat→Rat} (x0:Rat × Rat) (X:List (Rat × Rat)) (xl:Rat × Rat) (hX:∀ p∈X ++ [xl],0<f p) (hx0:(X ++ [xl]).head?=some x0)
  (y0:Rat × Rat) (Y:List (Rat × Rat)) (yl:Rat × Rat) (hY:∀ p∈Y ++ [yl],f p≤0) (hy0:(Y ++ [yl]).head?=some y0) (hin:∀ p∈Y.tail,f p<0) (h1:Y=[]→f yl<0) :
  clipL f ((X ++ [xl])++(Y ++ [yl]))=(X ++ [xl]) ++ [cutP f xl y0,cutP f yl x0]:=by
 obtain ⟨X',hX'⟩ : ∃ X',X ++ [xl]=x0 :: X':=by
  cases h:X ++ [xl] with
  | nil=>simp at h
  | cons a b=>rw [h] at hx0;simp at hx0;exact ⟨b,by rw [hx0]⟩
 obtain ⟨Y',hY'⟩ : ∃ Y',Y ++ [yl]=y0 :: Y':=by
  cases h:Y ++ [yl] with
  | nil=>simp at h
  | cons a b=>rw [h] at hy0;simp at hy0;exact ⟨b,by rw [hy0]⟩
 unfold clipL
 rw [hX',hY',cyc_two,←hX',←hY']
 have fx0:0<f x0:=hX x0 (by rw [hX'];exact List.mem_cons_self ..)
 have fxl:0<f xl:=hX xl (by simp)
 have fy0:f y0≤0:=hY y0 (by rw [hY'];exact List.mem_cons_self ..)
 have fyl:f yl≤0:=hY yl (by simp)
 have e1:pth (emit f) (X ++ [xl] ++ [y0])=X ++ [xl]++(if f y0<0 then [cutP f xl y0] else []):=by
  rw [List.append_assoc,show [xl] ++ [y0]=xl :: [y0] from rfl,pth_app,pth_pos f xl (Rat.le_of_lt fxl) X (fun p hp=>Rat.le_of_lt (hX p (List.mem_append_left _ hp)))]
  simp only [pth,emit,mul_neg_iff fxl,if_pos (Rat.le_of_lt fxl),List.append_nil,List.append_assoc]
  rfl
 have e2:pth (emit f) (Y ++ [yl] ++ [x0])=Y.filter (fun p=>decide (f p=0)) ++ [cutP f yl x0]:=by
  rw [List.append_assoc,show [yl] ++ [x0]=yl :: [x0] from rfl,pth_app,pth_neg f yl fyl Y (fun p hp=>hY p (List.mem_append_left _ hp))]
  simp only [pth,emit,List.append_nil]
  congr 1
  by_cases h0:f yl=0
  ·rw [cutP_begin h0,h0];simp
  ·have a1:f yl<0:=by grind
   have a2:f yl*f x0<0:=by rw [Rat.mul_comm,mul_neg_iff fx0];exact a1
   rw [if_neg (show ¬ 0≤f yl by grind),if_pos a2];rfl
 rw [e1,e2]
 have e3:(if f y0<0 then [cutP f xl y0] else [])++Y.filter (fun p=>decide (f p=0))=[cutP f xl y0]:=by
  cases Y with
  | nil =>
   simp at hY'
   rw [←hY'.1,if_pos (h1 rfl)];rfl
  | cons y M =>
   simp at hY'
   have ey:=hY'.1
   subst ey
   have hM:M.filter (fun p=>decide (f p=0))=[]:=by
    rw [List.filter_eq_nil_iff]
    intro p hp
    have:=hin p hp
    have:¬ f p=0:=by grind
    simpa using this
   rw [List.filter_cons,hM]
   by_cases h0:f y=0
   ·rw [if_neg (by grind),cutP_end (by grind) h0];simp [h0]
   ·rw [if_pos (by grind)];simp [h0]
 rw [List.append_assoc,←List.append_assoc (as:=(if f y0<0 then _ else _)),e3]
 rfl
theorem first_of {Q:Nat→Prop} [DecidablePred Q]:∀ n,Q n→∃ m,m≤n∧Q m∧∀ i,i<m→¬ Q i
 | 0,h=>⟨0,Nat.le_refl _,h,fun _ hi=>absurd hi (Nat.not_lt_zero _)⟩
 | n+1,h=>by
  by_cases hx:∃ m,m≤n∧Q m
  ·obtain ⟨m,hm,hq⟩:=hx
   obtain ⟨t,h1,h2,h3⟩:=first_of m hq
   exact ⟨t,by omega,h2,h3⟩
  ·exact ⟨n+1,Nat.le_refl _,h,fun i hi hq=>hx ⟨i,by omega,hq⟩⟩
theorem share_pos {u v:Rat} (hu:0<u) (hv:v≤0):0<u/(u-v)∧u/(u-v)≤1∧(v<0→u/(u-v)<1):=by
 have hd:0<u-v:=by grind
 have hi:0<(u-v)⁻¹:=Rat.inv_pos.2 hd
 have h1:(u-v)*(u-v)⁻¹=1:=Rat.mul_inv_cancel _ (by grind)
 rw [Rat.div_def]
 generalize (u-v)⁻¹=d at *
 have a:=Rat.mul_pos hu hi
 have b:=Rat.mul_nonneg (show 0 ≤ -v by grind) (Rat.le_of_lt hi)
 refine ⟨a,by grind,fun h=>?_⟩
 have c:=Rat.mul_pos (show 0 < -v by grind) hi
 grind
theorem share_neg {u v:Rat} (hu:u≤0) (hv:0<v):0≤u/(u-v)∧u/(u-v)<1∧(u<0→0<u/(u-v)):=by
 have hd:0<v-u:=by grind
 have hi:0<(v-u)⁻¹:=Rat.inv_pos.2 hd
 have h1:(v-u)*(v-u)⁻¹=1:=Rat.mul_inv_cancel _ (by grind)
 rw [Rat.div_def,show (u-v)⁻¹ = -(v-u)⁻¹ by
  have h2:(u-v)*(u-v)⁻¹=1:=Rat.mul_inv_cancel _ (by grind)
  have h3:(v-u)*((u-v)⁻¹+(v-u)⁻¹)=0:=by grind
  rcases Rat.mul_eq_zero.1 h3 with h4 | h4
  ·grind
  ·grind]
 generalize (v-u)⁻¹=d at *
 have a:=Rat.mul_pos hv hi
 have b:=Rat.mul_nonneg (show 0 ≤ -u by grind) (Rat.le_of_lt hi)
 refine ⟨by grind,by grind,fun h=>?_⟩
 have c:=Rat.mul_pos (show 0 < -u by grind) hi
 grind
theorem turn_at {n:Nat} {Q:Nat→Prop} {i j:Nat} (hi:i<n) (hj:j<n) (hq:Q i) (hnq:¬ Q j):∃ s,s<n∧Q s∧¬ Q (prI n s):=by
 apply Classical.byContradiction
 intro hx
 have H:∀ s,s<n→Q s→Q (prI n s):=fun s hs h=>Classical.byContradiction fun h2=>hx ⟨s,hs,h,h2⟩
 have H1:∀ s,s+1<n→Q (s+1)→Q s:=fun s hs h=>by
  have:=H (s+1) hs h
  unfold prI at this
  rw [if_neg (by omega)] at this
  exact this
 have down:∀ d i,i<n→d≤i→Q i→Q (i-d):=by
  intro d
  induction d with
  | zero=>intro i _ _ h;exact h
  | succ d ih =>
   intro i hi hd h
   have:=ih i hi (by omega) h
   rw [show i-d=(i-(d+1))+1 by omega] at this
   exact H1 _ (by omega) this
 have h0:=down i i hi (Nat.le_refl _) hq
 rw [Nat.sub_self] at h0
 have hl:=H 0 (by omega) h0
 unfold prI at hl
 rw [if_pos rfl] at hl
 have:=down (n-1-j) (n-1) (by omega) (by omega) hl
 rw [show n-1-(n-1-j)=j by omega] at this
 exact hnq this
theorem pt_rot (P:List (Rat × Rat)) {k i:Nat} (hk:k≤P.length) (hi:i<P.length):pt (rotL P k) i=pt P (rotI P.length k i):=by
 rw [pt_eq (by rw [rotL_len P hk];exact hi),rotL_get P hk hi,pt_eq (rotI_lt hk hi)]
structure Nrm (f:Rat × Rat→Rat) (R:List (Rat × Rat)) (m:Nat):Prop where
 cvx:Cvx R
 m0:0<m
 mn:m<R.length
 pos:∀ i,i<m→0<f (pt R i)
 neg:∀ i,m≤i→i<R.length→f (pt R i)≤0
 inn:∀ i,m<i→i+1<R.length→f (pt R i)<0
 one:m+1=R.length→f (pt R m)<0
theorem nrm_exists {P:List (Rat × Rat)} (h:Cvx P) (a b c:Rat) {i j:Nat} (hi:i<P.length) (hj:j<P.length) (fi:0<valP a b c (pt P i)) (fj:valP a b c (pt P j)<0) :
  ∃ s m,s<P.length∧Nrm (valP a b c) (rotL P s) m:=by
 obtain ⟨s,hs,h1,h2⟩:=turn_at (Q:=fun t=>0<valP a b c (pt P t)) hi hj fi (by grind)
 have hR:=h.rot (Nat.le_of_lt hs)
 have hl:=rotL_len P (Nat.le_of_lt hs)
 have h3:=h.1
 have e0:pt (rotL P s) 0=pt P s:=by
  rw [pt_rot P (Nat.le_of_lt hs) (by omega)]
  unfold rotI;rw [if_pos (by omega)];simp
 have el:pt (rotL P s) ((rotL P s).length-1)=pt P (prI P.length s):=by
  rw [hl,pt_rot P (Nat.le_of_lt hs) (by omega)]
  congr 1
  unfold rotI prI
  split <;> split <;> omega
 obtain ⟨t,ht,ft⟩ : ∃ t,t<P.length∧valP a b c (pt (rotL P s) t)<0:=by
  refine ⟨if s≤j then j-s else j+P.length-s,by split <;> omega,?_⟩
  rw [pt_rot P (Nat.le_of_lt hs) (by split <;> omega)]
  have:rotI P.length s (if s≤j then j-s else j+P.length-s)=j:=by
   unfold rotI
   split <;> split <;> omega
  rw [this]
  exact fj
 rw [←e0] at h1
 rw [←el] at h2
 clear e0 el
 refine ⟨s,?_⟩
 refine (fun (H:∃ m,Nrm (valP a b c) (rotL P s) m)=>?_) ?_
 ·obtain ⟨m,hm⟩:=H;exact ⟨m,hs,hm⟩
 generalize rotL P s=R at *
 obtain ⟨m,hm,m1,m2⟩:=first_of (Q:=fun t=>¬ 0<valP a b c (pt R t)) (R.length-1) h2
 have hm0:0<m:=by
  rcases Nat.eq_zero_or_pos m with e | e
  ·subst e;exact absurd h1 m1
  ·exact e
 have htri:=hR.tri
 have hin:∀ i,m<i→i+1<R.length→valP a b c (pt R i)<0:=fun i hi1 hi2=>by
  have e:=val_four a b c (pt R 0) (pt R m) (pt R i) (pt R (R.length-1))
  have c1:=htri m i (R.length-1) hi1 (by omega) (by omega)
  have c2:=htri 0 m (R.length-1) hm0 (by omega) (by omega)
  have c3:=htri 0 i (R.length-1) (by omega) (by omega) (by omega)
  have c4:=htri 0 m i hm0 hi1 (by omega)
  have d1:=Rat.mul_pos c1 h1
  have d3:=Rat.mul_nonneg (Rat.le_of_lt c3) (show 0 ≤ -valP a b c (pt R m) by grind)
  have d4:=Rat.mul_nonneg (Rat.le_of_lt c4) (show 0 ≤ -valP a b c (pt R (R.length-1)) by grind)
  have:crs (pt R 0) (pt R m) (pt R (R.length-1))*valP a b c (pt R i)<0:=by grind
  exact (mul_neg_iff c2).1 this
 refine ⟨m,hR,hm0,by omega,fun i hi=>Decidable.byContradiction (m2 i hi),fun i h4 h5=>?_,hin,fun hm1=>?_⟩
 ·rcases (show i=m∨(m<i∧i+1<R.length)∨i=R.length-1 by omega) with h6 | ⟨h6,h7⟩ | h6
  ·subst h6;grind
  ·exact Rat.le_of_lt (hin i h6 h7)
  ·subst h6;grind
 ·have:t=m:=by
   rcases (show t<m∨t=m by omega) with h6 | h6
   ·have:=Decidable.byContradiction (m2 t h6);grind
   ·exact h6
  rw [←this];exact ft
theorem split_last {R:List (Rat × Rat)} {m:Nat} (hm0:0<m) (hm:m≤R.length):R.take m=R.take (m-1) ++ [pt R (m-1)]:=by
 obtain ⟨k,rfl⟩ : ∃ k,m=k+1:=⟨m-1,by omega⟩
 rw [List.take_succ_eq_append_getElem (by omega),pt_eq (by omega)];rfl
theorem mem_pt {R:List (Rat × Rat)} {p:Rat × Rat} (h:p∈R):∃ i,i<R.length∧p=pt R i:=by
 obtain ⟨i,hi,rfl⟩:=List.mem_iff_getElem.1 h
 exact ⟨i,hi,(pt_eq hi).symm⟩
theorem pt_mem {R:List (Rat × Rat)} {i:Nat} (h:i<R.length):pt R i∈R:=by rw [pt_eq h];exact List.getElem_mem h
theorem mem_take_pt {R:List (Rat × Rat)} {m:Nat} {p:Rat × Rat} (h:p∈R.take m):∃ i,i<m∧i<R.length∧p=pt R i:=by
 obtain ⟨i,hi,rfl⟩:=List.mem_iff_getElem.1 h
 simp only [List.length_take] at hi
 exact ⟨i,by omega,by omega,by rw [pt_eq (by omega),List.getElem_take]⟩
theorem mem_drop_pt {R:List (Rat × Rat)} {m:Nat} {p:Rat × Rat} (h:p∈R.drop m):∃ i,m≤i∧i<R.length∧p=pt R i:=by
 obtain ⟨i,hi,rfl⟩:=List.mem_iff_getElem.1 h
 simp only [List.length_drop] at hi
 exact ⟨m+i,by omega,by omega,by rw [pt_eq (by omega),List.getElem_drop]⟩
theorem Nrm.clip {f:Rat × Rat→Rat} {R:List (Rat × Rat)} {m:Nat} (h:Nrm f R m) :
  clipL f R=R.take m ++ [cutP f (pt R (m-1)) (pt R m),cutP f (pt R (R.length-1)) (pt R 0)]:=by
 have hm0:=h.m0
 have hmn:=h.mn
 have eX:=split_last h.m0 (Nat.le_of_lt h.mn)
 have eY:R.drop m=(R.drop m).take (R.length-1-m) ++ [pt R (R.length-1)]:=by
  have e:=split_last (R:=R.drop m) (m:=R.length-m) (by omega) (by simp)
  rw [List.take_of_length_le (by simp)] at e
  rw [show R.length-1-m=R.length-m-1 by omega]
  have e2:pt (R.drop m) (R.length-m-1)=pt R (R.length-1):=by
   rw [pt_eq (by simp;omega),pt_eq (by omega),List.getElem_drop]
   congr 1;omega
  rw [e2] at e
  exact e
 have key:=clip_normal (f:=f) (pt R 0) (R.take (m-1)) (pt R (m-1)) (by
   rw [←eX];intro p hp
   obtain ⟨i,h1,_,rfl⟩:=mem_take_pt hp
   exact h.pos i h1) (by rw [←eX,List.head?_take,if_neg (by omega),List.head?_eq_getElem?,List.getElem?_eq_getElem (by omega),pt_eq (by omega)])
  (pt R m) ((R.drop m).take (R.length-1-m)) (pt R (R.length-1)) (by
   rw [←eY];intro p hp
   obtain ⟨i,h1,h2,rfl⟩:=mem_drop_pt hp
   exact h.neg i h1 h2) (by rw [←eY,List.head?_drop,List.getElem?_eq_getElem h.mn,pt_eq h.mn]) (by
   intro p hp
   rw [←List.drop_one,List.drop_take,List.drop_drop] at hp
   obtain ⟨i,h1,_,rfl⟩:=mem_take_pt hp
   simp only [List.length_drop] at *
   have e3:pt (R.drop (m+1)) i=pt R (m+1+i):=by rw [pt_eq (by simp;omega),pt_eq (by omega),List.getElem_drop]
   rw [e3]
   exact h.inn _ (by omega) (by omega)) (by
   intro he
   have:R.length-1-m=0:=by
    have:=congrArg List.length he
    simp at this
    omega
   have e4:R.length-1=m:=by omega
   rw [e4]
   exact h.one (by omega))
 rw [←eX,←eY,List.take_append_drop] at key
 exact key
theorem pt_clip {R:List (Rat × Rat)} {m:Nat} (hm:m≤R.length) (A B:Rat × Rat) {i:Nat} (hi:i<m+2):pt (R.take m ++ [A,B]) i=cutF (pt R) m A B i:=by
 have hl:(R.take m).length=m:=by simp;omega
 rw [pt_eq (by simp;omega)]
 unfold cutF
 by_cases h1:i<m
 ·rw [if_pos h1,List.getElem_append_left (by omega),List.getElem_take,pt_eq (by omega)]
 ·rw [if_neg h1,List.getElem_append_right (by omega)]
  simp only [hl]
  rcases (show i=m∨i=m+1 by omega) with h2 | h2
  ·subst h2;simp
  ·subst h2;simp
theorem Nrm.tri {f:Rat × Rat→Rat} {R:List (Rat × Rat)} {m:Nat} (h:Nrm f R m):Cvx (clipL f R):=by
 have hm0:=h.m0
 have hmn:=h.mn
 rw [h.clip]
 have hl:(R.take m ++ [cutP f (pt R (m-1)) (pt R m),cutP f (pt R (R.length-1)) (pt R 0)]).length=m+2:=by simp;omega
 obtain ⟨a1,a2,a3⟩:=share_pos (h.pos (m-1) (by omega)) (h.neg m (Nat.le_refl _) hmn)
 obtain ⟨b1,b2,b3⟩:=share_neg (h.neg (R.length-1) (by omega) (by omega)) (h.pos 0 hm0)
 refine cvx_of_tri (by rw [hl];omega) ?_
 rw [hl]
 intro i j k h1 h2 h3
 rw [pt_clip (by omega) _ _ (by omega),pt_clip (by omega) _ _ (by omega),pt_clip (by omega) _ _ (by omega)]
 refine h.cvx.tri.cut hm0 hmn h.cvx.1 a1 a2 b1 b2 (fun e=>⟨a3 (h.one e),b3 ?_⟩) i j k h1 h2 h3
 rw [show R.length-1=m by omega]
 exact h.one e
theorem clip_rot (f:Rat × Rat→Rat) (P:List (Rat × Rat)) {s:Nat} (hs:s<P.length):∃ t,t≤(clipL f P).length∧clipL f (rotL P s)=rotL (clipL f P) t:=by
 rcases Nat.eq_zero_or_pos s with e | e
 ·subst e
  exact ⟨0,Nat.zero_le _,by simp [rotL]⟩
 ·obtain ⟨x,X,hX⟩ : ∃ x X,P.take s=x :: X:=List.exists_cons_of_ne_nil (by intro h;have:=congrArg List.length h;simp only [List.length_take,List.length_nil] at this;omega)
  obtain ⟨y,Y,hY⟩ : ∃ x X,P.drop s=x :: X:=List.exists_cons_of_ne_nil (by intro h;have:=congrArg List.length h;simp at this;omega)
  have e1:clipL f P=pth (emit f) (x :: X ++ [y])++pth (emit f) (y :: Y ++ [x]):=by
   rw [←cyc_two,←hX,←hY,List.take_append_drop];rfl
  have e2:clipL f (rotL P s)=pth (emit f) (y :: Y ++ [x])++pth (emit f) (x :: X ++ [y]):=by
   rw [←cyc_two,←hX,←hY];rfl
  refine ⟨(pth (emit f) (x :: X ++ [y])).length,by rw [e1];simp,?_⟩
  rw [e1,e2]
  unfold rotL
  simp
theorem rot_back (P:List (Rat × Rat)) {s:Nat} (_:s≤P.length):rotL (rotL P s) (P.length-s)=P:=by
 unfold rotL
 have hl:(P.drop s).length=P.length-s:=by simp
 rw [←hl,List.drop_left,List.take_left,List.take_append_drop]
theorem clip_turned (f:Rat × Rat→Rat) (P:List (Rat × Rat)) {s:Nat} (hs:s<P.length):∃ t,t≤(clipL f (rotL P s)).length∧clipL f P=rotL (clipL f (rotL P s)) t:=by
 rcases Nat.eq_zero_or_pos s with e | e
 ·subst e
  exact ⟨0,Nat.zero_le _,by simp [rotL]⟩
 ·have hl:=rotL_len P (Nat.le_of_lt hs)
  obtain ⟨t,h1,h2⟩:=clip_rot f (rotL P s) (s:=P.length-s) (by omega)
  rw [rot_back P (Nat.le_of_lt hs)] at h2
  exact ⟨t,h1,h2⟩
theorem clip_all {f:Rat × Rat→Rat} {P:List (Rat × Rat)} (h:∀ p∈P,0≤f p):clipL f P=P:=by
 cases P with
 | nil=>rfl
 | cons p L =>
  show pth (emit f) (p :: L ++ [p])=_
  exact pth_pos f p (h p (by simp)) (p :: L) h
theorem clip_none {f:Rat × Rat→Rat} {P:List (Rat × Rat)} (h:∀ p∈P,f p≤0):clipL f P=P.filter (fun p=>decide (f p=0)):=by
 cases P with
 | nil=>rfl
 | cons p L =>
  show pth (emit f) (p :: L ++ [p])=_
  exact pth_neg f p (h p (by simp)) (p :: L) h
theorem Cvx.clip {P:List (Rat × Rat)} (h:Cvx P) (a b c:Rat) (hp:∃ p∈P,0<valP a b c p):Cvx (clipL (valP a b c) P):=by
 by_cases hn:∃ p∈P,valP a b c p<0
 ·obtain ⟨p,h1,h2⟩:=hp
  obtain ⟨q,h3,h4⟩:=hn
  obtain ⟨i,hi,rfl⟩:=mem_pt h1
  obtain ⟨j,hj,rfl⟩:=mem_pt h3
  obtain ⟨s,m,hs,hN⟩:=nrm_exists h a b c hi hj h2 h4
  obtain ⟨t,ht,e⟩:=clip_turned (valP a b c) P hs
  rw [e]
  exact hN.tri.rot ht
 ·rw [clip_all (fun p hp=>Decidable.byContradiction fun h0=>hn ⟨p,hp,by grind⟩)]
  exact h
theorem Cvx.on_line {P:List (Rat × Rat)} (h:Cvx P) (a b c:Rat) (hab:a≠0∨b≠0):(P.filter (fun p=>decide (valP a b c p=0))).length<3:=by
 apply Nat.lt_of_not_le
 intro h3
 have hsub:(P.filter (fun p=>decide (valP a b c p=0))).Sublist P:=List.filter_sublist
 have hz:∀ p∈P.filter (fun p=>decide (valP a b c p=0)),valP a b c p=0:=fun p hp=>by simpa using (List.mem_filter.1 hp).2
 generalize P.filter (fun p=>decide (valP a b c p=0))=Q at *
 obtain ⟨x,y,z,Q',rfl⟩ : ∃ x y z Q',Q=x :: y :: z :: Q':=by
  match Q,h3 with
  | x :: y :: z :: Q',_=>exact ⟨x,y,z,Q',rfl⟩
 have s3:[x,y,z].Sublist P:=List.Sublist.trans (by simp) hsub
 obtain ⟨is,his,hinc⟩:=List.sublist_eq_map_getElem s3
 match is,his,hinc with
 | [i,j,k],his,hinc =>
  simp only [List.map_cons,List.map_nil,List.cons.injEq,and_true] at his
  obtain ⟨rfl,rfl,rfl⟩:=his
  simp only [List.pairwise_cons,List.mem_cons,List.not_mem_nil,or_false,forall_eq_or_imp,forall_eq] at hinc
  have:=h.tri i.1 j.1 k.1 hinc.1.1 hinc.2.1 k.2
  rw [pt_eq i.2,pt_eq j.2,pt_eq k.2] at this
  have z1:=hz (P[i.1]'i.2) (by simp)
  have z2:=hz (P[j.1]'j.2) (by simp)
  have z3:=hz (P[k.1]'k.2) (by simp)
  generalize P[i.1]'i.2=x at *
  generalize P[j.1]'j.2=y at *
  generalize P[k.1]'k.2=z at *
  unfold valP at z1 z2 z3
  have e1:b*crs x y z=0:=by unfold crs;grind
  have e2:a*crs x y z=0:=by unfold crs;grind
  rcases hab with h0 | h0
  ·rcases Rat.mul_eq_zero.1 e2 with h1 | h1
   ·exact h0 h1
   ·rw [h1] at this;exact Rat.lt_irrefl this
  ·rcases Rat.mul_eq_zero.1 e1 with h1 | h1
   ·exact h0 h1
   ·rw [h1] at this;exact Rat.lt_irrefl this
theorem Cvx.clip_len {P:List (Rat × Rat)} (h:Cvx P) (a b c:Rat) (hab:a≠0∨b≠0):3≤(clipL (valP a b c) P).length↔∃ p∈P,0<valP a b c p:=by
 constructor
 ·intro h3
  apply Classical.byContradiction
  intro hn
  rw [clip_none (fun p hp=>Decidable.byContradiction fun h0=>hn ⟨p,hp,by grind⟩)] at h3
  exact absurd (h.on_line a b c hab) (by omega)
 ·intro hp
  exact (h.clip a b c hp).1
def det2 (p q:Rat × Rat):Rat:=p.1*q.2-p.2*q.1
def shoTo:List (Rat × Rat)→Rat
 | []=>0
 | [_]=>0
 | p :: q :: L=>det2 p q+shoTo (q :: L)
def shoe:List (Rat × Rat)→Rat
 | []=>0
 | p :: L=>shoTo (p :: (L ++ [p]))
theorem shoTo_app (a:Rat × Rat) (Y:List (Rat × Rat)):∀ X,shoTo (X++a :: Y)=shoTo (X ++ [a])+shoTo (a :: Y)
 | []=>by simp [shoTo,Rat.zero_add]
 | [x]=>by simp [shoTo,Rat.add_zero]
 | x :: y :: X=>by
  have:=shoTo_app a Y (y :: X)
  simp only [List.cons_append] at this ⊢
  simp only [shoTo,this,Rat.add_assoc]
theorem det_self (p:Rat × Rat):det2 p p=0:=by unfold det2;grind
theorem crs_det (a b c:Rat × Rat):crs a b c=det2 a b+det2 b c+det2 c a:=by unfold crs det2;grind
theorem areaTo_sho (P:List (Rat × Rat)):∀ k,k+2≤P.length→areaTo P k=shoTo (P.take (k+2))+det2 (pt P (k+1)) (pt P 0)
 | 0,h=>by
  obtain ⟨p,q,L,rfl⟩ : ∃ p q L,P=p :: q :: L:=by
   match P,h with
   | p :: q :: L,_=>exact ⟨p,q,L,rfl⟩
  simp [areaTo,shoTo,pt,det2]
  grind
 | k+1,h=>by
  have ih:=areaTo_sho P k (by omega)
  have e:P.take (k+1+2)=P.take (k+1)++pt P (k+1) :: [pt P (k+2)]:=by
   rw [List.take_succ_eq_append_getElem (show k+2<P.length by omega),List.take_succ_eq_append_getElem (show k+1<P.length by omega),List.append_assoc,pt_eq (by omega),pt_eq (by omega)];rfl
  have e2:P.take (k+2)=P.take (k+1) ++ [pt P (k+1)]:=by
   rw [List.take_succ_eq_append_getElem (show k+1<P.length by omega),pt_eq (by omega)]
  rw [e,shoTo_app,←e2]
  show areaTo P k+crs (pt P 0) (pt P (k+1)) (pt P (k+2))=_
  rw [ih,crs_det]
  simp only [shoTo]
  unfold det2
  grind
theorem shoe_eq (P:List (Rat × Rat)) (h:0<P.length):shoe P=shoTo P+det2 (pt P (P.length-1)) (pt P 0):=by
 cases P with
 | nil=>simp at h
 | cons p L =>
  have e:p :: L=(p :: L).take L.length ++ [pt (p :: L) L.length]:=by
   rw [pt_eq (by simp),←List.take_succ_eq_append_getElem,List.take_of_length_le (by simp)]
  have h2:=shoTo_app (pt (p :: L) L.length) [p] ((p :: L).take L.length)
  rw [List.append_cons,←e] at h2
  show shoTo (p :: L ++ [p])=_
  rw [h2]
  simp only [shoTo,List.length_cons,Nat.add_sub_cancel]
  rw [Rat.add_zero]
  rfl
theorem area_short {P:List (Rat × Rat)} (h:P.length<3):areaP P=0:=by
 unfold areaP
 rw [show P.length-2=0 by omega];rfl
theorem area_shoe (P:List (Rat × Rat)):areaP P=shoe P:=by
 by_cases h:3≤P.length
 ·rw [shoe_eq P (by omega)]
  unfold areaP
  rw [areaTo_sho P (P.length-2) (by omega),List.take_of_length_le (by omega),show P.length-2+1=P.length-1 by omega]
 ·rw [area_short (by omega)]
  match P,h with
  | [],_=>rfl
  | [p],_=>simp [shoe,shoTo,det_self,Rat.add_zero]
  | [p,q],_=>simp [shoe,shoTo,Rat.add_zero];unfold det2;grind
  | _ :: _ :: _ :: _,h=>simp at h
theorem shoe_two (x y:Rat × Rat) (X Y:List (Rat × Rat)):shoe (x :: X++y :: Y)=shoTo (x :: X ++ [y])+shoTo (y :: Y ++ [x]):=by
 show shoTo (x :: (X++y :: Y ++ [x]))=_
 rw [List.append_assoc]
 exact shoTo_app y (Y ++ [x]) (x :: X)
theorem shoe_rot (P:List (Rat × Rat)) (s:Nat):shoe (rotL P s)=shoe P:=by
 unfold rotL
 cases hX:P.take s with
 | nil =>
  have:=List.take_append_drop s P
  rw [hX] at this
  rw [List.append_nil]
  exact congrArg shoe this
 | cons x X =>
  cases hY:P.drop s with
  | nil =>
   have:=List.take_append_drop s P
   rw [hX,hY,List.append_nil] at this
   rw [List.nil_append]
   exact congrArg shoe this
  | cons y Y =>
   have:=List.take_append_drop s P
   rw [hX,hY] at this
   rw [←this,shoe_two,shoe_two,Rat.add_comm]
theorem area_rot (P:List (Rat × Rat)) (s:Nat):areaP (rotL P s)=areaP P:=by rw [area_shoe,area_shoe,shoe_rot]
theorem det_tow (p q:Rat × Rat) (k:Rat):det2 p (towP p q k)+det2 (towP p q k) q=det2 p q:=by unfold det2 towP;grind
theorem det_swap (p q:Rat × Rat):det2 p q+det2 q p=0:=by unfold det2;grind
theorem val_neg (a b c:Rat) (p:Rat × Rat):valP (-a) (-b) (-c) p = -valP a b c p:=by unfold valP;grind
theorem cut_neg {f g:Rat × Rat→Rat} (hg:∀ p,g p = -f p) (p q:Rat × Rat):cutP g p q=cutP f p q:=by
 unfold cutP
 congr 1
 rw [hg,hg,Rat.div_def,Rat.div_def]
 by_cases h:f p-f q=0
 ·rw [h,show -f p - -f q=0 by grind];grind
 ·have h1:(f p-f q)*(f p-f q)⁻¹=1:=Rat.mul_inv_cancel _ h
  have h2:(-f p - -f q)*(-f p - -f q)⁻¹=1:=Rat.mul_inv_cancel _ (by grind)
  have h3:(f p-f q)*((f p-f q)⁻¹+(-f p - -f q)⁻¹)=0:=by grind
  rcases Rat.mul_eq_zero.1 h3 with h4 | h4
  ·exact absurd h4 h
  ·grind
theorem clip_other {f g:Rat × Rat→Rat} (hg:∀ p,g p = -f p) (x0:Rat × Rat) (X:List (Rat × Rat)) (xl:Rat × Rat) (hX:∀ p∈X ++ [xl],0<f p) (hx0:(X ++ [xl]).head?=some x0)
  (y0:Rat × Rat) (Y:List (Rat × Rat)) (yl:Rat × Rat) (hY:∀ p∈Y ++ [yl],f p≤0) (hy0:(Y ++ [yl]).head?=some y0) :
  clipL g ((X ++ [xl])++(Y ++ [yl]))=(if f y0<0 then [cutP f xl y0] else [])++((Y ++ [yl])++(if f yl<0 then [cutP f yl x0] else [])):=by
 obtain ⟨X',hX'⟩ : ∃ X',X ++ [xl]=x0 :: X':=by
  cases h:X ++ [xl] with
  | nil=>simp at h
  | cons a b=>rw [h] at hx0;simp at hx0;exact ⟨b,by rw [hx0]⟩
 obtain ⟨Y',hY'⟩ : ∃ Y',Y ++ [yl]=y0 :: Y':=by
  cases h:Y ++ [yl] with
  | nil=>simp at h
  | cons a b=>rw [h] at hy0;simp at hy0;exact ⟨b,by rw [hy0]⟩
 unfold clipL
 rw [hX',hY',cyc_two,←hX',←hY']
 have fx0:0<f x0:=hX x0 (by rw [hX'];exact List.mem_cons_self ..)
 have fxl:0<f xl:=hX xl (by simp)
 have fy0:f y0≤0:=hY y0 (by rw [hY'];exact List.mem_cons_self ..)
 have fyl:f yl≤0:=hY yl (by simp)
 have e1:pth (emit g) (X ++ [xl] ++ [y0])=(if f y0<0 then [cutP f xl y0] else []):=by
  rw [List.append_assoc,show [xl] ++ [y0]=xl :: [y0] from rfl,pth_app,pth_neg g xl (by rw [hg];grind) X (fun p hp=>by rw [hg];have:=hX p (List.mem_append_left _ hp);grind)]
  have hF:X.filter (fun p=>decide (g p=0))=[]:=by
   rw [List.filter_eq_nil_iff]
   intro p hp
   have:=hX p (List.mem_append_left _ hp)
   have:¬ g p=0:=by rw [hg];grind
   simpa using this
  have h0:¬ 0≤g xl:=by rw [hg];grind
  have hm:g xl*g y0<0↔f y0<0:=by
   rw [hg,hg,show -f xl * -f y0=f xl*f y0 by grind];exact mul_neg_iff fxl
  rw [hF]
  simp only [pth,emit,hm,if_neg h0,List.append_nil,List.nil_append]
  rw [←cut_neg hg];rfl
 have e2:pth (emit g) (Y ++ [yl] ++ [x0])=Y ++ [yl]++(if f yl<0 then [cutP f yl x0] else []):=by
  rw [List.append_assoc,show [yl] ++ [x0]=yl :: [x0] from rfl,pth_app,pth_pos g yl (by rw [hg];grind) Y (fun p hp=>by rw [hg];have:=hY p (List.mem_append_left _ hp);grind)]
  have h0:0≤g yl:=by rw [hg];grind
  have hm:g yl*g x0<0↔f yl<0:=by
   rw [hg,hg,show -f yl * -f x0=f x0*f yl by grind];exact mul_neg_iff fx0
  simp only [pth,emit,hm,if_pos h0,List.append_nil,List.append_assoc]
  rw [←cut_neg hg];rfl
 rw [e1,e2]
theorem shoe_x (x0:Rat × Rat) (X:List (Rat × Rat)) (xl:Rat × Rat) (hx0:(X ++ [xl]).head?=some x0) (L:List (Rat × Rat)) :
  shoe ((X ++ [xl])++L)=shoTo (X ++ [xl])+shoTo (xl :: L ++ [x0]):=by
 cases X with
 | nil =>
  simp at hx0
  subst hx0
  show shoTo (xl :: (L ++ [xl]))=_
  simp [shoTo,Rat.zero_add]
 | cons x X =>
  simp at hx0
  subst hx0
  show shoTo (x :: (X ++ [xl]++L ++ [x]))=_
  have:=shoTo_app xl (L ++ [x]) (x :: X)
  simp only [List.cons_append,List.append_assoc,List.nil_append] at this ⊢
  exact this
theorem areas_split {f g:Rat × Rat→Rat} (hg:∀ p,g p = -f p) (x0:Rat × Rat) (X:List (Rat × Rat)) (xl:Rat × Rat) (hX:∀ p∈X ++ [xl],0<f p) (hx0:(X ++ [xl]).head?=some x0)
  (y0:Rat × Rat) (Y:List (Rat × Rat)) (yl:Rat × Rat) (hY:∀ p∈Y ++ [yl],f p≤0) (hy0:(Y ++ [yl]).head?=some y0) (hin:∀ p∈Y.tail,f p<0) (h1:Y=[]→f yl<0) :
  shoe (clipL f ((X ++ [xl])++(Y ++ [yl])))+shoe (clipL g ((X ++ [xl])++(Y ++ [yl])))=shoe ((X ++ [xl])++(Y ++ [yl])):=by
 have fxl:0<f xl:=hX xl (by simp)
 rw [clip_normal x0 X xl hX hx0 y0 Y yl hY hy0 hin h1,clip_other hg x0 X xl hX hx0 y0 Y yl hY hy0,shoe_x x0 X xl hx0,shoe_x x0 X xl hx0]
 have hYc:∃ Y',Y ++ [yl]=y0 :: Y':=by
  cases h:Y ++ [yl] with
  | nil=>simp at h
  | cons a b=>rw [h] at hy0;simp at hy0;exact ⟨b,by rw [hy0]⟩
 have eA:det2 xl (cutP f xl y0)+det2 (cutP f xl y0) y0=det2 xl y0:=det_tow _ _ _
 have eB:det2 yl (cutP f yl x0)+det2 (cutP f yl x0) x0=det2 yl x0:=det_tow _ _ _
 have hA:¬ f y0<0→cutP f xl y0=y0:=fun h=>cutP_end (by grind) (by
  have:=hY y0 (by obtain ⟨Y',e⟩:=hYc;rw [e];exact List.mem_cons_self ..)
  grind)
 have hB:¬ f yl<0→cutP f yl x0=yl:=fun h=>cutP_begin (by
  have:=hY yl (by simp)
  grind)
 generalize cutP f xl y0=A at *
 generalize cutP f yl x0=B at *
 have e1:shoTo (xl :: [A,B] ++ [x0])=det2 xl A+(det2 A B+det2 B x0):=by
  simp [shoTo,Rat.add_zero]
 have e2:shoTo (xl :: (Y ++ [yl]) ++ [x0])=det2 xl y0+(shoTo (Y ++ [yl])+det2 yl x0):=by
  obtain ⟨Y',e⟩:=hYc
  have h2:=shoTo_app yl [x0] Y
  have h3:shoTo (xl :: (Y ++ [yl]) ++ [x0])=det2 xl y0+shoTo (Y ++ [yl] ++ [x0]):=by rw [e];rfl
  rw [h3,List.append_assoc,show [yl] ++ [x0]=yl :: [x0] from rfl,h2]
  simp [shoTo,Rat.add_zero]
 have e3:shoe ((if f y0<0 then [A] else [])++((Y ++ [yl])++(if f yl<0 then [B] else [])))=det2 A y0+(shoTo (Y ++ [yl])+(det2 yl B+det2 B A)):=by
  have cl:∀ L z,shoTo (Y ++ [yl]++(L ++ [z]))=shoTo (Y ++ [yl])+shoTo (yl :: L ++ [z]):=fun L z=>by
   have:=shoTo_app yl (L ++ [z]) Y
   simp only [List.append_assoc,List.cons_append,List.nil_append] at this ⊢
   exact this
  have hy:∀ L,shoe (Y ++ [yl]++L)=shoTo (Y ++ [yl])+shoTo (yl :: L ++ [y0]):=fun L=>shoe_x y0 Y yl hy0 L
  have hAy:∀ L,shoe ([A]++(Y ++ [yl]++L))=det2 A y0+(shoTo (Y ++ [yl])+shoTo (yl :: L ++ [A])):=fun L=>by
   rw [←cl]
   obtain ⟨Y',e⟩:=hYc
   rw [e]
   simp [shoe,shoTo]
  by_cases c1:f y0<0
  ·rw [if_pos c1,hAy]
   by_cases c2:f yl<0
   ·rw [if_pos c2];simp [shoTo,Rat.add_zero]
   ·rw [if_neg c2,hB c2];simp [shoTo,Rat.add_zero,det_self,Rat.zero_add]
  ·rw [if_neg c1,List.nil_append,hy,hA c1]
   by_cases c2:f yl<0
   ·rw [if_pos c2];simp [shoTo,Rat.add_zero,det_self,Rat.zero_add]
   ·rw [if_neg c2,hB c2];simp [shoTo,Rat.add_zero,det_self,Rat.zero_add]
 rw [e1,e2,e3]
 have:=det_swap A B
 grind
end Go.Proofs.YtogdahbbogimcaaGreatDoor
