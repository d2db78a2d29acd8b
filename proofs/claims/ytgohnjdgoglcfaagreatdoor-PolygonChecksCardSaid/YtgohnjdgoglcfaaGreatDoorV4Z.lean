import Derived.Test.YtgohnjdgoglcfaaGreatDoorBxZ
import Derived.Test.YtgohnjdgoglcfaaGreatDoorT13Z
namespace Go.Proofs.YtgohnjdgoglcfaaGreatDoor
structure Drf (P:List QP):Prop where
 poly:Poly P
 le8:P.length≤8
 small:∀ p∈P,(p.1.num.natAbs≤32768∧p.1.den≤256)∧(p.2.num.natAbs≤32768∧p.2.den≤256)
theorem ok_nat {q:Rat} {N D:Nat} (h:q.num.natAbs≤N∧q.den≤D) (h1:N<10 ^ 200) (h2:D<10 ^ 200):OkB q:=okB_of h h1 h2
theorem Drf.ok {P:List QP} (h:Drf P):∀ p∈P,OkB p.1∧OkB p.2:=fun p hp =>
 ⟨ok_nat (h.small p hp).1 (by decide) (by decide),ok_nat (h.small p hp).2 (by decide) (by decide)⟩
theorem Drf.fc {P:List QP} (h:Drf P):∃ Nx Ny,0<Nx∧0<Ny∧Nx≤256 ^ 8∧Ny≤256 ^ 8∧∀ p∈P,FcP 32768 Nx Ny p:=by
 have hp8:256 ^ P.length≤256 ^ 8:=Nat.pow_le_pow_right (by decide) h.le8
 refine ⟨dens (P.map (·.1)),dens (P.map (·.2)),dens_pos _,dens_pos _,?_,?_,fun p hp=>⟨?_,?_⟩⟩
 ·refine Nat.le_trans (dens_le (d:=256) _ fun q hq=>?_) (by rw [List.length_map];exact hp8)
  obtain ⟨p,hp,rfl⟩:=List.mem_map.1 hq
  exact (h.small p hp).1.2
 ·refine Nat.le_trans (dens_le (d:=256) _ fun q hq=>?_) (by rw [List.length_map];exact hp8)
  obtain ⟨p,hp,rfl⟩:=List.mem_map.1 hq
  exact (h.small p hp).2.2
 ·refine fc_dens _ (fun q hq=>?_) _ (List.mem_map_of_mem hp)
  obtain ⟨p,hp,rfl⟩:=List.mem_map.1 hq
  exact (h.small p hp).1.1
 ·refine fc_dens _ (fun q hq=>?_) _ (List.mem_map_of_mem hp)
  obtain ⟨p,hp,rfl⟩:=List.mem_map.1 hq
  exact (h.small p hp).2.1
theorem fc_ok {n c C:Nat} {q:Rat} (h:Fc n c q) (hc:0<c) (hC:c≤C) (h1:n*C<10 ^ 200) (h2:C<10 ^ 200):OkB q:=by
 obtain ⟨a,b⟩:=h.parts hc
 exact ok_nat ⟨Nat.le_trans a (Nat.mul_le_mul_left n hC),Nat.le_trans b hC⟩ h1 h2
theorem Drf.areas {P:List QP} (h:Drf P):∀ k,k+2≤P.length→OkB (areaTo P k):=fun k hk=>by
 obtain ⟨Nx,Ny,h1,h2,h3,h4,h5⟩:=h.fc
 have h8:=h.le8
 exact fc_ok ((fc_areaTo h5 k hk).mono (show _≤8*32768*32768*8 by exact Nat.mul_le_mul_left _ (by omega))) (Nat.mul_pos h1 h2) (Nat.mul_le_mul h3 h4) (by decide) (by decide)
theorem Drf.cenX {P:List QP} (h:Drf P):∀ k,k+2≤P.length→OkB (cenXTo P k):=fun k hk=>by
 obtain ⟨Nx,Ny,h1,h2,h3,h4,h5⟩:=h.fc
 have h8:=h.le8
 exact fc_ok ((fc_cenXTo h5 k hk).mono (show _≤24*32768*32768*32768*8 by exact Nat.mul_le_mul_left _ (by omega))) (Nat.mul_pos (Nat.mul_pos h1 h2) h1) (Nat.mul_le_mul (Nat.mul_le_mul h3 h4) h3) (by decide) (by decide)
theorem Drf.cenY {P:List QP} (h:Drf P):∀ k,k+2≤P.length→OkB (cenYTo P k):=fun k hk=>by
 obtain ⟨Nx,Ny,h1,h2,h3,h4,h5⟩:=h.fc
 have h8:=h.le8
 exact fc_ok ((fc_cenYTo h5 k hk).mono (show _≤24*32768*32768*32768*8 by exact Nat.mul_le_mul_left _ (by omega))) (Nat.mul_pos (Nat.mul_pos h1 h2) h2) (Nat.mul_le_mul (Nat.mul_le_mul h3 h4) h4) (by decide) (by decide)
theorem Drf.whole {P:List QP} (h:Drf P):OkB (areaP P):=h.areas _ (by have:=h.poly.1.1;omega)
theorem Drf.cens {P:List QP} (h:Drf P):OkB (cenP P).1∧OkB (cenP P).2:=by
 obtain ⟨Nx,Ny,h1,h2,h3,h4,h5⟩:=h.fc
 have h8:=h.le8
 have h3':=h.poly.1.1
 have hA:=h.poly.1.area_pos
 have hk:P.length-2+2≤P.length:=by omega
 have a1:=(fc_areaTo h5 _ hk).mono (show _≤8*32768*32768*8 by exact Nat.mul_le_mul_left _ (by omega))
 have a3:Fc (3*(8*32768*32768*8)) (Nx*Ny) (3*areaP P):=by
  have:=(Fc.int (n:=3) (a:=3) (by decide)).mul a1
  rw [Nat.one_mul] at this
  exact this
 have hne:(3:Rat)*areaP P≠0:=fun e=>by grind
 have hN:=Nat.mul_le_mul h3 h4
 constructor
 ·have x1:=(fc_cenXTo h5 _ hk).mono (show _≤24*32768*32768*32768*8 by exact Nat.mul_le_mul_left _ (by omega))
  obtain ⟨b1,b2⟩:=Fc.quot x1 a3 (Nat.mul_pos h1 h2) h1 hne
  have c1:=Nat.mul_le_mul hN h3
  refine ok_nat (N:=24*32768*32768*32768*8*(256 ^ 8*256 ^ 8*256 ^ 8)) (D:=3*(8*32768*32768*8)*(256 ^ 8*256 ^ 8)*256 ^ 8) ⟨Nat.le_trans b1 (Nat.mul_le_mul_left _ c1),Nat.le_trans b2 (Nat.mul_le_mul (Nat.mul_le_mul_left _ hN) h3)⟩ (by decide) (by decide)
 ·have y1:=(fc_cenYTo h5 _ hk).mono (show _≤24*32768*32768*32768*8 by exact Nat.mul_le_mul_left _ (by omega))
  obtain ⟨b1,b2⟩:=Fc.quot y1 a3 (Nat.mul_pos h1 h2) h2 hne
  have c1:=Nat.mul_le_mul hN h4
  refine ok_nat (N:=24*32768*32768*32768*8*(256 ^ 8*256 ^ 8*256 ^ 8)) (D:=3*(8*32768*32768*8)*(256 ^ 8*256 ^ 8)*256 ^ 8) ⟨Nat.le_trans b1 (Nat.mul_le_mul_left _ c1),Nat.le_trans b2 (Nat.mul_le_mul (Nat.mul_le_mul_left _ hN) h4)⟩ (by decide) (by decide)
def Sh (q:Rat):Prop:=q.num.natAbs≤10 ^ 40∧q.den≤10 ^ 40
theorem Sh.of_size {q:Rat} (h:Sz 40 q):Sh q:=by
 have h1:=(iz_num h).lt
 have h2:=(iz_den h).lt
 exact ⟨by omega,by omega⟩
theorem Drf.corner {P:List QP} (h:Drf P) {i:Nat} (hi:i<P.length):((pt P i).1.num.natAbs≤32768∧(pt P i).1.den≤256)∧((pt P i).2.num.natAbs≤32768∧(pt P i).2.den≤256):=h.small _ (pt_mem hi)
theorem Drf.share {P:List QP} (h:Drf P) {a b:QP} (ha1:Sh a.1) (ha2:Sh a.2) (hb1:Sh b.1) (hb2:Sh b.2):∀ k,k<P.length→OkB (sdK P a b k):=fun k hk=>by
 have hp:=h.corner hk
 have hq:=h.corner (nxI_lt (n:=P.length) (i:=k) (by omega))
 obtain ⟨ex,x0,x1,xp,xq⟩:=fd_two hp.1.1 hq.1.1 hp.1.2 hq.1.2
 obtain ⟨ey,y0,y1,yp,yq⟩:=fd_two hp.2.1 hq.2.1 hp.2.2 hq.2.2
 obtain ⟨cx,u0,u1,ua,ub⟩:=fd_two ha1.1 hb1.1 ha1.2 hb1.2
 obtain ⟨cy,v0,v1,va,vb⟩:=fd_two ha2.1 hb2.1 ha2.2 hb2.2
 have ka:=fd_crs xp xq yp yq ua va x1 y1 u1 v1
 have kb:=fd_crs xp xq yp yq ub vb x1 y1 u1 v1
 have hC:0<ex*(cy*ey)*(ey*(cx*ex)):=Nat.mul_pos (Nat.mul_pos x0 (Nat.mul_pos v0 y0)) (Nat.mul_pos y0 (Nat.mul_pos u0 x0))
 unfold sdK
 by_cases hne:sdU P a k-sdU P b k=0
 ·rw [hne,Rat.inv_zero,Rat.mul_zero]
  exact ok_nat (N:=0) (D:=1) ⟨by decide,by decide⟩ (by decide) (by decide)
 ·exact ok_nat (ka.quot (ka.sub kb) hC hne) (by decide) (by decide)
theorem Drf.lo {P:List QP} (h:Drf P) {a b:QP} (ha1:Sh a.1) (ha2:Sh a.2) (hb1:Sh b.1) (hb2:Sh b.2):∀ k,k≤P.length→OkB (loP P a b k)
 | 0,_=>show OkB 0 from ok_nat (N:=0) (D:=1) ⟨by decide,by decide⟩ (by decide) (by decide)
 | k+1,hk=>by
  unfold loP
  split
  ·exact h.share ha1 ha2 hb1 hb2 k hk
  ·exact h.lo ha1 ha2 hb1 hb2 k (by omega)
theorem Drf.hi {P:List QP} (h:Drf P) {a b:QP} (ha1:Sh a.1) (ha2:Sh a.2) (hb1:Sh b.1) (hb2:Sh b.2):∀ k,k≤P.length→OkB (hiP P a b k)
 | 0,_=>show OkB 1 from ok_nat (N:=1) (D:=1) ⟨by decide,by decide⟩ (by decide) (by decide)
 | k+1,hk=>by
  unfold hiP
  split
  ·exact h.share ha1 ha2 hb1 hb2 k hk
  ·exact h.hi ha1 ha2 hb1 hb2 k (by omega)
theorem cyc_mem {f:QP→Rat} {P:List QP} {q:QP}:∀ k,k≤P.length→q∈cycTo (emit f) P k→q∈P∨∃ i,i<P.length∧f (pt P i)*f (pt P (nxI P.length i))<0∧q=towP (pt P i) (pt P (nxI P.length i)) (f (pt P i)/(f (pt P i)-f (pt P (nxI P.length i))))
 | 0,_,h=>by cases h
 | k+1,hk,h=>by
  unfold cycTo at h
  rcases List.mem_append.1 h with h | h
  ·exact cyc_mem k (by omega) h
  ·unfold emit at h
   rcases List.mem_append.1 h with h | h
   ·split at h
    ·rw [List.mem_singleton.1 h];exact .inl (pt_mem hk)
    ·cases h
   ·split at h
    ·rename_i hc
     rw [List.mem_singleton.1 h]
     exact .inr ⟨k,hk,hc,rfl⟩
    ·cases h
theorem clip_mem {f:QP→Rat} {P:List QP} {q:QP} (h:q∈clipL f P):q∈P∨∃ i,i<P.length∧f (pt P i)*f (pt P (nxI P.length i))<0∧q=towP (pt P i) (pt P (nxI P.length i)) (f (pt P i)/(f (pt P i)-f (pt P (nxI P.length i)))):=by
 unfold clipL at h
 rw [←cycTo_all] at h
 exact cyc_mem _ (Nat.le_refl _) h
theorem Drf.clip {P:List QP} (h:Drf P) {a b c:Rat} (ha:Sh a) (hb:Sh b) (hc:Sh c) {f:QP→Rat} (hf:∀ p,f p=valP a b c p):∀ q∈clipL f P,OkB q.1∧OkB q.2:=fun q hq=>by
 rcases clip_mem hq with hq | ⟨i,hi,hneg,rfl⟩
 ·exact h.ok q hq
 ·have hp:=h.corner hi
  have hq:=h.corner (nxI_lt (n:=P.length) (i:=i) (by omega))
  rw [hf,hf] at hneg ⊢
  obtain ⟨ex,x0,x1,xp,xq⟩:=fd_two hp.1.1 hq.1.1 hp.1.2 hq.1.2
  obtain ⟨ey,y0,y1,yp,yq⟩:=fd_two hp.2.1 hq.2.1 hp.2.2 hq.2.2
  have ka:=fd_val xp yp ((Fd.own a).mono ha.1) ((Fd.own b).mono hb.1) ((Fd.own c).mono hc.1) x1 y1 ha.2 hb.2 hc.2
  have kb:=fd_val xq yq ((Fd.own a).mono ha.1) ((Fd.own b).mono hb.1) ((Fd.own c).mono hc.1) x1 y1 ha.2 hb.2 hc.2
  have hC:0<a.den*ex*(b.den*ey)*c.den:=Nat.mul_pos (Nat.mul_pos (Nat.mul_pos a.den_pos x0) (Nat.mul_pos b.den_pos y0)) c.den_pos
  generalize valP a b c (pt P i)=u at *
  generalize valP a b c (pt P (nxI P.length i))=v at *
  have hne:u-v≠0:=fun e=>by
   have e':u=v:=by grind
   rw [e'] at hneg
   have:=sq_nn v
   grind
  unfold towP
  exact ⟨ok_nat (fd_cut xp xq ka kb x1 x0 hC hne) (by decide) (by decide),ok_nat (fd_cut yp yq ka kb y1 y0 hC hne) (by decide) (by decide)⟩
end Go.Proofs.YtgohnjdgoglcfaaGreatDoor
