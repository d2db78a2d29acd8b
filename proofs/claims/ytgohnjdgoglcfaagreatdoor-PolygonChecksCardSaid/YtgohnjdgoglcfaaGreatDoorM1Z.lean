import Derived.Test.YtgohnjdgoglcfaaGreatDoorV4Z
namespace Go.Proofs.YtgohnjdgoglcfaaGreatDoor
def Bd (M C:Nat) (q:Rat):Prop:=∃ c,0<c∧c≤C∧Fd M c q
theorem Bd.mono {M C M' C':Nat} {q:Rat} (h:Bd M C q) (h1:M≤M') (h2:C≤C'):Bd M' C' q:=by
 obtain ⟨c,a,b,d⟩:=h
 exact ⟨c,a,by omega,d.mono h1⟩
theorem Bd.own {M C:Nat} {q:Rat} (h:q.num.natAbs≤M∧q.den≤C):Bd M C q:=⟨q.den,q.den_pos,h.2,(Fd.own q).mono h.1⟩
theorem Bd.two {M C M' C':Nat} {p q:Rat} (h:Bd M C p) (k:Bd M' C' q):∃ c,0<c∧c≤C*C'∧Fd (M*C') c p∧Fd (M'*C) c q:=by
 obtain ⟨c,a,b,d⟩:=h
 obtain ⟨c',a',b',d'⟩:=k
 exact ⟨c*c',Nat.mul_pos a a',Nat.mul_le_mul b b',d.wide b',d'.wide' b⟩
theorem Bd.add {M C M' C':Nat} {p q:Rat} (h:Bd M C p) (k:Bd M' C' q):Bd (M*C'+M'*C) (C*C') (p+q):=by
 obtain ⟨c,a,b,d,e⟩:=h.two k
 exact ⟨c,a,b,d.add e⟩
theorem Bd.sub {M C M' C':Nat} {p q:Rat} (h:Bd M C p) (k:Bd M' C' q):Bd (M*C'+M'*C) (C*C') (p-q):=by
 obtain ⟨c,a,b,d,e⟩:=h.two k
 exact ⟨c,a,b,d.sub e⟩
theorem Bd.mul {M C M' C':Nat} {p q:Rat} (h:Bd M C p) (k:Bd M' C' q):Bd (M*M') (C*C') (p*q):=by
 obtain ⟨c,a,b,d⟩:=h
 obtain ⟨c',a',b',d'⟩:=k
 exact ⟨c*c',Nat.mul_pos a a',Nat.mul_le_mul b b',d.mul d'⟩
theorem Bd.quot {M C M' C':Nat} {x p q:Rat} (h:Bd M C p) (k:Bd M' C' q) (h0:q≠0) (e:x*q=p):x.num.natAbs≤M*C'∧x.den≤M'*C:=by
 obtain ⟨c,a,b,d,g⟩:=h.two k
 have:=d.quot g a h0
 rwa [←e,Rat.mul_assoc,Rat.mul_inv_cancel _ h0,Rat.mul_one] at this
structure LnB (l:Rat × Rat × Rat):Prop where
 a:Bd (2 ^ 24) (2 ^ 16) l.1
 b:Bd (2 ^ 24) (2 ^ 16) l.2.1
 c:Bd (2 ^ 64) (2 ^ 48) l.2.2
theorem LnB.of {p q:QP} (hp:(p.1.num.natAbs≤32768∧p.1.den≤256)∧(p.2.num.natAbs≤32768∧p.2.den≤256)) (hq:(q.1.num.natAbs≤32768∧q.1.den≤256)∧(q.2.num.natAbs≤32768∧q.2.den≤256)):LnB (sideL p q):=by
 have h1:=((Bd.own hp.2).sub (Bd.own hq.2)).mono (show _≤2 ^ 24 by decide) (show _≤2 ^ 16 by decide)
 have h2:=((Bd.own hq.1).sub (Bd.own hp.1)).mono (show _≤2 ^ 24 by decide) (show _≤2 ^ 16 by decide)
 refine ⟨h1,h2,?_⟩
 have h3:=((h1.mul (Bd.own hp.1)).add (h2.mul (Bd.own hp.2))).mono (show _≤2 ^ 64 by decide) (show _≤2 ^ 48 by decide)
 show Bd _ _ (valP _ _ _ _)
 unfold valP
 rwa [show ∀ x:Rat,x-0=x from fun _=>by grind]
theorem LnB.meet {l m:Rat × Rat × Rat} (hl:LnB l) (hm:LnB m) {p:QP} (h0:l.1*m.2.1-m.1*l.2.1≠0) (h1:p.1*(l.1*m.2.1-m.1*l.2.1)=l.2.2*m.2.1-m.2.2*l.2.1) (h2:p.2*(l.1*m.2.1-m.1*l.2.1)=l.1*m.2.2-m.1*l.2.2):OkB p.1∧OkB p.2:=by
 have hd:=((hl.a.mul hm.b).sub (hm.a.mul hl.b)).mono (show _≤2 ^ 81 by decide) (show _≤2 ^ 64 by decide)
 have hx:=((hl.c.mul hm.b).sub (hm.c.mul hl.b)).mono (show _≤2 ^ 153 by decide) (show _≤2 ^ 128 by decide)
 have hy:=((hl.a.mul hm.c).sub (hm.a.mul hl.c)).mono (show _≤2 ^ 153 by decide) (show _≤2 ^ 128 by decide)
 exact ⟨ok_nat (hx.quot hd h0 h1) (by decide) (by decide),ok_nat (hy.quot hd h0 h2) (by decide) (by decide)⟩
theorem Drf.lines {P:List QP} (h:Drf P):∀ l∈sidesL P,LnB l∧(l.1≠0∨l.2.1≠0):=fun l hl=>by
 obtain ⟨i,hi,rfl⟩:=List.mem_map.1 hl
 have hi:=List.mem_range.1 hi
 exact ⟨.of (h.corner hi) (h.corner (nxI_lt (by omega))),side_ne h.poly.1 hi⟩
theorem Meet.ok {P Q out:List QP} {k:Nat} (h:Meet P Q k out) (hP:Drf P) (hQ:Drf Q):∀ p∈out,OkB p.1∧OkB p.2:=fun p hp=>by
 have hl:∀ l∈sidesL P++sidesL Q,LnB l∧(l.1≠0∨l.2.1≠0):=fun l hl=>(List.mem_append.1 hl).elim (hP.lines l) (hQ.lines l)
 obtain ⟨l,h1,m,h2,h0,hx,hy⟩:=h.cvx.corner h.onl (fun l g=>(hl l g).2) hp
 exact (hl l h1).1.meet (hl m h2).1 h0 hx hy
theorem Meet.le {P Q out:List QP} {k:Nat} (h:Meet P Q k out) (hP:Drf P) (hQ:Drf Q) (hk:k≤Q.length):3≤out.length∧out.length≤16:=by
 have h1:=h.len
 have h2:=hP.le8
 have h3:=hQ.le8
 exact ⟨h.cvx.1,by omega⟩
abbrev sdF (Q:List QP) (k:Nat):QP→Rat:=crs (pt Q k) (pt Q (nxI Q.length k))
theorem sdF_val (Q:List QP) (k:Nat):sdF Q k=valP (sideL (pt Q k) (pt Q (nxI Q.length k))).1 (sideL (pt Q k) (pt Q (nxI Q.length k))).2.1 (sideL (pt Q k) (pt Q (nxI Q.length k))).2.2:=funext fun _=>(sideL_val _ _ _).symm
theorem Meet.three {P Q out:List QP} {k:Nat} (h:Meet P Q k out) (hQ:Cvx Q) (hk:k<Q.length):3≤(clipL (sdF Q k) out).length↔∃ p∈out,0<sdF Q k p:=by
 rw [sdF_val]
 exact h.cvx.clip_len _ _ _ (side_ne hQ hk)
def RMeet (P Q:List QP) (k:Nat) (O:List QP):Prop:=(O=[]∧¬ ∃ x,InS P x∧InS Q x)∨(Meet P Q k O∧LeastAt O 0)
theorem RMeet.zero {P:List QP} (Q:List QP) (h:Poly P):RMeet P Q 0 P:=.inr ⟨.zero Q h.1,h.least⟩
theorem rot_zero (P:List QP):rotL P 0=P:=by unfold rotL;simp
theorem RMeet.none {P Q O:List QP} {k:Nat} (h:RMeet P Q k O) (h0:O.length≠0) (hQ:Cvx Q) (hk:k<Q.length) (h3:(clipL (sdF Q k) O).length<3):RMeet P Q (k+1) []:=by
 rcases h with ⟨rfl,_⟩ | ⟨h,_⟩
 ·exact absurd rfl h0
 ·exact .inl ⟨rfl,h.stop hQ hk fun g=>by have:=(h.three hQ hk).2 g;omega⟩
theorem RMeet.some {P Q O:List QP} {k t:Nat} (h:RMeet P Q k O) (h0:O.length≠0) (hQ:Cvx Q) (hk:k<Q.length) (h3:¬ (clipL (sdF Q k) O).length<3) (ht:LeastAt (clipL (sdF Q k) O) t):RMeet P Q (k+1) (rotL (clipL (sdF Q k) O) t):=by
 rcases h with ⟨rfl,_⟩ | ⟨h,_⟩
 ·exact absurd rfl h0
 ·have g:=h.next hQ hk ((h.three hQ hk).1 (by omega))
  exact .inr ⟨g.rot (Nat.le_of_lt ht.1),(g.cvx.begin_at ht).least⟩
theorem RMeet.all {P Q O:List QP} {k:Nat} (h:RMeet P Q k O) (hk:O.length=0∨k=Q.length):Common P Q O:=by
 rcases h with h | ⟨h,hl⟩
 ·exact .inl h
 ·rcases hk with hk | rfl
  ·have:=h.cvx.1
   omega
  ·have:=h.all hl
   rwa [rot_zero] at this
theorem RMeet.ok {P Q O:List QP} {k:Nat} (h:RMeet P Q k O) (hP:Drf P) (hQ:Drf Q):∀ p∈O,OkB p.1∧OkB p.2:=by
 rcases h with ⟨rfl,_⟩ | ⟨h,_⟩
 ·exact fun p hp=>nomatch hp
 ·exact h.ok hP hQ
theorem RMeet.len {P Q O:List QP} {k:Nat} (h:RMeet P Q k O) (hP:Drf P) (hQ:Drf Q) (hk:k≤Q.length):(O.length=0∨3≤O.length)∧O.length≤16:=by
 rcases h with ⟨rfl,_⟩ | ⟨h,_⟩
 ·exact ⟨.inl rfl,by decide⟩
 ·have:=h.le hP hQ hk
  exact ⟨.inr this.1,this.2⟩
theorem Common.len {P Q R:List QP} (h:Common P Q R):R.length=0∨3≤R.length:=by
 rcases h with ⟨rfl,_⟩ | ⟨h,_⟩
 ·exact .inl rfl
 ·exact .inr h.1.1
end Go.Proofs.YtgohnjdgoglcfaaGreatDoor
