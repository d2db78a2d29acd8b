import Derived.Test.YtglncfkoohgdaaaGreatDoorG61R
import Derived.Test.YtglncfkoohgdaaaGreatDoorG20R
namespace Go.Proofs.YtglncfkoohgdaaaGreatDoor
theorem ajd {c:Nat} (m:Int):Fc m.natAbs c (m:Rat):=by
 have h:=(Fc.int (Nat.le_refl m.natAbs)).wide c
 rwa [Nat.one_mul] at h
structure SqS (x X Y:Rat):Prop where
 lt:X<x∧x<Y
 a:bM (x-X)
 b:bM (Y-X)
 c:bM ((x-X)*(Y-X)⁻¹)
 d:bM (x-Y)
 e:bM (X-Y)
 f:bM ((x-Y)*(X-Y)⁻¹)
theorem ah6 {x X Y y:Rat} (h:SqS x X Y) (hy:bM y):CrS x (X,y) (Y,y)∧CrS x (Y,y) (X,y):=by
 have e0:y-y=0:=Rat.sub_self
 have z:bM 0:=by unfold bM;decide
 unfold CrS zf
 dsimp only
 rw [e0,Rat.mul_zero,Rat.mul_zero,Rat.add_zero]
 exact ⟨⟨h.a,h.b,h.c,z,z,hy⟩,h.d,h.e,h.f,z,z,hy⟩
theorem ahX {a x:Rat}:¬ dx a x*dx a x<0:=by
 rcases oZ a x with h | h | h <;> rw [h] <;> decide
theorem aii {x X Y:Rat} (h:X<x∧x<Y):dx X x*dx Y x<0∧dx Y x*dx X x<0∧X≠x∧Y≠x:=by
 have h1:=(jV (p:=X) (q:=x)).2 h.1
 have h2:=(qM (p:=Y) (q:=x)).2 h.2
 rcases oZ X x with e | e | e <;> rcases oZ Y x with e2 | e2 | e2 <;> rw [e] at h1 <;> rw [e2] at h2 <;> first | exact absurd h1 (by decide) | exact absurd h2 (by decide) | skip
 rw [e,e2]
 exact ⟨by decide,by decide,by grind,by grind⟩
structure ah7 (P:bQ) (L:List Iv):Prop where
 t:Thr P L
 log:Cx L∧L.length≤8
 iv:∀ i,i<L.length→H2 64 (ah L i).a∧H2 64 (ah L i).b
 cs:H2 16 P.cs.ch∧H2 16 P.cs.mi∧H2 16 P.cs.ga∧H2 16 P.cs.re
 nn:0≤P.cs.re
theorem Thr.xk {P:bQ} {L:List Iv} (h:Thr P L):cZ P 0=0∧cZ P 1=1∧cZ P 2=3:=by unfold cZ;rw [h.xs];exact ⟨rfl,rfl,rfl⟩
theorem Thr.tk {P:bQ} {L:List Iv} (h:Thr P L):∀ k,k<3→bG P k=5:=fun k hk=>by
 unfold bG
 rw [h.tp]
 rcases (show k=0∨k=1∨k=2 by omega) with rfl | rfl | rfl <;> rfl
theorem Thr.len {P:bQ} {L:List Iv} (h:Thr P L):P.lg.length=3:=by rw [h.lg];rfl
theorem ah7.ok {P:bQ} {L:List Iv} (h:ah7 P L):dm P:=by
 have hl:=h.t.len
 obtain ⟨x0,x1,x2⟩:=h.t.xk
 have c3:∀ (Q:Nat→Prop),Q 0→Q 1→Q 2→∀ k,k<3→Q k:=fun Q a b c k hk=>by
  rcases (show k=0∨k=1∨k=2 by omega) with rfl | rfl | rfl <;> assumption
 refine ⟨by omega,by omega,by rw [hl,h.t.xs];rfl,by rw [hl,h.t.tp];rfl,fun k hk=>?_,fun k i hk hi=>?_,fun k hk=>?_,fun k hk=>?_,fun k hk=>?_,h.cs,⟨Rat.le_of_lt h.t.own.ch,Rat.le_of_lt h.t.own.mi,Rat.le_of_lt h.t.own.ga,h.nn⟩⟩
 ·rw [h.t.at_ (by omega)];exact h.log
 ·rw [h.t.at_ (by omega)] at hi ⊢; exact h.iv i hi
 ·rw [hl] at hk
  revert k
  refine c3 _ ?_ ?_ ?_
  ·rw [x0];exact ⟨0,by decide,by decide +kernel⟩
  ·rw [x1];exact ⟨2,by decide,by decide +kernel⟩
  ·rw [x2];exact ⟨6,by decide,by decide +kernel⟩
 ·rw [h.t.tk k (by omega)];exact ⟨10,by decide,by decide +kernel⟩
 ·rcases (show k=0∨k=1 by omega) with rfl | rfl
  ·rw [x0,x1];decide
  ·rw [x1,x2];decide +kernel
structure XOk (x:Rat):Prop where
 n:x.num.natAbs≤40000
 d:x.den≤256
theorem XOk.short {x:Rat} (h:XOk x) (r s:Int) (k:Nat) (hr:r.natAbs≤3) (hs:s.natAbs≤1) (hk:0<k∧k≤2):bM ((x-(r:Rat))*((s:Rat)*(k:Rat)⁻¹)):=by
 have f1:=(Fc.own x).sub (ajd (c:=x.den) r)
 have hk0:(k:Rat)≠0:=fun e=>by rw [Rat.natCast_eq_zero_iff] at e;omega
 have f2:Fc s.natAbs k ((s:Rat)*(k:Rat)⁻¹):=⟨s,Nat.le_mul_of_pos_right _ hk.1,by rw [Rat.mul_assoc,Rat.inv_mul_cancel _ hk0,Rat.mul_one]⟩
 have f3:=f1.mul f2
 have t1:x.num.natAbs+r.natAbs≤40003:=by have:=h.n;omega
 have t2:(x.num.natAbs+r.natAbs)*s.natAbs≤40003*1:=Nat.mul_le_mul t1 hs
 have t3:x.den*k≤256*2:=Nat.mul_le_mul h.d hk.2
 have t4:=Nat.mul_le_mul t2 t3
 exact f3.okB (Nat.mul_pos x.den_pos hk.1) (Nat.lt_of_le_of_lt t4 (by decide)) (Nat.lt_of_le_of_lt t3 (by decide))
theorem XOk.sq {x:Rat} (h:XOk x):(0<x→x<1→SqS x 0 1)∧(1<x→x<3→SqS x 1 3):=by
 have n:∀ q:Rat,q.num.natAbs<1000000000∧q.den<1000000000→bM q:=fun q hq=>hq
 have s:=fun (r s:Int) (k:Nat) (q:Rat) (hr:r.natAbs≤3) (hs:s.natAbs≤1) (hk:0<k∧k≤2) (e:(x-(r:Rat))*((s:Rat)*(k:Rat)⁻¹)=q)=>(show bM q from e ▸ h.short r s k hr hs hk)
 have e1:((1:Int):Rat)*((1:Nat):Rat)⁻¹=1:=by decide +kernel
 have e2:((-1:Int):Rat)*((1:Nat):Rat)⁻¹ = -1:=by decide +kernel
 have e3:((1:Int):Rat)*((2:Nat):Rat)⁻¹=1/2:=by decide +kernel
 have e4:((-1:Int):Rat)*((2:Nat):Rat)⁻¹ = -1/2:=by decide +kernel
 have v0:((0:Int):Rat)=0:=rfl
 have v1:((1:Int):Rat)=1:=rfl
 have v3:((3:Int):Rat)=3:=rfl
 have i1:((1:Rat)-0)⁻¹=1:=by decide +kernel
 have i2:((0:Rat)-1)⁻¹ = -1:=by decide +kernel
 have i3:((3:Rat)-1)⁻¹=1/2:=by decide +kernel
 have i4:((1:Rat)-3)⁻¹ = -1/2:=by decide +kernel
 refine ⟨fun h1 h2=>⟨⟨h1,h2⟩,s 0 1 1 _ (by decide) (by decide) (by decide) (by rw [e1,v0,Rat.mul_one]),n _ (by decide +kernel),s 0 1 1 _ (by decide) (by decide) (by decide) (by rw [e1,v0,i1]),s 1 1 1 _ (by decide) (by decide) (by decide) (by rw [e1,v1,Rat.mul_one]),n _ (by decide +kernel),s 1 (-1) 1 _ (by decide) (by decide) (by decide) (by rw [e2,v1,i2])⟩,
  fun h1 h2=>⟨⟨h1,h2⟩,s 1 1 1 _ (by decide) (by decide) (by decide) (by rw [e1,v1,Rat.mul_one]),n _ (by decide +kernel),s 1 1 2 _ (by decide) (by decide) (by decide) (by rw [e3,v1,i3]),s 3 1 1 _ (by decide) (by decide) (by decide) (by rw [e1,v3,Rat.mul_one]),n _ (by decide +kernel),s 3 (-1) 2 _ (by decide) (by decide) (by decide) (by rw [e4,v3,i4])⟩⟩
def flat (X Y s t:Rat):List QP:=[(X,s),(Y,s),(Y,t),(X,t)]
theorem aid {x X Y s t:Rat} (h:X<x∧x<Y):∀ j,zg (flat X Y s t) x j=if j % 4=0∧j<4 then [s] else if j % 4=2∧j<4 then [t] else zg (flat X Y s t) x j:=by
 intro j
 split
 ·obtain rfl:j=0:=by omega
  obtain ⟨c1,c2,c3,c4⟩:=aii h
  show xS x (X,s) (Y,s)=_
  unfold xS zf
  dsimp only
  rw [if_neg c3,if_pos c1,Rat.sub_self,Rat.mul_zero,Rat.add_zero]
 ·split
  ·obtain rfl:j=2:=by omega
   obtain ⟨c1,c2,c3,c4⟩:=aii h
   show xS x (Y,t) (X,t)=_
   unfold xS zf
   dsimp only
   rw [if_neg c4,if_pos c2,Rat.sub_self,Rat.mul_zero,Rat.add_zero]
  ·rfl
theorem flat4_mod (X Y s t:Rat):(3+1) % (flat X Y s t).length=0:=by
 show (3+1) % 4=0
 rfl
theorem aie {x X Y s t:Rat} (h:X<x∧x<Y) (hst:s<t):oM (flat X Y s t) x=some (s,t):=by
 obtain ⟨c1,c2,c3,c4⟩:=aii h
 have e0:=aid (s:=s) (t:=t) h 0
 rw [if_pos (by decide)] at e0
 have e2:=aid (s:=s) (t:=t) h 2
 rw [if_neg (by decide),if_pos (by decide)] at e2
 have e1:zg (flat X Y s t) x 1=[]:=by
  show xS x (Y,s) (Y,t)=_
  unfold xS
  dsimp only
  rw [if_neg c4,if_neg ahX]
 have e3:zg (flat X Y s t) x 3=[]:=by
  unfold zg
  rw [flat4_mod]
  show xS x (X,t) (X,s)=_
  unfold xS
  dsimp only
  rw [if_neg c3,if_neg ahX]
 show stA (flat X Y s t) x 4=_
 rw [VP,VP,VP,VP,e0,e1,e2,e3]
 show some (if t<s then t else s,if s<t then t else s)=_
 rw [if_neg (by grind),if_pos hst]
theorem aiV {x X Y s t:Rat} (h:SqS x X Y) (hs:bM s) (ht:bM t):EdS (flat X Y s t) x:=by
 intro j hj hc
 have hj':j<4:=hj
 rcases (show j=0∨j=1∨j=2∨j=3 by omega) with rfl | rfl | rfl | rfl
 ·exact (ah6 h hs).1
 ·exact absurd hc ahX
 ·exact (ah6 h ht).2
 ·rw [flat4_mod] at hc
  exact absurd hc ahX
theorem Thr.part {P:bQ} {L:List Iv} (h:Thr P L) {k:Nat} (hk:k<2) {s:Stp} (hs:s∈aZ P k):s.i<L.length∧aC P k s=[(⟨k,(ah L s.i).u,flat (cZ P k) (cZ P (k+1)) (5-(ah L s.i).b) (5-(ah L s.i).a)⟩,false)]:=by
 rw [h.link hk,ah5] at hs
 obtain ⟨h1,h2,h3,h4⟩:=hs
 refine ⟨by omega,?_⟩
 unfold aC
 rw [if_pos h1,h.at_ (by omega),h.at_ (by omega),←h2,if_pos rfl]
 unfold OH aG flat
 rw [h.tk k (by omega),h.tk (k+1) (by omega)]
theorem Thr.top {P:bQ} {L:List Iv} (h:Thr P L) {k:Nat} (hk:k<2) (x:Rat):zh P x k=5:=by
 unfold zh
 rw [h.tk k (by omega),h.tk (k+1) (by omega),Rat.sub_self,Rat.mul_zero,Rat.add_zero]
theorem ah7.short {P:bQ} {L:List Iv} (h:ah7 P L) {i:Nat} (hi:i<L.length):bM (ah L i).a∧bM (ah L i).b∧bM (5-(ah L i).a)∧bM (5-(ah L i).b):=by
 obtain ⟨h1,h2⟩:=h.iv i hi
 have h5:H2 10 5:=⟨10,by decide,by decide +kernel⟩
 exact ⟨h1.ok (by decide),h2.ok (by decide),(h5.sub h1).ok (by decide),(h5.sub h2).ok (by decide)⟩
theorem ah7.sq {P:bQ} {L:List Iv} (h:ah7 P L) {x:Rat} (hx:XOk x) {k:Nat} (hk:k<2) (h1:cZ P k<x) (h2:x<cZ P (k+1)):SqS x (cZ P k) (cZ P (k+1)):=by
 obtain ⟨x0,x1,x2⟩:=h.t.xk
 rcases (show k=0∨k=1 by omega) with rfl | rfl
 ·rw [x0] at h1 ⊢; rw [x1] at h2 ⊢
  exact hx.sq.1 h1 h2
 ·rw [x1] at h1 ⊢; rw [show 1+1=2 from rfl,x2] at h2 ⊢
  exact hx.sq.2 h1 h2
theorem ah7.at_ {P:bQ} {L:List Iv} (h:ah7 P L) {x:Rat} (hx:XOk x):AtS P x:=by
 have hl:=h.t.len
 have s5:bM 5:=by unfold bM;decide
 refine ⟨⟨Nat.lt_of_le_of_lt hx.n (by decide),Nat.lt_of_le_of_lt hx.d (by decide)⟩,fun k hk h1 h2=>?_,fun k s y hk h1 h2 hs hy=>?_,fun k s y p hk h1 h2 hs hy hp=>?_⟩
 ·rw [hl] at hk
  rw [h.t.tk k (by omega),h.t.tk (k+1) (by omega)]
  exact (ah6 (h.sq hx (by omega) h1 h2) s5).1
 ·rw [hl] at hk
  obtain ⟨hi,e⟩:=h.t.part (by omega) hs
  rw [e,List.mem_singleton] at hy
  rw [hy]
  obtain ⟨_,_,s3,s4⟩:=h.short hi
  exact aiV (h.sq hx (by omega) h1 h2) s4 s3
 ·rw [hl] at hk
  obtain ⟨hi,e⟩:=h.t.part (by omega) hs
  rw [e,List.mem_singleton] at hy
  rw [hy] at hp
  have hlt:=(h.log.1.pos s.i hi).2
  rw [aie (h.sq hx (by omega) h1 h2).lt (by grind)] at hp
  cases hp
  obtain ⟨s1,s2,s3,s4⟩:=h.short hi
  rw [h.t.top (by omega)]
  refine ⟨?_,?_,s5,s4,s3⟩
  ·show bM (5-(5-(ah L s.i).b))
   rw [show (5:Rat)-(5-(ah L s.i).b)=(ah L s.i).b by grind];exact s2
  ·show bM (5-(5-(ah L s.i).a))
   rw [show (5:Rat)-(5-(ah L s.i).a)=(ah L s.i).a by grind];exact s1
theorem aif {L:List Iv} {f:Stp→List Iv}:∀ n i,i+n=L.length→(∀ s∈wG n i,f s=[ah L s.i])→(wG n i).flatMap f=L.drop i
 | 0,i,h,_=>by rw [List.drop_eq_nil_of_le (by omega)];rfl
 | n+1,i,h,hf=>by
  unfold wG
  rw [List.flatMap_cons,hf _ (by unfold wG;exact List.mem_cons_self),aif n (i+1) (by omega) (fun s hs=>hf s (by unfold wG;exact List.mem_cons_of_mem _ hs))]
  rw [List.drop_eq_getElem_cons (show i<L.length by omega)]
  unfold ah
  rw [List.getD_eq_getElem?_getD,List.getElem?_eq_getElem (show i<L.length by omega)]
  rfl
theorem ah7.aje {P:bQ} {L:List Iv} (h:ah7 P L) {x:Rat} (h0:¬ x<0) (h3:¬ 3<x):atX P x=L:=by
 have hl:=h.t.len
 obtain ⟨x0,x1,x2⟩:=h.t.xk
 by_cases hne:∀ i,i<P.lg.length→x≠cZ P i
 ·rw [ac9 hne]
  obtain ⟨k1,k2,k3⟩:=aaz h.ok (by rw [x0];exact h0) (by rw [hl,x2];exact h3) hne
  generalize ui P x P.lg.length=k at *
  rw [hl] at k1
  unfold aeM
  rw [h.t.link (by omega),aif (L:=L) L.length 0 (by omega),List.drop_zero]
  intro s hs
  rw [←h.t.link (k:=k) (by omega)] at hs
  obtain ⟨hi,e⟩:=h.t.part (by omega) hs
  unfold VT
  rw [e,List.flatMap_singleton]
  unfold Y2
  dsimp only
  have hlt:=(h.log.1.pos s.i hi).2
  rw [aie ⟨k2,k3⟩ (by grind)]
  dsimp only
  rw [if_neg (by rintro (e | ⟨e,_⟩);grind;cases e),h.t.top (by omega),show (5:Rat)-(5-(ah L s.i).b)=(ah L s.i).b by grind,show (5:Rat)-(5-(ah L s.i).a)=(ah L s.i).a by grind]
 ·have hex:∃ i,i<3∧x=cZ P i∧∀ j,j<i→x≠cZ P j:=by
   by_cases e0:x=cZ P 0
   ·exact ⟨0,by omega,e0,fun j hj=>by omega⟩
   ·by_cases e1:x=cZ P 1
    ·exact ⟨1,by omega,e1,fun j hj=>by rw [show j=0 by omega];exact e0⟩
    ·by_cases e2:x=cZ P 2
     ·exact ⟨2,by omega,e2,fun j hj=>by rcases (show j=0∨j=1 by omega) with rfl | rfl <;> assumption⟩
     ·refine absurd (fun i hi=>?_) hne
      rw [hl] at hi
      rcases (show i=0∨i=1∨i=2 by omega) with rfl | rfl | rfl <;> assumption
  obtain ⟨i,hi,hxi,hj⟩:=hex
  rw [aaB (by omega) hxi hj,h.t.at_ hi]
end Go.Proofs.YtglncfkoohgdaaaGreatDoor
