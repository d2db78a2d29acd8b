import Derived.Test.YtgohnjdgoglcfaaGreatDoorPol1Z
namespace Go.Proofs.YtgohnjdgoglcfaaGreatDoor
theorem Nrm.lists {f:Rat × Rat→Rat} {R:List (Rat × Rat)} {m:Nat} (h:Nrm f R m) :
  ∃ x0 X xl y0 Y yl,R=(X ++ [xl])++(Y ++ [yl])∧(∀ p∈X ++ [xl],0<f p)∧(X ++ [xl]).head?=some x0∧(∀ p∈Y ++ [yl],f p≤0)∧(Y ++ [yl]).head?=some y0∧(∀ p∈Y.tail,f p<0)∧(Y=[]→f yl<0):=by
 have hm0:=h.m0
 have hmn:=h.mn
 have eX:=split_last h.m0 (Nat.le_of_lt h.mn)
 have eY:R.drop m=(R.drop m).take (R.length-1-m) ++ [pt R (R.length-1)]:=by
  have e:=split_last (R:=R.drop m) (m:=R.length-m) (by omega) (by simp)
  rw [List.take_of_length_le (by simp)] at e
  rw [show R.length-1-m=R.length-m-1 by omega]
  have e2:pt (R.drop m) (R.length-m-1)=pt R (R.length-1):=by
   rw [pt_eq (by simp;omega),pt_eq (by omega),List.getElem_drop]
   congr 1;omega
  rw [e2] at e
  exact e
 refine ⟨pt R 0,R.take (m-1),pt R (m-1),pt R m,(R.drop m).take (R.length-1-m),pt R (R.length-1),by rw [←eX,←eY,List.take_append_drop],?_,?_,?_,?_,?_,?_⟩
 ·rw [←eX];intro p hp
  obtain ⟨i,h1,_,rfl⟩:=mem_take_pt hp
  exact h.pos i h1
 ·rw [←eX,List.head?_take,if_neg (by omega),List.head?_eq_getElem?,List.getElem?_eq_getElem (by omega),pt_eq (by omega)]
 ·rw [←eY];intro p hp
  obtain ⟨i,h1,h2,rfl⟩:=mem_drop_pt hp
  exact h.neg i h1 h2
 ·rw [←eY,List.head?_drop,List.getElem?_eq_getElem h.mn,pt_eq h.mn]
 ·intro p hp
  rw [←List.drop_one,List.drop_take,List.drop_drop] at hp
  obtain ⟨i,h1,_,rfl⟩:=mem_take_pt hp
  have e3:pt (R.drop (m+1)) i=pt R (m+1+i):=by rw [pt_eq (by simp;omega),pt_eq (by omega),List.getElem_drop]
  rw [e3]
  exact h.inn _ (by omega) (by omega)
 ·intro he
  have:R.length-1-m=0:=by
   have:=congrArg List.length he
   simp at this
   omega
  have e4:R.length-1=m:=by omega
  rw [e4]
  exact h.one (by omega)
theorem Cvx.areas {P:List (Rat × Rat)} (h:Cvx P) (a b c:Rat) (hab:a≠0∨b≠0) :
  areaP (clipL (valP a b c) P)+areaP (clipL (valP (-a) (-b) (-c)) P)=areaP P:=by
 have hg:∀ p,valP (-a) (-b) (-c) p = -valP a b c p:=val_neg a b c
 by_cases hp:∃ p∈P,0<valP a b c p
 ·by_cases hn:∃ p∈P,valP a b c p<0
  ·obtain ⟨p,h1,h2⟩:=hp
   obtain ⟨q,h3,h4⟩:=hn
   obtain ⟨i,hi,rfl⟩:=mem_pt h1
   obtain ⟨j,hj,rfl⟩:=mem_pt h3
   obtain ⟨s,m,hs,hN⟩:=nrm_exists h a b c hi hj h2 h4
   obtain ⟨t,ht,e⟩:=clip_turned (valP a b c) P hs
   obtain ⟨t',ht',e'⟩:=clip_turned (valP (-a) (-b) (-c)) P hs
   rw [e,e',area_rot,area_rot,←area_rot P s,area_shoe,area_shoe,area_shoe]
   obtain ⟨x0,X,xl,y0,Y,yl,eR,k1,k2,k3,k4,k5,k6⟩:=hN.lists
   rw [eR]
   exact areas_split hg x0 X xl k1 k2 y0 Y yl k3 k4 k5 k6
  ·have H:∀ p∈P,0≤valP a b c p:=fun p hp=>Decidable.byContradiction fun h0=>hn ⟨p,hp,by grind⟩
   rw [clip_all H,clip_none (fun p hp=>by rw [hg];have:=H p hp;grind),area_short (P:=P.filter _) (h.on_line (-a) (-b) (-c) (by grind)),Rat.add_zero]
 ·have H:∀ p∈P,valP a b c p≤0:=fun p hp'=>Decidable.byContradiction fun h0=>hp ⟨p,hp',by grind⟩
  rw [clip_none H,clip_all (f:=valP (-a) (-b) (-c)) (fun p hp=>by rw [hg];have:=H p hp;grind),area_short (P:=P.filter _) (h.on_line a b c hab),Rat.zero_add]
def InP (P:List (Rat × Rat)) (x:Rat × Rat):Prop:=∀ i,i<P.length→0≤crs (pt P i) (pt P (nxI P.length i)) x
def InS (P:List (Rat × Rat)) (x:Rat × Rat):Prop:=∀ i,i<P.length→0<crs (pt P i) (pt P (nxI P.length i)) x
theorem rot_side {P:List (Rat × Rat)} {s:Nat} (hs:s≤P.length) {i:Nat} (hi:i<P.length) :
  pt (rotL P s) i=pt P (rotI P.length s i)∧pt (rotL P s) (nxI (rotL P s).length i)=pt P (nxI P.length (rotI P.length s i)):=by
 have hl:=rotL_len P hs
 refine ⟨pt_rot P hs hi,?_⟩
 rw [hl,pt_rot P hs (nxI_lt (by omega)),rotI_nx hs hi]
theorem rotI_surj {n s j:Nat} (_:s≤n) (hj:j<n):∃ i,i<n∧rotI n s i=j:=by
 refine ⟨if s≤j then j-s else j+n-s,by split <;> omega,?_⟩
 unfold rotI
 split <;> split <;> omega
theorem inP_rot {P:List (Rat × Rat)} {s:Nat} (hs:s≤P.length) (x:Rat × Rat):InP (rotL P s) x↔InP P x:=by
 have hl:=rotL_len P hs
 constructor
 ·intro h j hj
  obtain ⟨i,hi,rfl⟩:=rotI_surj hs hj
  have:=h i (by omega)
  obtain ⟨e1,e2⟩:=rot_side hs hi
  rw [e1,e2] at this
  exact this
 ·intro h i hi
  obtain ⟨e1,e2⟩:=rot_side hs (show i<P.length by omega)
  rw [e1,e2]
  exact h _ (rotI_lt hs (by omega))
theorem inS_rot {P:List (Rat × Rat)} {s:Nat} (hs:s≤P.length) (x:Rat × Rat):InS (rotL P s) x↔InS P x:=by
 have hl:=rotL_len P hs
 constructor
 ·intro h j hj
  obtain ⟨i,hi,rfl⟩:=rotI_surj hs hj
  have:=h i (by omega)
  obtain ⟨e1,e2⟩:=rot_side hs hi
  rw [e1,e2] at this
  exact this
 ·intro h i hi
  obtain ⟨e1,e2⟩:=rot_side hs (show i<P.length by omega)
  rw [e1,e2]
  exact h _ (rotI_lt hs (by omega))
theorem val_three (a b c:Rat) (p q r x:Rat × Rat):crs p q r*valP a b c x=crs q r x*valP a b c p+crs r p x*valP a b c q+crs p q x*valP a b c r:=by unfold crs valP;grind
theorem in_fan {P:List (Rat × Rat)} (h:Cvx P) {x:Rat × Rat} (hx:InP P x):∃ j,0<j∧j+1<P.length∧0≤crs (pt P 0) (pt P j) x∧0≤crs (pt P (j+1)) (pt P 0) x:=by
 have h3:=h.1
 have hsw:∀ p q:Rat × Rat,crs q p x = -crs p q x:=fun p q=>by unfold crs;grind
 have hlast:=hx (P.length-1) (by omega)
 rw [show nxI P.length (P.length-1)=0 by unfold nxI;rw [if_neg (by omega)]] at hlast
 have hfirst:=hx 0 (by omega)
 rw [show nxI P.length 0=1 by unfold nxI;rw [if_pos (by omega)]] at hfirst
 obtain ⟨t,ht,h1,h2⟩:=first_of (Q:=fun t=>0≤crs (pt P (t+2)) (pt P 0) x) (P.length-3) (by rw [show P.length-3+2=P.length-1 by omega];exact hlast)
 refine ⟨t+1,by omega,by omega,?_,h1⟩
 rcases Nat.eq_zero_or_pos t with e | e
 ·subst e;exact hfirst
 ·have:=h2 (t-1) (by omega)
  rw [show t-1+2=t+1 by omega,hsw (pt P 0) (pt P (t+1))] at this
  grind
theorem InP.val {P:List (Rat × Rat)} (h:Cvx P) {x:Rat × Rat} (hx:InP P x) (a b c:Rat) (hg:∀ p∈P,0≤valP a b c p):0≤valP a b c x:=by
 obtain ⟨j,hj0,hj,h1,h2⟩:=in_fan h hx
 have hT:=h.tri 0 j (j+1) hj0 (by omega) hj
 have hs:=hx j (by omega)
 rw [show nxI P.length j=j+1 by unfold nxI;rw [if_pos hj]] at hs
 have e:=val_three a b c (pt P 0) (pt P j) (pt P (j+1)) x
 have a1:=Rat.mul_nonneg hs (hg _ (pt_mem (show 0<P.length by omega)))
 have a2:=Rat.mul_nonneg h2 (hg _ (pt_mem (show j<P.length by omega)))
 have a3:=Rat.mul_nonneg h1 (hg _ (pt_mem hj))
 apply Decidable.byContradiction
 intro hn
 have:=(mul_neg_iff hT).2 (show valP a b c x<0 by grind)
 grind
theorem InS.le {P:List (Rat × Rat)} {x:Rat × Rat} (h:InS P x):InP P x:=fun i hi=>Rat.le_of_lt (h i hi)
theorem InS.val {P:List (Rat × Rat)} (h:Cvx P) {x:Rat × Rat} (hx:InS P x) (a b c:Rat) (hg:∀ p∈P,0≤valP a b c p) (hp:∃ p∈P,0<valP a b c p):0<valP a b c x:=by
 obtain ⟨p,hp,hv⟩:=hp
 obtain ⟨s,hs,rfl⟩:=mem_pt hp
 have h3:=h.1
 have hl:=rotL_len P (Nat.le_of_lt hs)
 have hR:=h.rot (Nat.le_of_lt hs)
 have hxR:=(inS_rot (Nat.le_of_lt hs) x).2 hx
 have hgR:∀ p∈rotL P s,0≤valP a b c p:=fun p hp=>hg p (by
  unfold rotL at hp
  rcases List.mem_append.1 hp with hp | hp
  ·exact List.mem_of_mem_drop hp
  ·exact List.mem_of_mem_take hp)
 have e0:pt (rotL P s) 0=pt P s:=by
  rw [pt_rot P (Nat.le_of_lt hs) (by omega)]
  unfold rotI;rw [if_pos (by omega)];simp
 rw [←e0] at hv
 clear e0 hg
 generalize rotL P s=R at *
 obtain ⟨j,hj0,hj,h1,h2⟩:=in_fan hR hxR.le
 have hT:=hR.tri 0 j (j+1) hj0 (by omega) hj
 have hs:=hxR j (by omega)
 rw [show nxI R.length j=j+1 by unfold nxI;rw [if_pos hj]] at hs
 have e:=val_three a b c (pt R 0) (pt R j) (pt R (j+1)) x
 have a1:=Rat.mul_pos hs hv
 have a2:=Rat.mul_nonneg h2 (hgR _ (pt_mem (show j<R.length by omega)))
 have a3:=Rat.mul_nonneg h1 (hgR _ (pt_mem hj))
 apply Decidable.byContradiction
 intro hn
 have:=Rat.mul_nonneg (Rat.le_of_lt hT) (show 0 ≤ -valP a b c x by grind)
 grind
theorem Cvx.off_line {P:List (Rat × Rat)} (h:Cvx P) (a b c:Rat) (hab:a≠0∨b≠0):∃ p∈P,valP a b c p≠0:=by
 apply Classical.byContradiction
 intro hn
 have:=h.on_line a b c hab
 rw [List.filter_eq_self.2 (fun p hp=>by
  have:valP a b c p=0:=Decidable.byContradiction fun h0=>hn ⟨p,hp,h0⟩
  simpa using this)] at this
 have:=h.1
 omega
theorem Cvx.inP {P:List (Rat × Rat)} (h:Cvx P) {p:Rat × Rat} (hp:p∈P):InP P p:=by
 intro i hi
 rw [pt_eq hi,pt_eq (nxI_lt (by omega))]
 exact ((h.side i hi).2 p hp).1
theorem ne_of_side {p q:Rat × Rat} (h:p≠q):p.2-q.2≠0∨q.1-p.1≠0:=by
 apply Classical.byContradiction
 intro hn
 have h1:p.2-q.2=0:=Classical.byContradiction fun h0=>hn (.inl h0)
 have h2:q.1-p.1=0:=Classical.byContradiction fun h0=>hn (.inr h0)
 exact h (Prod.ext (by grind) (by grind))
theorem Cvx.sub {P Q:List (Rat × Rat)} (hP:Cvx P) (hQ:Cvx Q) (h:∀ p∈P,InP Q p) (k:∀ q∈Q,InP P q):∀ p∈P,p∈Q:=by
 intro p hp
 obtain ⟨i,hi,rfl⟩:=mem_pt hp
 have h3:=hP.1
 have hpr:=prI_lt hi
 have hline:∃ a b c,∀ x,valP a b c x=crs (pt P i) (pt P (nxI P.length i)) x+crs (pt P (prI P.length i)) (pt P i) x:=by
  refine ⟨((pt P i).2-(pt P (nxI P.length i)).2)+((pt P (prI P.length i)).2-(pt P i).2),((pt P (nxI P.length i)).1-(pt P i).1)+((pt P i).1-(pt P (prI P.length i)).1),
   (((pt P i).2-(pt P (nxI P.length i)).2)*(pt P i).1+((pt P (nxI P.length i)).1-(pt P i).1)*(pt P i).2)+(((pt P (prI P.length i)).2-(pt P i).2)*(pt P (prI P.length i)).1+((pt P i).1-(pt P (prI P.length i)).1)*(pt P (prI P.length i)).2),fun x=>?_⟩
  unfold valP crs
  grind
 obtain ⟨a,b,c,hv⟩:=hline
 have hz:valP a b c (pt P i)=0:=by rw [hv,crs_self,crs_end];grind
 have hQ0:∀ q∈Q,0≤crs (pt P i) (pt P (nxI P.length i)) q∧0≤crs (pt P (prI P.length i)) (pt P i) q:=fun q hq=>by
  have a1:=k q hq i hi
  have a2:=k q hq (prI P.length i) hpr
  rw [nx_pr hi] at a2
  exact ⟨a1,a2⟩
 have hex:∃ q∈Q,valP a b c q≤0:=by
  apply Classical.byContradiction
  intro hn
  have hpos:∀ q∈Q,0<valP a b c q:=fun q hq=>Decidable.byContradiction fun h0=>hn ⟨q,hq,by grind⟩
  have hmin:∀ L:List (Rat × Rat),(∀ q∈L,0<valP a b c q)→∃ e,0<e∧∀ q∈L,e≤valP a b c q:=by
   intro L
   induction L with
   | nil=>intro _;exact ⟨1,by decide,fun q hq=>by simp at hq⟩
   | cons q L ih =>
    intro hL
    obtain ⟨e,e0,he⟩:=ih (fun q hq=>hL q (List.mem_cons_of_mem _ hq))
    have hq:=hL q (List.mem_cons_self ..)
    by_cases hle:e≤valP a b c q
    ·exact ⟨e,e0,fun r hr=>by
      rcases List.mem_cons.1 hr with rfl | hr
      ·exact hle
      ·exact he r hr⟩
    ·exact ⟨valP a b c q,hq,fun r hr=>by
      rcases List.mem_cons.1 hr with rfl | hr
      ·exact Rat.le_refl
      ·have:=he r hr;grind⟩
  obtain ⟨e,e0,he⟩:=hmin Q hpos
  have:=(h _ hp).val hQ a b (c+e) (fun q hq=>by have:=he q hq;unfold valP at *; grind)
  unfold valP at this hz
  grind
 obtain ⟨q,hq,hle⟩:=hex
 rw [hv] at hle
 obtain ⟨a1,a2⟩:=hQ0 q hq
 have z1:crs (pt P i) (pt P (nxI P.length i)) q=0:=by grind
 have z2:crs (pt P (prI P.length i)) (pt P i) q=0:=by grind
 have hT:0<crs (pt P (prI P.length i)) (pt P i) (pt P (nxI P.length i)):=by
  have:=hP.2 (prI P.length i) (nxI P.length i) hpr (nxI_lt (by omega)) (by unfold nxI prI;split <;> split <;> omega) (by rw [nx_pr hi];unfold nxI;split <;> omega)
  simp only [nx_pr hi] at this
  rw [pt_eq hpr,pt_eq hi,pt_eq (nxI_lt (by omega))]
  exact this
 have:q=pt P i:=by
  generalize pt P i=p at *
  generalize pt P (nxI P.length i)=n at *
  generalize pt P (prI P.length i)=r at *
  have e1:crs r p n*(q.1-p.1)=0:=by unfold crs at *; grind
  have e2:crs r p n*(q.2-p.2)=0:=by unfold crs at *; grind
  have hne:crs r p n≠0:=by grind
  rcases Rat.mul_eq_zero.1 e1 with h1 | h1
  ·exact absurd h1 hne
  ·rcases Rat.mul_eq_zero.1 e2 with h2 | h2
   ·exact absurd h2 hne
   ·exact Prod.ext (by grind) (by grind)
 rw [←this]
 exact hq
theorem Poly.unique {P Q:List (Rat × Rat)} (hP:Poly P) (hQ:Poly Q) (h:∀ x,InP P x↔InP Q x):P=Q:=by
 have h1:=hP.1.sub hQ.1 (fun p hp=>(h p).1 (hP.1.inP hp)) (fun q hq=>(h q).2 (hQ.1.inP hq))
 have h2:=hQ.1.sub hP.1 (fun p hp=>(h p).2 (hQ.1.inP hp)) (fun q hq=>(h q).1 (hP.1.inP hq))
 exact (hP.wrap).unique ((hQ.wrap).congr (fun p=>⟨h2 p,h1 p⟩))
theorem crs_tow2 (p q x:Rat × Rat) (k:Rat):crs p (towP p q k) x=k*crs p q x:=by unfold crs towP;grind
theorem crs_tow3 (p q x:Rat × Rat) (k:Rat):crs (towP p q k) q x=(1-k)*crs p q x:=by unfold crs towP;grind
theorem val_side (p q x:Rat × Rat) (a b c:Rat) (hp:valP a b c p=0) (hq:valP a b c q=0) (y:Rat × Rat):crs p q y*valP a b c x=crs p q x*valP a b c y:=by
 unfold valP at *
 unfold crs
 grind
theorem cut_zero {a b c:Rat} {p q:Rat × Rat} (h:valP a b c p≠valP a b c q):valP a b c (cutP (valP a b c) p q)=0:=by
 unfold cutP
 rw [val_tow,Rat.div_def]
 have:(valP a b c p-valP a b c q)*(valP a b c p-valP a b c q)⁻¹=1:=Rat.mul_inv_cancel _ (by grind)
 grind
theorem Nrm.side {f:Rat × Rat→Rat} {R:List (Rat × Rat)} {m:Nat} (h:Nrm f R m) {i:Nat} (hi:i<m+2) :
  (i+1<m∧pt (clipL f R) i=pt R i∧pt (clipL f R) (nxI (m+2) i)=pt R (i+1)) ∨
  (i+1=m∧pt (clipL f R) i=pt R i∧pt (clipL f R) (nxI (m+2) i)=cutP f (pt R (m-1)) (pt R m)) ∨
  (i=m∧pt (clipL f R) i=cutP f (pt R (m-1)) (pt R m)∧pt (clipL f R) (nxI (m+2) i)=cutP f (pt R (R.length-1)) (pt R 0)) ∨
  (i=m+1∧pt (clipL f R) i=cutP f (pt R (R.length-1)) (pt R 0)∧pt (clipL f R) (nxI (m+2) i)=pt R 0):=by
 have hm0:=h.m0
 have hmn:=h.mn
 rw [h.clip,pt_clip (by omega) _ _ hi,pt_clip (by omega) _ _ (nxI_lt (by omega))]
 unfold nxI cutF
 rcases (show i+1<m∨i+1=m∨i=m∨i=m+1 by omega) with h1 | h1 | h1 | h1
 ·exact .inl ⟨h1,if_pos (by omega),by rw [if_pos (show i+1<m+2 by omega),if_pos h1]⟩
 ·exact .inr (.inl ⟨h1,if_pos (by omega),by rw [if_pos (show i+1<m+2 by omega),if_neg (by omega),if_pos h1]⟩)
 ·refine .inr (.inr (.inl ⟨h1,by rw [if_neg (by omega),if_pos h1],by rw [if_pos (show i+1<m+2 by omega),if_neg (by omega),if_neg (by omega)]⟩))
 ·refine .inr (.inr (.inr ⟨h1,by rw [if_neg (by omega),if_neg (by omega)],by rw [if_neg (show ¬ i+1<m+2 by omega),if_pos hm0]⟩))
theorem Nrm.len {f:Rat × Rat→Rat} {R:List (Rat × Rat)} {m:Nat} (h:Nrm f R m):(clipL f R).length=m+2:=by
 have:=h.mn
 rw [h.clip];simp;omega
theorem nx_lt {n i:Nat} (h:i+1<n):nxI n i=i+1:=by unfold nxI;rw [if_pos h]
theorem nx_end {n i:Nat} (h:¬ i+1<n):nxI n i=0:=by unfold nxI;rw [if_neg h]
theorem Nrm.cuts {a b c:Rat} {R:List (Rat × Rat)} {m:Nat} (h:Nrm (valP a b c) R m) :
  valP a b c (cutP (valP a b c) (pt R (m-1)) (pt R m))=0∧valP a b c (cutP (valP a b c) (pt R (R.length-1)) (pt R 0))=0:=by
 have hm0:=h.m0
 have hmn:=h.mn
 have p1:=h.pos (m-1) (by omega)
 have p0:=h.pos 0 hm0
 have n1:=h.neg m (Nat.le_refl _) hmn
 have n2:=h.neg (R.length-1) (by omega) (by omega)
 exact ⟨cut_zero (by grind),cut_zero (by grind)⟩
theorem Nrm.inner {a b c:Rat} {R:List (Rat × Rat)} {m:Nat} (h:Nrm (valP a b c) R m):∀ p∈clipL (valP a b c) R,InP R p∧0≤valP a b c p:=by
 have hm0:=h.m0
 have hmn:=h.mn
 have hR:=h.cvx
 obtain ⟨z1,z2⟩:=h.cuts
 obtain ⟨a1,a2,_⟩:=share_pos (h.pos (m-1) (by omega)) (h.neg m (Nat.le_refl _) hmn)
 obtain ⟨b1,b2,_⟩:=share_neg (h.neg (R.length-1) (by omega) (by omega)) (h.pos 0 hm0)
 have mix:∀ p q k,0≤k→k≤1→p∈R→q∈R→InP R (towP p q k):=fun p q k k0 k1 hp hq i hi=>by
  rw [crs_tow]
  have e1:=Rat.mul_nonneg (show 0≤1-k by grind) (hR.inP hp i hi)
  have e2:=Rat.mul_nonneg k0 (hR.inP hq i hi)
  grind
 intro p hp
 rw [h.clip] at hp
 rcases List.mem_append.1 hp with hp | hp
 ·obtain ⟨i,hi,hi2,rfl⟩:=mem_take_pt hp
  exact ⟨hR.inP (pt_mem hi2),Rat.le_of_lt (h.pos i hi)⟩
 ·simp only [List.mem_cons,List.not_mem_nil,or_false] at hp
  rcases hp with rfl | rfl
  ·exact ⟨mix _ _ _ (Rat.le_of_lt a1) a2 (pt_mem (by omega)) (pt_mem hmn),by rw [z1];exact Rat.le_refl⟩
  ·exact ⟨mix _ _ _ b1 (Rat.le_of_lt b2) (pt_mem (by omega)) (pt_mem (by omega)),by rw [z2];exact Rat.le_refl⟩
theorem Nrm.outer {a b c:Rat} {R:List (Rat × Rat)} {m:Nat} (h:Nrm (valP a b c) R m) (x:Rat × Rat) :
  (InP R x→0≤valP a b c x→InP (clipL (valP a b c) R) x)∧(InS R x→0<valP a b c x→InS (clipL (valP a b c) R) x):=by
 have hm0:=h.m0
 have hmn:=h.mn
 have hR:=h.cvx
 have h3:=hR.1
 have hC:=h.tri
 obtain ⟨z1,z2⟩:=h.cuts
 obtain ⟨a1,a2,_⟩:=share_pos (h.pos (m-1) (by omega)) (h.neg m (Nat.le_refl _) hmn)
 obtain ⟨b1,b2,_⟩:=share_neg (h.neg (R.length-1) (by omega) (by omega)) (h.pos 0 hm0)
 have p0:=h.pos 0 hm0
 have hlen:=h.len
 have hAB:0<crs (cutP (valP a b c) (pt R (m-1)) (pt R m)) (cutP (valP a b c) (pt R (R.length-1)) (pt R 0)) (pt R 0):=by
  have:=hC.2 m 0 (by omega) (by omega) (by omega) (by rw [hlen,nx_lt (by omega)];omega)
  rw [←pt_eq (show m<_ by omega),←pt_eq (show 0<_ by omega),←pt_eq (nxI_lt (by omega))] at this
  rcases h.side (i:=m) (by omega) with ⟨q,_⟩ | ⟨q,_⟩ | ⟨_,q1,q2⟩ | ⟨q,_⟩
  ·omega
  ·omega
  ·rw [hlen,q1,q2] at this
   have e0:pt (clipL (valP a b c) R) 0=pt R 0:=by
    rw [h.clip,pt_clip (by omega) _ _ (by omega)];unfold cutF;rw [if_pos hm0]
   rw [e0] at this
   exact this
  ·omega
 have hside:=val_side _ _ x a b c z1 z2 (pt R 0)
 have last:∀ k,InP R k→0≤crs (pt R (R.length-1)) (pt R 0) k:=fun k hk=>by
  have:=hk (R.length-1) (by omega)
  rw [nx_end (by omega)] at this
  exact this
 constructor
 ·intro hx hf i hi
  rw [hlen] at hi ⊢
  rcases h.side hi with ⟨q,q1,q2⟩ | ⟨q,q1,q2⟩ | ⟨q,q1,q2⟩ | ⟨q,q1,q2⟩
  ·rw [q1,q2]
   have:=hx i (by omega)
   rw [nx_lt (by omega)] at this
   exact this
  ·rw [q1,q2,show m-1=i by omega]
   unfold cutP
   rw [crs_tow2]
   have:=hx i (by omega)
   rw [nx_lt (by omega),q] at this
   rw [show m-1=i by omega] at a1
   exact Rat.mul_nonneg (Rat.le_of_lt a1) this
  ·rw [q1,q2]
   apply Decidable.byContradiction
   intro hn
   have t1:=Rat.mul_pos (show 0 < -crs (cutP (valP a b c) (pt R (m-1)) (pt R m)) (cutP (valP a b c) (pt R (R.length-1)) (pt R 0)) x by grind) p0
   have t2:=Rat.mul_nonneg (Rat.le_of_lt hAB) hf
   grind
  ·rw [q1,q2]
   unfold cutP
   rw [crs_tow3]
   exact Rat.mul_nonneg (by grind) (last x hx)
 ·intro hx hf i hi
  rw [hlen] at hi ⊢
  rcases h.side hi with ⟨q,q1,q2⟩ | ⟨q,q1,q2⟩ | ⟨q,q1,q2⟩ | ⟨q,q1,q2⟩
  ·rw [q1,q2]
   have:=hx i (by omega)
   rw [nx_lt (by omega)] at this
   exact this
  ·rw [q1,q2,show m-1=i by omega]
   unfold cutP
   rw [crs_tow2]
   have:=hx i (by omega)
   rw [nx_lt (by omega),q] at this
   rw [show m-1=i by omega] at a1
   exact Rat.mul_pos a1 this
  ·rw [q1,q2]
   apply Decidable.byContradiction
   intro hn
   have t1:=Rat.mul_nonneg (show 0 ≤ -crs (cutP (valP a b c) (pt R (m-1)) (pt R m)) (cutP (valP a b c) (pt R (R.length-1)) (pt R 0)) x by grind) (Rat.le_of_lt p0)
   have t2:=Rat.mul_pos hAB hf
   grind
  ·rw [q1,q2]
   unfold cutP
   rw [crs_tow3]
   have:=hx (R.length-1) (by omega)
   rw [nx_end (by omega)] at this
   exact Rat.mul_pos (by grind) this
theorem inP_of_corners {P Q:List (Rat × Rat)} (hQ:Cvx Q) {x:Rat × Rat} (hx:InP Q x) (hsub:∀ q∈Q,InP P q):InP P x:=by
 intro i hi
 rw [crs_val]
 exact hx.val hQ _ _ _ (fun q hq=>by rw [←crs_val];exact hsub q hq i hi)
theorem inS_of_corners {P Q:List (Rat × Rat)} (hP:Cvx P) (hQ:Cvx Q) {x:Rat × Rat} (hx:InS Q x) (hsub:∀ q∈Q,InP P q):InS P x:=by
 intro i hi
 have h3:=hP.1
 have hne:=hP.ne i hi
 rw [←pt_eq hi,←pt_eq (nxI_lt (by omega))] at hne
 obtain ⟨q,hq,hz⟩:=hQ.off_line _ _ (valP ((pt P i).2-(pt P (nxI P.length i)).2) ((pt P (nxI P.length i)).1-(pt P i).1) 0 (pt P i)) (ne_of_side hne)
 rw [crs_val]
 refine hx.val hQ _ _ _ (fun q hq=>by rw [←crs_val];exact hsub q hq i hi) ⟨q,hq,?_⟩
 have:=hsub q hq i hi
 rw [crs_val] at this
 grind
theorem Cvx.clip_in {P:List (Rat × Rat)} (h:Cvx P) (a b c:Rat) (hab:a≠0∨b≠0) (hp:∃ p∈P,0<valP a b c p) (x:Rat × Rat) :
  (InP (clipL (valP a b c) P) x↔InP P x∧0≤valP a b c x)∧(InS (clipL (valP a b c) P) x↔InS P x∧0<valP a b c x):=by
 by_cases hn:∃ p∈P,valP a b c p<0
 ·obtain ⟨p,h1,h2⟩:=hp
  obtain ⟨q,h3,h4⟩:=hn
  obtain ⟨i,hi,rfl⟩:=mem_pt h1
  obtain ⟨j,hj,rfl⟩:=mem_pt h3
  obtain ⟨s,m,hs,hN⟩:=nrm_exists h a b c hi hj h2 h4
  obtain ⟨t,ht,e⟩:=clip_turned (valP a b c) P hs
  rw [e,inP_rot ht,inS_rot ht,←inP_rot (Nat.le_of_lt hs) x,←inS_rot (Nat.le_of_lt hs) x]
  have hC:=hN.tri
  have hI:=hN.inner
  refine ⟨⟨fun hx=>⟨inP_of_corners hC hx (fun q hq=>(hI q hq).1),hx.val hC a b c (fun q hq=>(hI q hq).2)⟩,fun hx=>(hN.outer x).1 hx.1 hx.2⟩,
   ⟨fun hx=>⟨inS_of_corners hN.cvx hC hx (fun q hq=>(hI q hq).1),hx.val hC a b c (fun q hq=>(hI q hq).2) ?_⟩,fun hx=>(hN.outer x).2 hx.1 hx.2⟩⟩
  obtain ⟨q,hq,hz⟩:=hC.off_line a b c hab
  exact ⟨q,hq,by have:=(hI q hq).2;grind⟩
 ·have H:∀ p∈P,0≤valP a b c p:=fun p hp=>Decidable.byContradiction fun h0=>hn ⟨p,hp,by grind⟩
  rw [clip_all H]
  exact ⟨⟨fun hx=>⟨hx,hx.val h a b c H⟩,fun hx=>hx.1⟩,⟨fun hx=>⟨hx,hx.val h a b c H hp⟩,fun hx=>hx.1⟩⟩
theorem Cvx.inS {P:List (Rat × Rat)} (h:Cvx P):InS P (cenP P):=by
 intro i hi
 have h3:=h.1
 rw [pt_eq hi,pt_eq (nxI_lt (by omega))]
 exact h.cen_in i hi
theorem Cvx.some_left {P:List (Rat × Rat)} (h:Cvx P) (a b c:Rat) (hab:a≠0∨b≠0):(∃ p∈P,0<valP a b c p)↔∃ x,InS P x∧0<valP a b c x:=by
 constructor
 ·intro hp
  have hx:=(h.clip a b c hp).inS
  exact ⟨_,((h.clip_in a b c hab hp _).2.1 hx)⟩
 ·rintro ⟨x,hx,hv⟩
  apply Classical.byContradiction
  intro hn
  have:=hx.le.val h (-a) (-b) (-c) (fun p hp=>by
   rw [val_neg]
   have:¬ 0<valP a b c p:=fun h0=>hn ⟨p,hp,h0⟩
   grind)
  rw [val_neg] at this
  grind
theorem Cvx.clip_le {P:List (Rat × Rat)} (h:Cvx P) (a b c:Rat):(clipL (valP a b c) P).length≤P.length+1:=by
 by_cases hp:∃ p∈P,0<valP a b c p
 ·by_cases hn:∃ p∈P,valP a b c p<0
  ·obtain ⟨p,h1,h2⟩:=hp
   obtain ⟨q,h3,h4⟩:=hn
   obtain ⟨i,hi,rfl⟩:=mem_pt h1
   obtain ⟨j,hj,rfl⟩:=mem_pt h3
   obtain ⟨s,m,hs,hN⟩:=nrm_exists h a b c hi hj h2 h4
   obtain ⟨t,ht,e⟩:=clip_turned (valP a b c) P hs
   have hl:=rotL_len P (Nat.le_of_lt hs)
   have:=hN.mn
   rw [e,rotL_len _ ht,hN.len]
   omega
  ·rw [clip_all (fun p hp=>Decidable.byContradiction fun h0=>hn ⟨p,hp,by grind⟩)]
   omega
 ·rw [clip_none (fun p hp'=>Decidable.byContradiction fun h0=>hp ⟨p,hp',by grind⟩)]
  have:=List.length_filter_le (fun p=>decide (valP a b c p=0)) P
  omega
def OnL (Ls:List (Rat × Rat × Rat)) (P:List (Rat × Rat)):Prop:=∀ i,i<P.length→∃ l∈Ls,valP l.1 l.2.1 l.2.2 (pt P i)=0∧valP l.1 l.2.1 l.2.2 (pt P (nxI P.length i))=0
theorem OnL.rot {Ls:List (Rat × Rat × Rat)} {P:List (Rat × Rat)} (h:OnL Ls P) {s:Nat} (hs:s≤P.length):OnL Ls (rotL P s):=by
 have hl:=rotL_len P hs
 intro i hi
 obtain ⟨e1,e2⟩:=rot_side hs (show i<P.length by omega)
 rw [e1,e2]
 exact h _ (rotI_lt hs (by omega))
theorem OnL.mono {Ls Ms:List (Rat × Rat × Rat)} {P:List (Rat × Rat)} (h:OnL Ls P) (hs:∀ l∈Ls,l∈Ms):OnL Ms P:=fun i hi=>by
 obtain ⟨l,hl,h1,h2⟩:=h i hi
 exact ⟨l,hs l hl,h1,h2⟩
theorem OnL.clip {Ls:List (Rat × Rat × Rat)} {P:List (Rat × Rat)} (hO:OnL Ls P) (h:Cvx P) (a b c:Rat) (hp:∃ p∈P,0<valP a b c p):OnL ((a,b,c) :: Ls) (clipL (valP a b c) P):=by
 by_cases hn:∃ p∈P,valP a b c p<0
 ·obtain ⟨p,h1,h2⟩:=hp
  obtain ⟨q,h3,h4⟩:=hn
  obtain ⟨i,hi,rfl⟩:=mem_pt h1
  obtain ⟨j,hj,rfl⟩:=mem_pt h3
  obtain ⟨s,m,hs,hN⟩:=nrm_exists h a b c hi hj h2 h4
  obtain ⟨t,ht,e⟩:=clip_turned (valP a b c) P hs
  rw [e]
  refine OnL.rot ?_ ht
  have hOR:=hO.rot (Nat.le_of_lt hs)
  have hm0:=hN.m0
  have hmn:=hN.mn
  obtain ⟨z1,z2⟩:=hN.cuts
  intro k hk
  rw [hN.len] at hk ⊢
  rcases hN.side hk with ⟨q,q1,q2⟩ | ⟨q,q1,q2⟩ | ⟨q,q1,q2⟩ | ⟨q,q1,q2⟩
  ·obtain ⟨l,hl,v1,v2⟩:=hOR k (by omega)
   rw [nx_lt (by omega)] at v2
   exact ⟨l,List.mem_cons_of_mem _ hl,by rw [q1];exact v1,by rw [q2];exact v2⟩
  ·obtain ⟨l,hl,v1,v2⟩:=hOR k (by omega)
   rw [nx_lt (by omega),q] at v2
   refine ⟨l,List.mem_cons_of_mem _ hl,by rw [q1];exact v1,?_⟩
   rw [q2,show m-1=k by omega]
   unfold cutP
   rw [val_tow,v1,v2]
   grind
  ·exact ⟨(a,b,c),List.mem_cons_self ..,by rw [q1];exact z1,by rw [q2];exact z2⟩
  ·obtain ⟨l,hl,v1,v2⟩:=hOR ((rotL P s).length-1) (by omega)
   rw [nx_end (by omega)] at v2
   refine ⟨l,List.mem_cons_of_mem _ hl,?_,by rw [q2];exact v2⟩
   rw [q1]
   unfold cutP
   rw [val_tow,v1,v2]
   grind
 ·rw [clip_all (fun p hp=>Decidable.byContradiction fun h0=>hn ⟨p,hp,by grind⟩)]
  exact hO.mono (fun l hl=>List.mem_cons_of_mem _ hl)
def sideL (p q:Rat × Rat):Rat × Rat × Rat:=(p.2-q.2,q.1-p.1,valP (p.2-q.2) (q.1-p.1) 0 p)
theorem sideL_val (p q x:Rat × Rat):valP (sideL p q).1 (sideL p q).2.1 (sideL p q).2.2 x=crs p q x:=(crs_val p q x).symm
def sidesL (P:List (Rat × Rat)):List (Rat × Rat × Rat):=(List.range P.length).map (fun i=>sideL (pt P i) (pt P (nxI P.length i)))
theorem onL_own (P:List (Rat × Rat)):OnL (sidesL P) P:=fun i hi =>
 ⟨_,List.mem_map.2 ⟨i,List.mem_range.2 hi,rfl⟩,by rw [sideL_val,crs_self],by rw [sideL_val,crs_end]⟩
def LeastAt (P:List (Rat × Rat)) (t:Nat):Prop:=t<P.length∧∀ j,j<P.length→¬ lssP (pt P j) (pt P t)
theorem lssP_eq {a b:Rat × Rat} (h:¬ lssP a b) (k:¬ lssP b a):a=b:=Decidable.byContradiction fun hn=>(lssP_total hn).elim h k
theorem LeastAt.same {P:List (Rat × Rat)} {s t:Nat} (h:LeastAt P s) (k:LeastAt P t):pt P s=pt P t:=lssP_eq (k.2 s h.1) (h.2 t k.1)
theorem LeastAt.unique {P:List (Rat × Rat)} (hP:Cvx P) {s t:Nat} (h:LeastAt P s) (k:LeastAt P t):s=t:=by
 apply Decidable.byContradiction
 intro hn
 have:=h.same k
 rw [pt_eq h.1,pt_eq k.1] at this
 exact hP.inj s t h.1 k.1 hn this
theorem Cvx.begin_at {P:List (Rat × Rat)} (h:Cvx P) {t:Nat} (ht:LeastAt P t):Poly (rotL P t):=by
 have h3:=h.1
 have hl:=rotL_len P (Nat.le_of_lt ht.1)
 refine ⟨h.rot (Nat.le_of_lt ht.1),fun j hj=>?_⟩
 rw [←pt_eq hj,←pt_eq (by omega),pt_rot P (Nat.le_of_lt ht.1) (by omega),pt_rot P (Nat.le_of_lt ht.1) (by omega)]
 have e:rotI P.length t 0=t:=by unfold rotI;have:=ht.1;rw [if_pos (by omega)];omega
 rw [e]
 exact ht.2 _ (rotI_lt (Nat.le_of_lt ht.1) (by omega))
theorem Poly.least {P:List (Rat × Rat)} (h:Poly P):LeastAt P 0:=by
 have h3:=h.1.1
 refine ⟨by omega,fun j hj=>?_⟩
 rw [pt_eq hj,pt_eq (by omega)]
 exact h.2 j hj
structure Meet (P Q:List (Rat × Rat)) (k:Nat) (out:List (Rat × Rat)):Prop where
 cvx:Cvx out
 onl:OnL (sidesL P++sidesL Q) out
 len:out.length≤P.length+k
 inp:∀ x,InP out x↔InP P x∧∀ i,i<k→0≤crs (pt Q i) (pt Q (nxI Q.length i)) x
 ins:∀ x,InS out x↔InS P x∧∀ i,i<k→0<crs (pt Q i) (pt Q (nxI Q.length i)) x
theorem Meet.zero {P:List (Rat × Rat)} (Q:List (Rat × Rat)) (h:Cvx P):Meet P Q 0 P where
 cvx:=h
 onl:=(onL_own P).mono (fun _ hl=>List.mem_append_left _ hl)
 len:=Nat.le_refl _
 inp:=fun _=>⟨fun hx=>⟨hx,fun _ hi=>absurd hi (Nat.not_lt_zero _)⟩,fun hx=>hx.1⟩
 ins:=fun _=>⟨fun hx=>⟨hx,fun _ hi=>absurd hi (Nat.not_lt_zero _)⟩,fun hx=>hx.1⟩
theorem Meet.rot {P Q out:List (Rat × Rat)} {k:Nat} (h:Meet P Q k out) {t:Nat} (ht:t≤out.length):Meet P Q k (rotL out t) where
 cvx:=h.cvx.rot ht
 onl:=h.onl.rot ht
 len:=by rw [rotL_len out ht];exact h.len
 inp:=fun x=>by rw [inP_rot ht];exact h.inp x
 ins:=fun x=>by rw [inS_rot ht];exact h.ins x
theorem side_ne {Q:List (Rat × Rat)} (hQ:Cvx Q) {k:Nat} (hk:k<Q.length):(sideL (pt Q k) (pt Q (nxI Q.length k))).1≠0∨(sideL (pt Q k) (pt Q (nxI Q.length k))).2.1≠0:=by
 have h3:=hQ.1
 have:=hQ.ne k hk
 rw [←pt_eq hk,←pt_eq (nxI_lt (by omega))] at this
 exact ne_of_side this
theorem Meet.next {P Q out:List (Rat × Rat)} {k:Nat} (h:Meet P Q k out) (hQ:Cvx Q) (hk:k<Q.length) (hp:∃ p∈out,0<crs (pt Q k) (pt Q (nxI Q.length k)) p) :
  Meet P Q (k+1) (clipL (crs (pt Q k) (pt Q (nxI Q.length k))) out):=by
 have hne:=side_ne hQ hk
 have hf:(fun x=>crs (pt Q k) (pt Q (nxI Q.length k)) x)=valP (sideL (pt Q k) (pt Q (nxI Q.length k))).1 (sideL (pt Q k) (pt Q (nxI Q.length k))).2.1 (sideL (pt Q k) (pt Q (nxI Q.length k))).2.2:=funext fun x=>(sideL_val _ _ _).symm
 rw [show crs (pt Q k) (pt Q (nxI Q.length k))=fun x=>crs (pt Q k) (pt Q (nxI Q.length k)) x from rfl,hf]
 have hp':∃ p∈out,0<valP (sideL (pt Q k) (pt Q (nxI Q.length k))).1 (sideL (pt Q k) (pt Q (nxI Q.length k))).2.1 (sideL (pt Q k) (pt Q (nxI Q.length k))).2.2 p:=by
  obtain ⟨p,h1,h2⟩:=hp
  exact ⟨p,h1,by rw [sideL_val];exact h2⟩
 have hst:∀ (T:Nat→Prop),(∀ i,i<k+1→T i)↔(∀ i,i<k→T i)∧T k:=fun T =>
  ⟨fun H=>⟨fun i hi=>H i (by omega),H k (by omega)⟩,fun H i hi=>by
   rcases (show i<k∨i=k by omega) with e | e
   ·exact H.1 i e
   ·rw [e];exact H.2⟩
 refine ⟨h.cvx.clip _ _ _ hp',(h.onl.clip h.cvx _ _ _ hp').mono ?_,?_,fun x=>?_,fun x=>?_⟩
 ·intro l hl
  rcases List.mem_cons.1 hl with rfl | hl
  ·exact List.mem_append_right _ (List.mem_map.2 ⟨k,List.mem_range.2 hk,rfl⟩)
  ·exact hl
 ·have:=h.cvx.clip_le (sideL (pt Q k) (pt Q (nxI Q.length k))).1 (sideL (pt Q k) (pt Q (nxI Q.length k))).2.1 (sideL (pt Q k) (pt Q (nxI Q.length k))).2.2
  have:=h.len
  omega
 ·rw [(h.cvx.clip_in _ _ _ hne hp' x).1,h.inp,hst,sideL_val,and_assoc]
 ·rw [(h.cvx.clip_in _ _ _ hne hp' x).2,h.ins,hst,sideL_val,and_assoc]
theorem Meet.stop {P Q out:List (Rat × Rat)} {k:Nat} (h:Meet P Q k out) (hQ:Cvx Q) (hk:k<Q.length) (hp:¬ ∃ p∈out,0<crs (pt Q k) (pt Q (nxI Q.length k)) p) :
  ¬ ∃ x,InS P x∧InS Q x:=by
 rintro ⟨x,h1,h2⟩
 have hne:=side_ne hQ hk
 have hx:=(h.ins x).2 ⟨h1,fun i hi=>h2 i (by omega)⟩
 obtain ⟨p,hm,hv⟩:=(h.cvx.some_left _ _ (sideL (pt Q k) (pt Q (nxI Q.length k))).2.2 hne).2 ⟨x,hx,by rw [sideL_val];exact h2 k hk⟩
 rw [sideL_val] at hv
 exact hp ⟨p,hm,hv⟩
def Common (P Q R:List (Rat × Rat)):Prop:=(R=[]∧¬ ∃ x,InS P x∧InS Q x)∨(Poly R∧(∀ x,InP R x↔InP P x∧InP Q x)∧∀ x,InS R x↔InS P x∧InS Q x)
theorem Meet.all {P Q out:List (Rat × Rat)} (h:Meet P Q Q.length out) {t:Nat} (ht:LeastAt out t):Common P Q (rotL out t):=
 .inr ⟨h.cvx.begin_at ht,fun x=>by rw [inP_rot (Nat.le_of_lt ht.1),h.inp];rfl,fun x=>by rw [inS_rot (Nat.le_of_lt ht.1),h.ins];rfl⟩
theorem Common.unique {P Q R S:List (Rat × Rat)} (h:Common P Q R) (k:Common P Q S):R=S:=by
 rcases h with ⟨h1,h2⟩ | ⟨h1,h2,h3⟩ <;> rcases k with ⟨k1,k2⟩ | ⟨k1,k2,k3⟩
 ·rw [h1,k1]
 ·exact absurd ⟨_,(k3 _).1 k1.1.inS⟩ h2
 ·exact absurd ⟨_,(h3 _).1 h1.1.inS⟩ k2
 ·exact h1.unique k1 (fun x=>by rw [h2,k2])
theorem Common.swap {P Q R:List (Rat × Rat)} (h:Common P Q R):Common Q P R:=by
 rcases h with ⟨h1,h2⟩ | ⟨h1,h2,h3⟩
 ·exact .inl ⟨h1,fun ⟨x,a,b⟩=>h2 ⟨x,b,a⟩⟩
 ·exact .inr ⟨h1,fun x=>by rw [h2,and_comm],fun x=>by rw [h3,and_comm]⟩
theorem Poly.own {P:List (Rat × Rat)} (h:Poly P):Common P P P:=.inr ⟨h,fun _=>(and_self_iff).symm,fun _=>(and_self_iff).symm⟩
theorem Cvx.corner {Ls:List (Rat × Rat × Rat)} {P:List (Rat × Rat)} (h:Cvx P) (hO:OnL Ls P) (hne:∀ l∈Ls,l.1≠0∨l.2.1≠0) {p:Rat × Rat} (hp:p∈P) :
  ∃ l∈Ls,∃ m∈Ls,l.1*m.2.1-m.1*l.2.1≠0∧p.1*(l.1*m.2.1-m.1*l.2.1)=l.2.2*m.2.1-m.2.2*l.2.1∧p.2*(l.1*m.2.1-m.1*l.2.1)=l.1*m.2.2-m.1*l.2.2:=by
 obtain ⟨i,hi,rfl⟩:=mem_pt hp
 have h3:=h.1
 have hpr:=prI_lt hi
 obtain ⟨l,hl,l1,l2⟩:=hO _ hpr
 rw [nx_pr hi] at l2
 obtain ⟨m,hm,m1,m2⟩:=hO i hi
 have hT:0<crs (pt P (prI P.length i)) (pt P i) (pt P (nxI P.length i)):=by
  have:=h.2 (prI P.length i) (nxI P.length i) hpr (nxI_lt (by omega)) (by unfold nxI prI;split <;> split <;> omega) (by rw [nx_pr hi];unfold nxI;split <;> omega)
  simp only [nx_pr hi] at this
  rw [pt_eq hpr,pt_eq hi,pt_eq (nxI_lt (by omega))]
  exact this
 have nl:=hne l hl
 have nm:=hne m hm
 refine ⟨l,hl,m,hm,?_,?_,?_⟩
 ·intro hz
  generalize pt P i=p at *
  generalize pt P (nxI P.length i)=n at *
  generalize pt P (prI P.length i)=r at *
  obtain ⟨a,b,c⟩:=l
  obtain ⟨a',b',c'⟩:=m
  dsimp only at *
  unfold valP at *
  have w1:a*(p.1-r.1)+b*(p.2-r.2)=0:=by grind
  have w2:a'*(n.1-p.1)+b'*(n.2-p.2)=0:=by grind
  have key:crs r p n=(p.1-r.1)*(n.2-p.2)-(p.2-r.2)*(n.1-p.1):=by unfold crs;grind
  rw [key] at hT
  generalize p.1-r.1=u1 at *
  generalize p.2-r.2=u2 at *
  generalize n.1-p.1=v1 at *
  generalize n.2-p.2=v2 at *
  have e1:a*a'*(u1*v2-u2*v1)=0:=by grind
  have e2:b*b'*(u1*v2-u2*v1)=0:=by grind
  have e3:a*b'*(u1*v2-u2*v1)=0:=by grind
  have e4:b*a'*(u1*v2-u2*v1)=0:=by grind
  have hn:u1*v2-u2*v1≠0:=by grind
  have z:∀ t,t*(u1*v2-u2*v1)=0→t=0:=fun t ht=>(Rat.mul_eq_zero.1 ht).elim id (fun h0=>absurd h0 hn)
  have f1:=z _ e1
  have f2:=z _ e2
  have f3:=z _ e3
  have f4:=z _ e4
  rcases nl with nl | nl <;> rcases nm with nm | nm
  ·exact (Rat.mul_eq_zero.1 f1).elim nl nm
  ·exact (Rat.mul_eq_zero.1 f3).elim nl nm
  ·exact (Rat.mul_eq_zero.1 f4).elim nl nm
  ·exact (Rat.mul_eq_zero.1 f2).elim nl nm
 ·unfold valP at l2 m1;grind
 ·unfold valP at l2 m1;grind
def mapP (r s t:Rat × Rat) (p:Rat × Rat):Rat × Rat:=(r.1*p.1+r.2*p.2+t.1,s.1*p.1+s.2*p.2+t.2)
theorem crs_map (r s t a b c:Rat × Rat):crs (mapP r s t a) (mapP r s t b) (mapP r s t c)=det2 r s*crs a b c:=by unfold crs mapP det2;grind
theorem pt_map (f:Rat × Rat→Rat × Rat) (P:List (Rat × Rat)) {i:Nat} (hi:i<P.length):pt (P.map f) i=f (pt P i):=by
 rw [pt_eq (by simpa using hi),pt_eq hi,List.getElem_map]
theorem areaTo_map (r s t:Rat × Rat) (P:List (Rat × Rat)):∀ k,k+2≤P.length→areaTo (P.map (mapP r s t)) k=det2 r s*areaTo P k
 | 0,_=>by simp [areaTo,Rat.mul_zero]
 | k+1,h=>by
  show areaTo _ k+crs _ _ _=det2 r s*(areaTo P k+crs _ _ _)
  rw [areaTo_map r s t P k (by omega),pt_map _ _ (by omega),pt_map _ _ (by omega),pt_map _ _ (by omega),crs_map,Rat.mul_add]
theorem area_map (r s t:Rat × Rat) (P:List (Rat × Rat)) (h:2≤P.length):areaP (P.map (mapP r s t))=det2 r s*areaP P:=by
 unfold areaP
 rw [List.length_map,areaTo_map r s t P _ (by omega)]
theorem shoTo_rev:∀ P:List (Rat × Rat),shoTo P.reverse = -shoTo P
 | []=>by simp [shoTo]
 | [p]=>by simp [shoTo]
 | p :: q :: L=>by
  have ih:=shoTo_rev (q :: L)
  simp only [List.reverse_cons] at ih ⊢
  rw [List.append_assoc,show [q] ++ [p]=q :: [p] from rfl,shoTo_app,ih]
  simp only [shoTo]
  unfold det2
  grind
theorem area_rev (P:List (Rat × Rat)):areaP P.reverse = -areaP P:=by
 rw [area_shoe,area_shoe]
 cases P with
 | nil=>simp [shoe]
 | cons p L =>
  have e:(p :: L).reverse=L.reverse ++ [p]:=by simp
  have h1:shoe (p :: L).reverse=shoe (p :: L.reverse):=by
   rw [e]
   have:=shoe_rot (p :: L.reverse) 1
   unfold rotL at this
   simpa using this
  rw [h1]
  show shoTo (p :: (L.reverse ++ [p])) = -shoTo (p :: (L ++ [p]))
  rw [←shoTo_rev]
  simp
theorem Cvx.map {P:List (Rat × Rat)} (h:Cvx P) (r s t:Rat × Rat) (hd:0<det2 r s):Cvx (P.map (mapP r s t)):=by
 refine ⟨by rw [List.length_map];exact h.1,fun i j hi hj h1 h2=>?_⟩
 have this:=h.2 i j (by simpa using hi) (by simpa using hj) h1 (by simpa using h2)
 simp only [List.getElem_map,List.length_map,crs_map]
 exact Rat.mul_pos hd this
theorem Cvx.map_rev {P:List (Rat × Rat)} (h:Cvx P) (r s t:Rat × Rat) (hd:det2 r s<0):Cvx (P.map (mapP r s t)).reverse:=by
 refine cvx_reverse (by rw [List.length_map];exact h.1) fun i j hi hj h1 h2=>?_
 have this:=Rat.mul_pos (show 0 < -det2 r s by grind) (h.2 i j (by simpa using hi) (by simpa using hj) h1 (by simpa using h2))
 simp only [List.getElem_map,List.length_map,crs_map]
 grind
def sdU (P:List (Rat × Rat)) (a:Rat × Rat) (k:Nat):Rat:=crs (pt P k) (pt P (nxI P.length k)) a
def sdK (P:List (Rat × Rat)) (a b:Rat × Rat) (k:Nat):Rat:=sdU P a k*(sdU P a k-sdU P b k)⁻¹
def loR (P:List (Rat × Rat)) (a b:Rat × Rat):Nat→Rat
 | 0=>0
 | k+1=>if sdU P a k<sdU P b k∧loR P a b k<sdK P a b k then sdK P a b k else loR P a b k
def hiR (P:List (Rat × Rat)) (a b:Rat × Rat):Nat→Rat
 | 0=>1
 | k+1=>if sdU P b k<sdU P a k∧sdK P a b k<hiR P a b k then sdK P a b k else hiR P a b k
def loP (P:List (Rat × Rat)) (a b:Rat × Rat):Nat→Rat
 | 0=>0
 | k+1=>if (sdU P a k<0∧0≤sdU P b k)∧loP P a b k<sdK P a b k then sdK P a b k else loP P a b k
def hiP (P:List (Rat × Rat)) (a b:Rat × Rat):Nat→Rat
 | 0=>1
 | k+1=>if (0≤sdU P a k∧sdU P b k<0)∧sdK P a b k<hiP P a b k then sdK P a b k else hiP P a b k
theorem loR_nonneg (P:List (Rat × Rat)) (a b:Rat × Rat):∀ k,0≤loR P a b k
 | 0=>Rat.le_refl
 | k+1=>by
  have:=loR_nonneg P a b k
  unfold loR
  split
  ·rename_i h;grind
  ·exact this
theorem hiR_le (P:List (Rat × Rat)) (a b:Rat × Rat):∀ k,hiR P a b k≤1
 | 0=>Rat.le_refl
 | k+1=>by
  have:=hiR_le P a b k
  unfold hiR
  split
  ·rename_i h;grind
  ·exact this
theorem loR_mono (P:List (Rat × Rat)) (a b:Rat × Rat) (k:Nat):loR P a b k≤loR P a b (k+1):=by
 show _≤if _ then _ else _
 split
 ·rename_i h;exact Rat.le_of_lt h.2
 ·exact Rat.le_refl
theorem hiR_anti (P:List (Rat × Rat)) (a b:Rat × Rat) (k:Nat):hiR P a b (k+1)≤hiR P a b k:=by
 show (if _ then _ else _)≤_
 split
 ·rename_i h;exact Rat.le_of_lt h.2
 ·exact Rat.le_refl
theorem loR_up (P:List (Rat × Rat)) (a b:Rat × Rat) (j:Nat):∀ d,loR P a b j≤loR P a b (j+d)
 | 0=>Rat.le_refl
 | d+1=>Rat.le_trans (loR_up P a b j d) (loR_mono P a b (j+d))
theorem hiR_down (P:List (Rat × Rat)) (a b:Rat × Rat) (j:Nat):∀ d,hiR P a b (j+d)≤hiR P a b j
 | 0=>Rat.le_refl
 | d+1=>Rat.le_trans (hiR_anti P a b (j+d)) (hiR_down P a b j d)
theorem share_cases {u v:Rat} (h:u≠v):(u<v→0≤u→u*(u-v)⁻¹≤0)∧(u<v→v<0→1<u*(u-v)⁻¹)∧(v<u→0≤v→1≤u*(u-v)⁻¹)∧(v<u→u<0→u*(u-v)⁻¹<0):=by
 have h1:(u-v)*(u-v)⁻¹=1:=Rat.mul_inv_cancel _ (by grind)
 have hneg:u<v→(u-v)⁻¹<0:=fun hl=>by
  apply Decidable.byContradiction
  intro hn
  have:=Rat.mul_nonneg (show 0≤v-u by grind) (show 0≤(u-v)⁻¹ by grind)
  grind
 have hpos:v<u→0<(u-v)⁻¹:=fun hl=>Rat.inv_pos.2 (by grind)
 generalize (u-v)⁻¹=d at *
 refine ⟨fun a b=>?_,fun a b=>?_,fun a b=>?_,fun a b=>?_⟩
 ·have:=Rat.mul_nonneg b (show 0 ≤ -d by have:=hneg a;grind);grind
 ·have:=Rat.mul_pos (show 0 < -v by grind) (show 0 < -d by have:=hneg a;grind);grind
 ·have:=Rat.mul_nonneg b (Rat.le_of_lt (hpos a));grind
 ·have:=Rat.mul_pos (show 0 < -u by grind) (hpos a);grind
theorem chord_same (P:List (Rat × Rat)) (a b:Rat × Rat):∀ k,(∀ i,i<k→¬ (sdU P a i<0∧sdU P b i<0))→loP P a b k=loR P a b k∧hiP P a b k=hiR P a b k
 | 0,_=>⟨rfl,rfl⟩
 | k+1,h=>by
  obtain ⟨e1,e2⟩:=chord_same P a b k (fun i hi=>h i (by omega))
  have hk:=h k (by omega)
  have l0:=loR_nonneg P a b k
  have h1:=hiR_le P a b k
  unfold loP loR hiP hiR
  rw [e1,e2]
  by_cases he:sdU P a k=sdU P b k
  ·have n1:¬ sdU P a k<sdU P b k:=by grind
   have n2:¬ sdU P b k<sdU P a k:=by grind
   have n3:¬ (sdU P a k<0∧0≤sdU P b k):=by grind
   have n4:¬ (0≤sdU P a k∧sdU P b k<0):=by grind
   simp only [n1,n2,n3,n4,false_and,if_false,and_self]
  ·obtain ⟨s1,s2,s3,s4⟩:=share_cases he
   have key:∀ x,sdK P a b k=x→sdU P a k*(sdU P a k-sdU P b k)⁻¹=x:=fun x hx=>hx
   have e3:=key _ rfl
   rw [e3] at s1 s2 s3 s4
   generalize sdK P a b k=K at *
   generalize sdU P a k=u at *
   generalize sdU P b k=v at *
   generalize loR P a b k=L at *
   generalize hiR P a b k=H at *
   constructor
   ·by_cases c:u<v
    ·by_cases c0:u<0
     ·have:0≤v:=by grind
      simp only [c,c0,this,true_and]
     ·have:=s1 c (by grind)
      rw [if_neg (by grind),if_neg (by grind)]
    ·rw [if_neg (by grind),if_neg (by grind)]
   ·by_cases c:v<u
    ·by_cases c0:v<0
     ·have:0≤u:=by grind
      simp only [c,c0,this,true_and]
     ·have:=s3 c (by grind)
      rw [if_neg (by grind),if_neg (by grind)]
    ·rw [if_neg (by grind),if_neg (by grind)]
theorem chord_none (P:List (Rat × Rat)) (a b:Rat × Rat) {i n:Nat} (hi:i<n) (h1:sdU P a i<0) (h2:sdU P b i<0) (hne:sdU P a i≠sdU P b i):hiR P a b n≤loR P a b n:=by
 obtain ⟨s1,s2,s3,s4⟩:=share_cases hne
 have hl0:=loR_nonneg P a b i
 have hh1:=hiR_le P a b i
 have up:=loR_up P a b (i+1) (n-(i+1))
 have dn:=hiR_down P a b (i+1) (n-(i+1))
 rw [show i+1+(n-(i+1))=n by omega] at up dn
 have l0:=loR_nonneg P a b n
 have h1':=hiR_le P a b n
 have key:sdU P a i*(sdU P a i-sdU P b i)⁻¹=sdK P a b i:=rfl
 rw [key] at s1 s2 s3 s4
 rcases (show sdU P a i<sdU P b i∨sdU P b i<sdU P a i by grind) with c | c
 ·have k1:=s2 c h2
  have e:sdK P a b i≤loR P a b (i+1):=by
   show _≤if _ then _ else _
   split
   ·exact Rat.le_refl
   ·rename_i h;grind
  grind
 ·have k1:=s4 c h1
  have e:hiR P a b (i+1)≤sdK P a b i:=by
   show (if _ then _ else _)≤_
   split
   ·exact Rat.le_refl
   ·rename_i h;grind
  grind
def leastTo (P:List (Rat × Rat)) (x:Rat × Rat) (sg:Rat→Int):Nat→Int
 | 0=>1
 | k+1=>min (leastTo P x sg k) (sg (sdU P x k))
end Go.Proofs.YtgohnjdgoglcfaaGreatDoor
