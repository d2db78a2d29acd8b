import Derived.Test.YtogdahbbogimcaaGreatDoorPol1Z
namespace Go.Proofs.YtogdahbbogimcaaGreatDoor
instance lssP_dec (a b:Rat × Rat):Decidable (lssP a b):=by unfold lssP;infer_instance
inductive Hw where
 | apart:Hw
 | touch (z:Rat × Rat):Hw
 | over:Hw
def Seg (a b p:Rat × Rat):Prop:=∃ k:Rat,0≤k∧k≤1∧p=towP a b k
def lexLo (a b:Rat × Rat):Rat × Rat:=if lssP b a then b else a
def lexHi (a b:Rat × Rat):Rat × Rat:=if lssP b a then a else b
def collQ (a b c d:Rat × Rat):Hw:=
 let lo:=if lssP (lexLo a b) (lexLo c d) then lexLo c d else lexLo a b
 let hi:=if lssP (lexHi c d) (lexHi a b) then lexHi c d else lexHi a b
 if lssP hi lo then .apart else if lo=hi then .touch lo else .over
def meetQ (a b c d:Rat × Rat):Hw:=
 if crs a b c=0∧crs a b d=0 then collQ a b c d
 else if 0<crs a b c*crs a b d∨0<crs c d a*crs c d b then .apart
 else .touch (towP c d (crs a b c/(crs a b c-crs a b d)))
theorem Seg.swap {a b p:Rat × Rat} (h:Seg a b p):Seg b a p:=by
 obtain ⟨k,h1,h2,rfl⟩:=h
 refine ⟨1-k,by grind,by grind,?_⟩
 unfold towP
 ext
 ·show _=_;grind
 ·show _=_;grind
theorem seg_first (a b:Rat × Rat):Seg a b a:=⟨0,Rat.le_refl,by decide,by unfold towP;ext <;> (show _=_;grind)⟩
theorem seg_last (a b:Rat × Rat):Seg a b b:=⟨1,by decide,Rat.le_refl,by unfold towP;ext <;> (show _=_;grind)⟩
theorem div_in {u v:Rat} (h0:u≠v) (h:¬ 0<u*v):0≤u/(u-v)∧u/(u-v)≤1:=by
 have hne:u-v≠0:=by grind
 have e:u/(u-v)*(u-v)=u:=Rat.div_mul_cancel hne
 generalize u/(u-v)=k at *
 rcases (show 0<u-v∨u-v<0 by grind) with hp | hp
 ·have hu:0≤u:=by
   rcases (show 0≤u∨u<0 by grind) with g | g
   ·exact g
   ·have:=Rat.mul_pos (show 0 < -u by grind) (show 0 < -v by grind)
    grind
  have hv:v≤0:=by
   rcases (show v≤0∨0<v by grind) with g | g
   ·exact g
   ·have:=Rat.mul_pos (show 0<u by grind) g
    grind
  constructor
  ·rcases (show 0≤k∨k<0 by grind) with g | g
   ·exact g
   ·have:=Rat.mul_pos (show 0 < -k by grind) hp
    grind
  ·rcases (show k≤1∨1<k by grind) with g | g
   ·exact g
   ·have:=Rat.mul_pos (show 0<k-1 by grind) hp
    grind
 ·have hu:u≤0:=by
   rcases (show u≤0∨0<u by grind) with g | g
   ·exact g
   ·have:=Rat.mul_pos g (show 0<v by grind)
    grind
  have hv:0≤v:=by
   rcases (show 0≤v∨v<0 by grind) with g | g
   ·exact g
   ·have:=Rat.mul_pos (show 0 < -u by grind) (show 0 < -v by grind)
    grind
  constructor
  ·rcases (show 0≤k∨k<0 by grind) with g | g
   ·exact g
   ·have:=Rat.mul_pos (show 0 < -k by grind) (show 0 < -(u-v) by grind)
    grind
  ·rcases (show k≤1∨1<k by grind) with g | g
   ·exact g
   ·have:=Rat.mul_pos (show 0<k-1 by grind) (show 0 < -(u-v) by grind)
    grind
theorem eq_of_mul {x y d:Rat} (hd:d≠0) (h:x*d=y*d):x=y:=by
 have h1:(x-y)*d=0:=by grind
 rcases Rat.mul_eq_zero.1 h1 with h2 | h2
 ·grind
 ·exact absurd h2 hd
theorem cross_same {a b c d:Rat × Rat} (hne:crs a b c-crs a b d≠0):crs c d a-crs c d b≠0∧towP c d (crs a b c/(crs a b c-crs a b d))=towP a b (crs c d a/(crs c d a-crs c d b)):=by
 have e:crs c d a-crs c d b = -(crs a b c-crs a b d):=by unfold crs;grind
 have hne2:crs c d a-crs c d b≠0:=by rw [e];grind
 have k1:crs a b c/(crs a b c-crs a b d)*(crs a b c-crs a b d)=crs a b c:=Rat.div_mul_cancel hne
 have k2:crs c d a/(crs c d a-crs c d b)*(crs c d a-crs c d b)=crs c d a:=Rat.div_mul_cancel hne2
 refine ⟨hne2,?_⟩
 generalize crs a b c/(crs a b c-crs a b d)=k at *
 generalize crs c d a/(crs c d a-crs c d b)=m at *
 rw [e] at k2
 have p1:(c.1-a.1)*(crs a b c-crs a b d)+crs a b c*(d.1-c.1)+crs c d a*(b.1-a.1)=0:=by unfold crs;grind
 have p2:(c.2-a.2)*(crs a b c-crs a b d)+crs a b c*(d.2-c.2)+crs c d a*(b.2-a.2)=0:=by unfold crs;grind
 generalize crs a b c=u at *
 generalize crs a b d=v at *
 generalize crs c d a=s at *
 unfold towP
 ext
 ·exact eq_of_mul hne (by show (c.1+k*(d.1-c.1))*(u-v)=(a.1+m*(b.1-a.1))*(u-v);grind)
 ·exact eq_of_mul hne (by show (c.2+k*(d.2-c.2))*(u-v)=(a.2+m*(b.2-a.2))*(u-v);grind)
theorem coll_back {a b c d:Rat × Rat} (hab:a≠b) (h1:crs a b c=0) (h2:crs a b d=0):crs c d a=0∧crs c d b=0:=by
 by_cases hx:b.1-a.1=0
 ·have hy:b.2-a.2≠0:=fun h=>hab (by ext <;> grind)
  exact ⟨eq_of_mul hy (by unfold crs at *; grind),eq_of_mul hy (by unfold crs at *; grind)⟩
 ·exact ⟨eq_of_mul hx (by unfold crs at *; grind),eq_of_mul hx (by unfold crs at *; grind)⟩
theorem seg_lex {a b p:Rat × Rat} (hab:lssP a b) (h0:crs a b p=0) (h1:¬ lssP p a) (h2:¬ lssP b p):Seg a b p:=by
 unfold lssP at hab h1 h2
 by_cases hx:a.1<b.1
 ·have hd:b.1-a.1≠0:=by grind
  have k1:(p.1-a.1)/(b.1-a.1)*(b.1-a.1)=p.1-a.1:=Rat.div_mul_cancel hd
  have q1:a.1≤p.1:=by grind
  have q2:p.1≤b.1:=by grind
  refine ⟨(p.1-a.1)/(b.1-a.1),?_,?_,?_⟩
  ·generalize (p.1-a.1)/(b.1-a.1)=k at *
   rcases (show 0≤k∨k<0 by grind) with g | g
   ·exact g
   ·have:=Rat.mul_pos (show 0 < -k by grind) (show 0<b.1-a.1 by grind)
    grind
  ·generalize (p.1-a.1)/(b.1-a.1)=k at *
   rcases (show k≤1∨1<k by grind) with g | g
   ·exact g
   ·have:=Rat.mul_pos (show 0<k-1 by grind) (show 0<b.1-a.1 by grind)
    grind
  ·generalize (p.1-a.1)/(b.1-a.1)=k at *
   unfold towP
   unfold crs at h0
   ext
   ·show p.1=a.1+k*(b.1-a.1);grind
   ·exact eq_of_mul hd (by show p.2*(b.1-a.1)=(a.2+k*(b.2-a.2))*(b.1-a.1);grind)
 ·have hx1:a.1=b.1:=by grind
  have hy:a.2<b.2:=by grind
  have hp:p.1=a.1:=by grind
  have hd:b.2-a.2≠0:=by grind
  have k1:(p.2-a.2)/(b.2-a.2)*(b.2-a.2)=p.2-a.2:=Rat.div_mul_cancel hd
  have q1:a.2≤p.2:=by grind
  have q2:p.2≤b.2:=by grind
  refine ⟨(p.2-a.2)/(b.2-a.2),?_,?_,?_⟩
  ·generalize (p.2-a.2)/(b.2-a.2)=k at *
   rcases (show 0≤k∨k<0 by grind) with g | g
   ·exact g
   ·have:=Rat.mul_pos (show 0 < -k by grind) (show 0<b.2-a.2 by grind)
    grind
  ·generalize (p.2-a.2)/(b.2-a.2)=k at *
   rcases (show k≤1∨1<k by grind) with g | g
   ·exact g
   ·have:=Rat.mul_pos (show 0<k-1 by grind) (show 0<b.2-a.2 by grind)
    grind
  ·generalize (p.2-a.2)/(b.2-a.2)=k at *
   unfold towP
   ext
   ·show p.1=a.1+k*(b.1-a.1);grind
   ·show p.2=a.2+k*(b.2-a.2);grind
theorem lex_pair {a b:Rat × Rat} (h:a≠b):lssP (lexLo a b) (lexHi a b)∧(∀ p,Seg (lexLo a b) (lexHi a b) p→Seg a b p)∧∀ p,crs a b p=0→crs (lexLo a b) (lexHi a b) p=0:=by
 unfold lexLo lexHi
 by_cases hl:lssP b a
 ·rw [if_pos hl,if_pos hl]
  exact ⟨hl,fun _=>Seg.swap,fun p hp=>by unfold crs at *; grind⟩
 ·rw [if_neg hl,if_neg hl]
  exact ⟨(lssP_total h).resolve_right hl,fun _=>id,fun _=>id⟩
theorem lexLo_or (a b:Rat × Rat):lexLo a b=a∨lexLo a b=b:=by unfold lexLo;split <;> simp
theorem lexHi_or (a b:Rat × Rat):lexHi a b=a∨lexHi a b=b:=by unfold lexHi;split <;> simp
theorem coll_sound {a b c d:Rat × Rat} (hab:a≠b) (hcd:c≠d) (h1:crs a b c=0) (h2:crs a b d=0) :
  collQ a b c d=.apart∨(∃ z,collQ a b c d=.touch z∧Seg a b z∧Seg c d z)∨(collQ a b c d=.over∧∃ z z',z≠z'∧(Seg a b z∧Seg c d z)∧Seg a b z'∧Seg c d z'):=by
 obtain ⟨h3,h4⟩:=coll_back hab h1 h2
 obtain ⟨a1,a2,a3⟩:=lex_pair hab
 obtain ⟨c1,c2,c3⟩:=lex_pair hcd
 have e1:crs (lexLo a b) (lexHi a b) (lexLo c d)=0:=a3 _ (by rcases lexLo_or c d with h | h <;> rw [h] <;> assumption)
 have e2:crs (lexLo a b) (lexHi a b) (lexHi c d)=0:=a3 _ (by rcases lexHi_or c d with h | h <;> rw [h] <;> assumption)
 have e3:crs (lexLo c d) (lexHi c d) (lexLo a b)=0:=c3 _ (by rcases lexLo_or a b with h | h <;> rw [h] <;> assumption)
 have e4:crs (lexLo c d) (lexHi c d) (lexHi a b)=0:=c3 _ (by rcases lexHi_or a b with h | h <;> rw [h] <;> assumption)
 unfold collQ
 generalize lexLo a b=A at *
 generalize lexHi a b=B at *
 generalize lexLo c d=C at *
 generalize lexHi c d=D at *
 dsimp only
 obtain ⟨lo,hlo⟩ : ∃ lo,lo=(if lssP A C then C else A):=⟨_,rfl⟩
 obtain ⟨hi,hhi⟩ : ∃ hi,hi=(if lssP D B then D else B):=⟨_,rfl⟩
 rw [←hlo,←hhi]
 by_cases hx:lssP hi lo
 ·rw [if_pos hx];exact .inl rfl
 rw [if_neg hx]
 have kl:Seg A B lo∧Seg C D lo:=by
  by_cases hac:lssP A C
  ·rw [if_pos hac] at hlo
   subst hlo
   refine ⟨seg_lex a1 e1 (lssP_asymm hac) (fun h=>?_),seg_first _ _⟩
   by_cases hdb:lssP D B
   ·exact lssP_asymm c1 (lssP_trans hdb h)
   ·rw [if_neg hdb] at hhi
    subst hhi
    exact hx h
  ·rw [if_neg hac] at hlo
   subst hlo
   refine ⟨seg_first _ _,seg_lex c1 e3 hac (fun h=>?_)⟩
   have hdb:=lssP_trans h a1
   rw [if_pos hdb] at hhi
   subst hhi
   exact hx h
 have kh:Seg A B hi∧Seg C D hi:=by
  by_cases hdb:lssP D B
  ·rw [if_pos hdb] at hhi
   subst hhi
   refine ⟨seg_lex a1 e2 (fun h=>?_) (lssP_asymm hdb),seg_last _ _⟩
   by_cases hac:lssP A C
   ·exact lssP_asymm c1 (lssP_trans h hac)
   ·rw [if_neg hac] at hlo
    subst hlo
    exact hx h
  ·rw [if_neg hdb] at hhi
   subst hhi
   refine ⟨seg_last _ _,seg_lex c1 e4 (fun h=>?_) hdb⟩
   have hac:=lssP_trans a1 h
   rw [if_pos hac] at hlo
   subst hlo
   exact hx h
 by_cases he:lo=hi
 ·rw [if_pos he]
  exact .inr (.inl ⟨lo,rfl,a2 _ kl.1,c2 _ kl.2⟩)
 ·rw [if_neg he]
  exact .inr (.inr ⟨rfl,lo,hi,he,⟨a2 _ kl.1,c2 _ kl.2⟩,a2 _ kh.1,c2 _ kh.2⟩)
theorem meet_sound {a b c d:Rat × Rat} (hab:a≠b) (hcd:c≠d) :
  meetQ a b c d=.apart∨(∃ z,meetQ a b c d=.touch z∧Seg a b z∧Seg c d z)∨(meetQ a b c d=.over∧∃ z z',z≠z'∧(Seg a b z∧Seg c d z)∧Seg a b z'∧Seg c d z'):=by
 unfold meetQ
 by_cases h0:crs a b c=0∧crs a b d=0
 ·rw [if_pos h0]
  exact coll_sound hab hcd h0.1 h0.2
 ·rw [if_neg h0]
  by_cases h1:0<crs a b c*crs a b d∨0<crs c d a*crs c d b
  ·rw [if_pos h1];exact .inl rfl
  ·rw [if_neg h1]
   have hu:¬ 0<crs a b c*crs a b d:=fun h=>h1 (.inl h)
   have hv:¬ 0<crs c d a*crs c d b:=fun h=>h1 (.inr h)
   have hne:crs a b c≠crs a b d:=fun e=>by
    rw [e] at hu h0
    have hz:crs a b d≠0:=fun h=>h0 ⟨h,h⟩
    rcases (show 0<crs a b d∨crs a b d<0 by grind) with g | g
    ·exact hu (Rat.mul_pos g g)
    ·have:=Rat.mul_pos (show 0 < -crs a b d by grind) (show 0 < -crs a b d by grind)
     grind
   obtain ⟨hne2,hz⟩:=cross_same (show crs a b c-crs a b d≠0 by grind)
   have k1:=div_in hne hu
   have k2:=div_in (show crs c d a≠crs c d b by grind) hv
   exact .inr (.inl ⟨_,rfl,⟨_,k2.1,k2.2,hz⟩,⟨_,k1.1,k1.2,rfl⟩⟩)
def crossB (c:List (Rat × Rat)) (segs i k:Nat):Bool:=
 match meetQ (pt c i) (pt c ((i+1) % c.length)) (pt c k) (pt c ((k+1) % c.length)) with
 | .apart=>false
 | .over=>true
 | .touch z=>if ¬ (k=i+1∨(segs=c.length∧i=0∧k=c.length-1)) then true else if k=i+1∧z=pt c k then false else decide (z≠pt c i∨k≠c.length-1)
structure SimpleC (c:List (Rat × Rat)) (segs:Nat):Prop where
 ne:∀ i,i<segs→pt c i≠pt c ((i+1) % c.length)
 meet:∀ i k z,i<k→k<segs→Seg (pt c i) (pt c ((i+1) % c.length)) z→Seg (pt c k) (pt c ((k+1) % c.length)) z →
  (k=i+1∧z=pt c k)∨(k≠i+1∧segs=c.length∧i=0∧k=c.length-1∧z=pt c i)
theorem SimpleC.not_crossed {c:List (Rat × Rat)} {segs:Nat} (h:SimpleC c segs) {i k:Nat} (hik:i<k) (hk:k<segs):crossB c segs i k=false:=by
 unfold crossB
 have hm:=h.meet i k
 rcases meet_sound (h.ne i (by omega)) (h.ne k hk) with e | ⟨z,e,s1,s2⟩ | ⟨e,z,z',hz,⟨s1,s2⟩,s3,s4⟩
 ·rw [e]
 ·rw [e]
  rcases hm z hik hk s1 s2 with ⟨q1,q2⟩ | ⟨q0,q1,q2,q3,q4⟩
  ·simp only
   rw [if_neg (fun hh=>hh (.inl q1)),if_pos ⟨q1,q2⟩]
  ·simp only
   rw [if_neg (fun hh=>hh (.inr ⟨q1,q2,q3⟩)),if_neg (fun hh=>q0 hh.1)]
   exact decide_eq_false (fun hh=>hh.elim (fun g=>g q4) (fun g=>g q3))
 ·rw [e]
  exfalso
  apply hz
  rcases hm z hik hk s1 s2 with ⟨q1,q2⟩ | ⟨q0,q1,q2,q3,q4⟩ <;> rcases hm z' hik hk s3 s4 with ⟨p1,p2⟩ | ⟨p0,p1,p2,p3,p4⟩
  ·rw [q2,p2]
  ·exact absurd q1 p0
  ·exact absurd p1 q0
  ·rw [q4,p4]
def ringF (f g:Nat→Rat × Rat) (n:Nat):List (Rat × Rat):=(List.range (n+1)).map f++((List.range (n+1)).map g).reverse
theorem ring_len (f g:Nat→Rat × Rat) (n:Nat):(ringF f g n).length=2*n+2:=by unfold ringF;simp;omega
theorem ring_lo {f g:Nat→Rat × Rat} {n i:Nat} (hi:i≤n):pt (ringF f g n) i=f i:=by
 rw [pt_eq (by rw [ring_len];omega)]
 unfold ringF
 rw [List.getElem_append_left (by simp;omega),List.getElem_map,List.getElem_range]
theorem ring_hi {f g:Nat→Rat × Rat} {n j:Nat} (hj:j≤n):pt (ringF f g n) (n+1+j)=g (n-j):=by
 rw [pt_eq (by rw [ring_len];omega)]
 unfold ringF
 rw [List.getElem_append_right (by simp),List.getElem_reverse,List.getElem_map,List.getElem_range]
 congr 1
 simp
theorem seg_at (f g:Nat→Rat × Rat) {n i:Nat} (hi:i<2*n+2) :
  (i<n∧pt (ringF f g n) i=f i∧pt (ringF f g n) ((i+1) % (ringF f g n).length)=f (i+1)) ∨
  (i=n∧pt (ringF f g n) i=f n∧pt (ringF f g n) ((i+1) % (ringF f g n).length)=g n) ∨
  (∃ m,m<n∧i+m=2*n∧pt (ringF f g n) i=g (m+1)∧pt (ringF f g n) ((i+1) % (ringF f g n).length)=g m) ∨
  (i=2*n+1∧pt (ringF f g n) i=g 0∧pt (ringF f g n) ((i+1) % (ringF f g n).length)=f 0):=by
 rw [ring_len]
 rcases (show i<n∨i=n∨(n<i∧i<2*n+1)∨i=2*n+1 by omega) with h | h | h | h
 ·rw [Nat.mod_eq_of_lt (by omega),ring_lo (by omega),ring_lo (by omega)]
  exact .inl ⟨h,rfl,rfl⟩
 ·subst h
  rw [Nat.mod_eq_of_lt (by omega),ring_lo (Nat.le_refl _),show i+1=i+1+0 from rfl,ring_hi (Nat.zero_le _)]
  exact .inr (.inl ⟨rfl,rfl,rfl⟩)
 ·obtain ⟨j,rfl⟩ : ∃ j,i=n+1+j:=⟨i-(n+1),by omega⟩
  rw [Nat.mod_eq_of_lt (by omega),ring_hi (by omega),Nat.add_assoc (n+1) j 1,ring_hi (by omega)]
  exact .inr (.inr (.inl ⟨n-(j+1),by omega,by omega,by rw [show n-(j+1)+1=n-j by omega],rfl⟩))
 ·subst h
  rw [show 2*n+1+1=2*n+2 from rfl,Nat.mod_self,ring_lo (Nat.zero_le _),show 2*n+1=n+1+n by omega,ring_hi (Nat.le_refl _),Nat.sub_self]
  exact .inr (.inr (.inr ⟨rfl,rfl,rfl⟩))
structure RingOk (f g:Nat→Rat × Rat) (n:Nat):Prop where
 n1:1≤n
 nel:∀ i,i<n→f i≠f (i+1)
 neh:∀ i,i<n→g i≠g (i+1)
 ner:f n≠g n
 ne0:f 0≠g 0
 LL:∀ i k z,i<k→k<n→Seg (f i) (f (i+1)) z→Seg (f k) (f (k+1)) z→k=i+1∧z=f k
 HH:∀ i k z,i<k→k<n→Seg (g i) (g (i+1)) z→Seg (g k) (g (k+1)) z→k=i+1∧z=g k
 LH:∀ i k z,i<n→k<n→Seg (f i) (f (i+1)) z→¬ Seg (g k) (g (k+1)) z
 LR:∀ i z,i<n→Seg (f i) (f (i+1)) z→Seg (f n) (g n) z→i+1=n∧z=f n
 LE:∀ i z,i<n→Seg (f i) (f (i+1)) z→Seg (f 0) (g 0) z→i=0∧z=f 0
 HR:∀ i z,i<n→Seg (g i) (g (i+1)) z→Seg (f n) (g n) z→i+1=n∧z=g n
 HE:∀ i z,i<n→Seg (g i) (g (i+1)) z→Seg (f 0) (g 0) z→i=0∧z=g 0
 RE:∀ z,Seg (f n) (g n) z→¬ Seg (f 0) (g 0) z
theorem RingOk.simple {f g:Nat→Rat × Rat} {n:Nat} (h:RingOk f g n):SimpleC (ringF f g n) (2*n+2) where
 ne:=fun i hi=>by
  rcases seg_at f g hi with ⟨h1,e1,e2⟩ | ⟨h1,e1,e2⟩ | ⟨m,h1,h2,e1,e2⟩ | ⟨h1,e1,e2⟩ <;> rw [e1,e2]
  ·exact h.nel i h1
  ·exact h.ner
  ·exact fun e=>h.neh m h1 e.symm
  ·exact fun e=>h.ne0 e.symm
 meet:=fun i k z hik hk s1 s2=>by
  have hn:=h.n1
  have hl:=ring_len f g n
  rcases seg_at f g (show i<2*n+2 by omega) with ⟨h1,e1,e2⟩ | ⟨h1,e1,e2⟩ | ⟨m,h1,h2,e1,e2⟩ | ⟨h1,e1,e2⟩ <;> rcases seg_at f g hk with ⟨k1,d1,d2⟩ | ⟨k1,d1,d2⟩ | ⟨m',k1,k2,d1,d2⟩ | ⟨k1,d1,d2⟩ <;> rw [e1,e2] at s1 <;> rw [d1,d2] at s2
  ·obtain ⟨q1,q2⟩:=h.LL i k z hik k1 s1 s2
   exact .inl ⟨q1,by rw [d1];exact q2⟩
  ·obtain ⟨q1,q2⟩:=h.LR i z h1 s1 s2
   exact .inl ⟨by omega,by rw [d1];exact q2⟩
  ·exact absurd s2.swap (h.LH i m' z h1 k1 s1)
  ·obtain ⟨q1,q2⟩:=h.LE i z h1 s1 s2.swap
   exact .inr ⟨by omega,by omega,q1,by omega,by rw [e1,q1];exact q2⟩
  ·omega
  ·omega
  ·obtain ⟨q1,q2⟩:=h.HR m' z k1 s2.swap s1
   exact .inl ⟨by omega,by rw [d1,q1];exact q2⟩
  ·exact absurd s2.swap (h.RE z s1)
  ·omega
  ·omega
  ·obtain ⟨q1,q2⟩:=h.HH m' m z (by omega) h1 s2.swap s1.swap
   exact .inl ⟨by omega,by rw [d1,←q1];exact q2⟩
  ·obtain ⟨q1,q2⟩:=h.HE m z h1 s1.swap s2.swap
   exact .inl ⟨by omega,by rw [d1];exact q2⟩
  ·omega
  ·omega
  ·omega
  ·omega
def chF (f:Nat→Rat × Rat) (n:Nat):List (Rat × Rat):=(List.range (n+1)).map f
theorem ch_len (f:Nat→Rat × Rat) (n:Nat):(chF f n).length=n+1:=by unfold chF;simp
theorem ch_pt {f:Nat→Rat × Rat} {n i:Nat} (hi:i≤n):pt (chF f n) i=f i:=by
 rw [pt_eq (by rw [ch_len];omega)]
 unfold chF
 rw [List.getElem_map,List.getElem_range]
theorem chain_simple {f:Nat→Rat × Rat} {n:Nat} (nel:∀ i,i<n→f i≠f (i+1)) (LL:∀ i k z,i<k→k<n→Seg (f i) (f (i+1)) z→Seg (f k) (f (k+1)) z→k=i+1∧z=f k):SimpleC (chF f n) n where
 ne:=fun i hi=>by
  rw [ch_len,Nat.mod_eq_of_lt (by omega),ch_pt (by omega),ch_pt (by omega)]
  exact nel i hi
 meet:=fun i k z hik hk s1 s2=>by
  rw [ch_len,Nat.mod_eq_of_lt (by omega),ch_pt (by omega),ch_pt (by omega)] at s1 s2
  obtain ⟨q1,q2⟩:=LL i k z hik hk s1 s2
  exact .inl ⟨q1,by rw [ch_pt (by omega)];exact q2⟩
def sumTo (q:Nat→Rat):Nat→Rat
 | 0=>0
 | k+1=>sumTo q k+q k
def quadP (p q r t:Rat × Rat):Rat:=det2 p q+det2 q r+det2 r t+det2 t p
theorem sho_map (f:Nat→Rat × Rat):∀ k,shoTo ((List.range (k+1)).map f)=sumTo (fun i=>det2 (f i) (f (i+1))) k
 | 0=>rfl
 | k+1=>by
  have ih:=sho_map f k
  have e:(List.range (k+1+1)).map f=(List.range k).map f++f k :: [f (k+1)]:=by
   rw [List.range_succ,List.range_succ,List.map_append,List.map_append,List.append_assoc];rfl
  have e2:(List.range (k+1)).map f=(List.range k).map f ++ [f k]:=by rw [List.range_succ,List.map_append];rfl
  rw [e,shoTo_app,←e2,ih]
  show _+(det2 (f k) (f (k+1))+0)=sumTo _ k+_
  rw [Rat.add_zero]
theorem sho_back (g:Nat→Rat × Rat):∀ k,shoTo ((List.range (k+1)).map g).reverse = -sumTo (fun i=>det2 (g i) (g (i+1))) k
 | 0=>by show (0:Rat) = -0;grind
 | k+1=>by
  have ih:=sho_back g k
  have e:((List.range (k+1+1)).map g).reverse=g (k+1) :: g k :: ((List.range k).map g).reverse:=by
   rw [List.range_succ,List.range_succ,List.map_append,List.map_append,List.reverse_append,List.reverse_append];rfl
  have e2:((List.range (k+1)).map g).reverse=g k :: ((List.range k).map g).reverse:=by
   rw [List.range_succ,List.map_append,List.reverse_append];rfl
  rw [e]
  show det2 (g (k+1)) (g k)+shoTo (g k :: _) = -(sumTo _ k+det2 (g k) (g (k+1)))
  rw [←e2,ih]
  unfold det2
  grind
theorem ring_shoe (f g:Nat→Rat × Rat) (n:Nat):areaP (ringF f g n)=sumTo (fun i=>quadP (f i) (f (i+1)) (g (i+1)) (g i)) n:=by
 rw [area_shoe,shoe_eq _ (by rw [ring_len];omega),ring_len,show 2*n+2-1=n+1+n by omega,ring_hi (Nat.le_refl _),ring_lo (Nat.zero_le _),Nat.sub_self]
 have e:ringF f g n=(List.range n).map f++f n :: (g n :: ((List.range n).map g).reverse):=by
  unfold ringF
  rw [List.range_succ,List.map_append,List.map_append,List.reverse_append,List.append_assoc];rfl
 have e1:(List.range (n+1)).map f=(List.range n).map f ++ [f n]:=by rw [List.range_succ,List.map_append];rfl
 have e2:((List.range (n+1)).map g).reverse=g n :: ((List.range n).map g).reverse:=by
  rw [List.range_succ,List.map_append,List.reverse_append];rfl
 rw [e,shoTo_app,←e1,sho_map]
 show _+(det2 (f n) (g n)+shoTo (g n :: _))+_=_
 rw [←e2,sho_back]
 clear e e1 e2
 induction n with
 | zero =>
  show (0:Rat)+(det2 (f 0) (g 0) + -0)+det2 (g 0) (f 0)=0
  unfold det2
  grind
 | succ n ih =>
  show (sumTo _ n+det2 (f n) (f (n+1)))+(det2 (f (n+1)) (g (n+1)) + -(sumTo _ n+det2 (g n) (g (n+1))))+det2 (g 0) (f 0)=sumTo _ n+quadP (f n) (f (n+1)) (g (n+1)) (g n)
  rw [←ih]
  generalize sumTo (fun i=>det2 (f i) (f (i+1))) n=u
  generalize sumTo (fun i=>det2 (g i) (g (i+1))) n=v
  unfold quadP det2
  grind
theorem sq_rat (q:Rat):(q*q).num=q.num*q.num∧(q*q).den=q.den*q.den:=by
 have hc:Nat.Coprime (q.num*q.num).natAbs (q.den*q.den):=by
  rw [Int.natAbs_mul]
  have h:=q.reduced
  exact Nat.Coprime.mul_left (Nat.Coprime.mul_right h h) (Nat.Coprime.mul_right h h)
 have hz:q.den*q.den≠0:=Nat.ne_of_gt (Nat.mul_pos q.den_pos q.den_pos)
 have e:q*q=⟨q.num*q.num,q.den*q.den,hz,hc⟩:=by
  have h1:q*q=Rat.divInt (q.num*q.num) ((q.den*q.den:Nat):Int):=by
   rw [Rat.mul_def']
   rw [Rat.divInt_ofNat]
  have h2:=(Rat.num_divInt_den (⟨q.num*q.num,q.den*q.den,hz,hc⟩ : Rat))
  rw [h1]
  exact h2
 rw [e]
 exact ⟨rfl,rfl⟩
theorem newton_ge {r x:Nat} (hx:0<x):r≤(x+r*r/x)/2:=by
 have h1:r*r<(r*r/x+1)*x:=by
  have:=Nat.lt_div_mul_add (a:=r*r) hx
  rw [Nat.add_mul,Nat.one_mul]
  exact this
 generalize r*r/x=q at *
 rcases Nat.lt_or_ge (x+q) (2*r) with h | h
 ·exfalso
  obtain ⟨d,hd⟩ : ∃ d,2*r=x+q+1+d:=⟨2*r-(x+q+1),by omega⟩
  have k1:(q+1+d+x)=2*r:=by omega
  have k2:(q+1)*x≤(q+1+d)*x:=Nat.mul_le_mul_right _ (by omega)
  have k3:(q+1+d)*x≤r*r:=by
   generalize q+1+d=p at *
   rcases Nat.le_total p r with h2 | h2
   ·obtain ⟨e,rfl⟩ : ∃ e,r=p+e:=⟨r-p,by omega⟩
    have:x=p+2*e:=by omega
    subst this
    have:p*(p+2*e)+e*e=(p+e)*(p+e):=by grind
    omega
   ·obtain ⟨e,rfl⟩ : ∃ e,p=r+e:=⟨p-r,by omega⟩
    obtain ⟨f,rfl⟩ : ∃ f,r=x+f:=⟨r-x,by omega⟩
    have:f=e:=by omega
    subst this
    have:(x+f+f)*x+f*f=(x+f)*(x+f):=by grind
    omega
  omega
 ·omega
theorem newton_stop {r x:Nat} (hx:0<x) (hr:r≤x) (hs:x≤(x+r*r/x)/2):x=r:=by
 have h1:x≤r*r/x:=by omega
 have h2:x*x≤r*r:=by
  have:=Nat.mul_le_mul_right x h1
  exact Nat.le_trans this (Nat.div_mul_le_self _ _)
 rcases Nat.lt_or_ge r x with h | h
 ·have:=Nat.mul_lt_mul_of_lt_of_le h (Nat.le_of_lt h) (by omega)
  omega
 ·omega
end Go.Proofs.YtogdahbbogimcaaGreatDoor
