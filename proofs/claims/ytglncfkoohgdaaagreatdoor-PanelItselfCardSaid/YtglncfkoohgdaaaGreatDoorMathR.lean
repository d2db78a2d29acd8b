import Derived.Lib.ItoaNum
import Derived.Lib.Bytealg
import Derived.Lib.ParseIntB
import Derived.Lib.AtoiAllCases
import Derived.Lib.Strings
namespace Go.Proofs.YtglncfkoohgdaaaGreatDoor
open Go.Lib (decDigits itoa nDigits compareBytes)
@[irreducible] def dv (c:UInt8):Nat:=c.toNat-48
def bO (c:UInt8):Bool:=48≤c.toNat && c.toNat≤57
def gV:Nat→List UInt8→Nat
 | a,[]=>a
 | a,c :: l=>gV (10*a+dv c) l
def aT (l:List UInt8):Nat:=gV 0 l
@[simp] theorem Jn (a:Nat):gV a []=a:=by rw [gV]
@[simp] theorem kS (a:Nat) (c:UInt8) (l:List UInt8):gV a (c :: l)=gV (10*a+dv c) l:=by rw [gV]
theorem Bo (a:Nat) (l m:List UInt8):gV a (l++m)=gV (gV a l) m:=by
 induction l generalizing a with
 | nil=>simp
 | cons c l ih=>simp [ih]
theorem LW (l:List UInt8):∀ a,gV a l=a*10 ^ l.length+aT l:=by
 induction l with
 | nil=>intro a;simp [aT]
 | cons c l ih =>
  intro a
  simp only [aT,kS,List.length_cons]
  rw [ih,ih (10*0+dv c)]
  simp only [aT]
  rw [Nat.pow_succ]
  simp only [Nat.mul_zero,Nat.zero_add,Nat.add_mul]
  have:10*a*10 ^ l.length=a*(10 ^ l.length*10):=by
   rw [Nat.mul_comm 10 a,Nat.mul_assoc,Nat.mul_comm 10]
  omega
@[simp] theorem adK:aT []=0:=rfl
theorem kT (l m:List UInt8):aT (l++m)=aT l*10 ^ m.length+aT m:=by
 rw [aT,Bo,LW];rfl
@[simp] theorem sG (c:UInt8):aT [c]=dv c:=by unfold aT;rw [kS,Jn];omega
theorem jF (c:UInt8) (l:List UInt8):aT (c :: l)=dv c*10 ^ l.length+aT l:=by
 have h:=kT [c] l
 simp only [List.singleton_append] at h
 rw [h,sG]
theorem uT (l:List UInt8) (c:UInt8):aT (l ++ [c])=10*aT l+dv c:=by
 rw [kT,sG];simp;omega
theorem uk {c:UInt8} (h:bO c=true):dv c<10:=by
 simp [bO] at h;unfold dv;omega
theorem vS {l:List UInt8} (h:∀ c∈l,bO c=true):aT l<10 ^ l.length:=by
 induction l with
 | nil=>simp
 | cons c l ih =>
  rw [jF,List.length_cons,Nat.pow_succ]
  have h1:=ih (fun c hc=>h c (by simp [hc]))
  have h2:=uk (h c (by simp))
  have:dv c*10 ^ l.length≤9*10 ^ l.length:=Nat.mul_le_mul_right _ (by omega)
  omega
theorem iY {n:Nat} (h:n<10):(UInt8.ofNat (48+n)).toNat=48+n:=by
 simp [UInt8.toNat_ofNat'];omega
theorem nY {n:Nat} (h:n<10):dv (UInt8.ofNat (48+n))=n:=by
 unfold dv;rw [iY h];omega
theorem zy {n:Nat} (h:n<10):bO (UInt8.ofNat (48+n))=true:=by
 unfold bO;rw [iY h];simp;omega
theorem qG {c:UInt8} (h:bO c=true):UInt8.ofNat (48+dv c)=c:=by
 simp [bO] at h
 apply UInt8.toNat_inj.1
 unfold dv
 simp [UInt8.toNat_ofNat'];omega
theorem bB {n:Nat} (h:n<10):decDigits n=[UInt8.ofNat (48+n)]:=by
 rw [decDigits,dif_pos h]
theorem fZ {n:Nat} (h:10≤n):decDigits n=decDigits (n/10) ++ [UInt8.ofNat (48+n % 10)]:=by
 rw [decDigits,dif_neg (by omega)]
theorem bH:∀ n,aT (decDigits n)=n:=by
 intro n
 induction n using Nat.strongRecOn with
 | _ n ih =>
  by_cases h:n<10
  ·rw [bB h,sG,nY h]
  ·rw [fZ (by omega),uT,ih _ (by omega),nY (by omega)];omega
theorem nH {m n:Nat} (h:decDigits m=decDigits n):m=n:=by
 rw [←bH m,h,bH]
theorem bn:∀ n,∀ c∈decDigits n,bO c=true:=by
 intro n
 induction n using Nat.strongRecOn with
 | _ n ih =>
  by_cases h:n<10
  ·rw [bB h];intro c hc;rw [List.mem_singleton] at hc;subst hc;exact zy h
  ·rw [fZ (by omega)]
   intro c hc
   rw [List.mem_append] at hc
   rcases hc with hc | hc
   ·exact ih _ (by omega) c hc
   ·rw [List.mem_singleton] at hc;subst hc;exact zy (by omega)
theorem dz (n:Nat):decDigits n≠[]:=by
 by_cases h:n<10
 ·rw [bB h];simp
 ·rw [fZ (by omega)];simp
theorem aO (n:Nat):(decDigits n).length=nDigits n:=Go.Lib.decDigits_length n
theorem lL:∀ n,n≠0→∃ c r,decDigits n=c :: r∧c.toNat≠48:=by
 intro n
 induction n using Nat.strongRecOn with
 | _ n ih =>
  intro hn
  by_cases h:n<10
  ·rw [bB h];exact ⟨_,_,rfl,by rw [iY h];omega⟩
  ·obtain ⟨c,r,he,hc⟩:=ih (n/10) (by omega) (by omega)
   rw [fZ (by omega),he]
   exact ⟨c,r ++ [_],rfl,hc⟩
theorem qH:decDigits 0=[48]:=by rw [bB (by omega)];rfl
theorem ql:∀ (l:List UInt8),l≠[]→(∀ c∈l,bO c=true)→(l.length=1∨∃ c r,l=c :: r∧c.toNat≠48)→decDigits (aT l)=l:=by
 intro l
 generalize hn:l.length=n
 induction n generalizing l with
 | zero=>intro h;simp at hn;exact (h hn).elim
 | succ n ih =>
  intro hne hd hh
  obtain ⟨m,c,rfl⟩ : ∃ m c,l=m ++ [c]:=⟨l.dropLast,l.getLast hne,(List.dropLast_concat_getLast hne).symm⟩
  have hdc:bO c=true:=hd c (by simp)
  have afH:=uk hdc
  by_cases hm:m=[]
  ·subst hm
   rw [List.nil_append,sG,bB afH,qG hdc]
  ·simp at hn
   have hm0:m.length≠0:=by simpa using hm
   obtain ⟨c0,r0,he,hc0⟩:=hh.resolve_left (by omega)
   obtain ⟨d,r,rfl⟩ : ∃ d r,m=d :: r:=by
    cases m with
    | nil=>exact (hm rfl).elim
    | cons d r=>exact ⟨d,r,rfl⟩
   simp at he
   obtain ⟨rfl,rfl⟩:=he
   have hmd:∀ c∈(d :: r),bO c=true:=fun x hx=>hd x (List.mem_append_left _ hx)
   have hv:=ih (d :: r) hn (by simp) hmd (.inr ⟨d,r,rfl,hc0⟩)
   have hpos:0<aT (d :: r):=by
    rw [jF]
    have h48:=hmd d (by simp)
    simp [bO] at h48
    have:0<dv d:=by unfold dv;omega
    have:=Nat.mul_pos this (Nat.pow_pos (n:=r.length) (show 0<10 by decide))
    omega
   rw [uT,fZ (by omega),show (10*aT (d :: r)+dv c)/10=aT (d :: r) by omega,hv,
    show (10*aT (d :: r)+dv c) % 10=dv c by omega,qG hdc]
theorem qI {n k:Nat}:n<10 ^ k∧0<k↔nDigits n≤k∧0<k:=by
 constructor
 ·rintro ⟨h,h0⟩
  refine ⟨?_,h0⟩
  apply Nat.le_of_not_lt
  intro hlt
  by_cases hz:n=0
  ·subst hz;rw [Go.Lib.nDigits_small (by omega)] at hlt;omega
  ·obtain ⟨c,r,he,hc⟩:=lL n hz
   have hv:=bH n
   have hd:=bn n
   have hl:=aO n
   rw [he] at hv hd hl
   have h48:=hd c (by simp)
   simp [bO] at h48
   have:1≤dv c:=by unfold dv;omega
   rw [jF] at hv
   have h1:=Nat.mul_le_mul_right (10 ^ r.length) this
   have h2:10 ^ k≤10 ^ r.length:=Nat.pow_le_pow_right (by decide) (by simp at hl;omega)
   omega
 ·rintro ⟨h,h0⟩
  exact ⟨Nat.lt_of_lt_of_le (Go.Lib.lt_pow_nDigits n) (Nat.pow_le_pow_right (by decide) h),h0⟩
theorem gW {n k:Nat} (h:n<10 ^ k) (h0:0<k):nDigits n≤k:=(qI.1 ⟨h,h0⟩).1
theorem yh {n k:Nat} (h:nDigits n≤k):n<10 ^ k:=
 Nat.lt_of_lt_of_le (Go.Lib.lt_pow_nDigits n) (Nat.pow_le_pow_right (by decide) h)
def val:List Nat→Nat
 | []=>0
 | x :: p=>x+1000000000*val p
def aI (n:Nat):List Nat:=
 if h:n=0 then [] else n % 1000000000 :: aI (n/1000000000)
termination_by n
decreasing_by omega
@[simp] theorem Y7:val []=0:=by rw [val]
@[simp] theorem gH (x:Nat) (p:List Nat):val (x :: p)=x+1000000000*val p:=by rw [val]
theorem eG:aI 0=[]:=by rw [aI,dif_pos rfl]
theorem sH {n:Nat} (h:n≠0):aI n=n % 1000000000 :: aI (n/1000000000):=by rw [aI,dif_neg h]
theorem gX:∀ n,val (aI n)=n:=by
 intro n
 induction n using Nat.strongRecOn with
 | _ n ih =>
  by_cases h:n=0
  ·subst h;rw [eG];rfl
  ·rw [sH h,gH,ih _ (by omega)];omega
theorem Y8 {m n:Nat} (h:aI m=aI n):m=n:=by rw [←gX m,h,gX]
theorem iO:∀ n,∀ x∈aI n,x<1000000000:=by
 intro n
 induction n using Nat.strongRecOn with
 | _ n ih =>
  by_cases h:n=0
  ·subst h;rw [eG];simp
  ·rw [sH h]
   intro x hx
   rcases List.mem_cons.1 hx with rfl | hx
   ·omega
   ·exact ih _ (by omega) x hx
theorem Bu {n:Nat}:aI n=[]↔n=0:=by
 constructor
 ·intro h;rw [←gX n,h];rfl
 ·rintro rfl;exact eG
theorem EI {n:Nat} (h:n≠0) (h':n<1000000000):aI n=[n]:=by
 rw [sH h,Nat.mod_eq_of_lt h',Nat.div_eq_of_lt h',eG]
theorem val_append (a b:List Nat):val (a++b)=val a+1000000000 ^ a.length*val b:=by
 induction a with
 | nil=>simp
 | cons x a ih =>
  simp only [List.cons_append,gH,ih,List.length_cons,Nat.pow_succ,Nat.mul_add]
  rw [Nat.mul_comm (1000000000 ^ a.length) 1000000000,Nat.mul_assoc]
  omega
theorem Bv (a:List Nat) (x:Nat):val (a ++ [x])=val a+1000000000 ^ a.length*x:=by
 rw [val_append];simp
theorem LX {a:List Nat} (h:∀ x∈a,x<1000000000):val a<1000000000 ^ a.length:=by
 induction a with
 | nil=>simp
 | cons x a ih =>
  rw [gH,List.length_cons,Nat.pow_succ]
  have h1:=ih (fun y hy=>h y (List.mem_cons_of_mem _ hy))
  have h2:=h x (List.mem_cons_self)
  omega
theorem Y9:∀ (a:List Nat),(∀ x∈a,x<1000000000)→(∀ h:a≠[],a.getLast h≠0)→aI (val a)=a:=by
 intro a
 induction a with
 | nil=>intro _ _;exact eG
 | cons x a ih =>
  intro h hl
  have hx:=h x (List.mem_cons_self)
  have ha:∀ y∈a,y<1000000000:=fun y hy=>h y (List.mem_cons_of_mem _ hy)
  have hne:val (x :: a)≠0:=by
   rw [gH]
   by_cases he:a=[]
   ·subst he
    have:=hl (by simp)
    simp at this ⊢
    omega
   ·have h1:=ih ha (fun h'=>by have:=hl (by simp);rwa [List.getLast_cons he] at this)
    have h2:val a≠0:=fun h0=>he (by rw [←h1,h0,eG])
    omega
  rw [sH hne,gH,show (x+1000000000*val a) % 1000000000=x by omega,show (x+1000000000*val a)/1000000000=val a by omega]
  by_cases he:a=[]
  ·subst he;rw [Y7,eG]
  ·rw [ih ha (fun h'=>by have:=hl (by simp);rwa [List.getLast_cons he] at this)]
theorem Jo:∀ (n:Nat) (h:aI n≠[]),(aI n).getLast h≠0:=by
 intro n
 induction n using Nat.strongRecOn with
 | _ n ih =>
  intro h
  have h0:n≠0:=fun h'=>h (by rw [h',eG])
  by_cases he:aI (n/1000000000)=[]
  ·have:n/1000000000=0:=Bu.1 he
   have e:aI n=[n]:=EI h0 (by omega)
   simp only [e];simpa using h0
  ·have e:=sH h0
   have:=ih (n/1000000000) (by omega) he
   simp only [e]
   rwa [List.getLast_cons he]
theorem Bw {n k:Nat} (h:n<1000000000 ^ k):(aI n).length≤k:=by
 induction k generalizing n with
 | zero=>simp at h;subst h;rw [eG];simp
 | succ k ih =>
  by_cases h0:n=0
  ·subst h0;rw [eG];simp
  ·rw [sH h0,List.length_cons]
   have:=ih (n:=n/1000000000) (by rw [Nat.pow_succ] at h;omega)
   omega
theorem D7 (n:Nat):n<1000000000 ^ (aI n).length:=by
 have:=LX (iO n)
 rwa [gX] at this
theorem kU {m n:Nat} (h:m≤n):(aI m).length≤(aI n).length:=
 Bw (Nat.lt_of_le_of_lt h (D7 n))
theorem vT {m n:Nat} (h:(aI m).length<(aI n).length):m<n:=by
 apply Nat.lt_of_not_le
 intro hle
 have:=kU hle
 omega
theorem D8 {a b:List Nat} (hl:a.length=b.length) (ha:∀ x∈a,x<1000000000) (i:Nat) (hi:i<a.length)
  (hlt:a[i]<b[i]'(by omega)) (heq:∀ j (h:j<a.length),i<j→a[j]=b[j]'(by omega)):val a<val b:=by
 have hb:i<b.length:=by omega
 have e1:a=a.take i++a[i] :: a.drop (i+1):=by
  rw [←List.drop_eq_getElem_cons hi,List.take_append_drop]
 have e2:b=b.take i++b[i] :: b.drop (i+1):=by
  rw [←List.drop_eq_getElem_cons hb,List.take_append_drop]
 have e3:a.drop (i+1)=b.drop (i+1):=by
  apply List.ext_getElem
  ·simp;omega
  ·intro j h1 h2
   simp only [List.getElem_drop]
   have:i+1+j<a.length:=by simp at h1;omega
   exact heq _ this (by omega)
 rw [e1,e2,val_append,val_append,e3,gH,gH]
 have RH:val (a.take i)<1000000000 ^ (a.take i).length:=LX (fun x hx=>ha x (List.mem_of_mem_take hx))
 rw [show (a.take i).length=i by simp;omega] at *
 rw [show (b.take i).length=i by simp;omega]
 have h1:1000000000 ^ i*(a[i]+1000000000*val (b.drop (i+1))+1)≤1000000000 ^ i*(b[i]+1000000000*val (b.drop (i+1))):=
  Nat.mul_le_mul_left _ (by omega)
 rw [Nat.mul_add _ _ 1] at h1
 omega
theorem dF {n:Nat} (h:n≠0):0<(aI n).length:=by
 apply Nat.pos_of_ne_zero
 simpa [Bu] using h
theorem itoa_neg {n:Int} (h:n<0):itoa n=45 :: decDigits n.natAbs:=by unfold itoa;rw [if_pos h]
theorem itoa_nonneg {n:Int} (h:0≤n):itoa n=decDigits n.toNat:=by unfold itoa;rw [if_neg (by omega)]
theorem fu (n:Nat):itoa (n:Int)=decDigits n:=by rw [itoa_nonneg (by omega)];simp
theorem Jp {c:UInt8} (h:bO c=true):c≠45:=by rintro rfl;simp [bO] at h
theorem Jq {c:UInt8} (h:bO c=true):c≠47:=by rintro rfl;simp [bO] at h
theorem fw (n:Nat) (r:List UInt8):decDigits n≠45 :: r:=by
 intro h
 exact Jp (bn n 45 (by rw [h];exact List.mem_cons_self)) rfl
theorem Bz {m n:Int} (h:itoa m=itoa n):m=n:=by
 by_cases hm:m<0 <;> by_cases hn:n<0
 ·rw [itoa_neg hm,itoa_neg hn] at h
  have:=nH (List.cons.inj h).2
  omega
 ·rw [itoa_neg hm,itoa_nonneg (by omega)] at h
  exact (fw _ _ h.symm).elim
 ·rw [itoa_nonneg (by omega),itoa_neg hn] at h
  exact (fw _ _ h).elim
 ·rw [itoa_nonneg (by omega),itoa_nonneg (by omega)] at h
  have:=nH h
  omega
theorem mJ (n:Int):itoa n≠[]:=by
 by_cases h:n<0
 ·rw [itoa_neg h];simp
 ·rw [itoa_nonneg (by omega)];exact dz _
theorem yj:itoa 0=[48]:=by rw [itoa_nonneg (by omega)];exact qH
theorem vU:itoa 1=[49]:=by rw [itoa_nonneg (by omega)];exact bB (by omega)
theorem iZ (n:Int):∀ c∈itoa n,c≠47:=by
 intro c hc
 by_cases h:n<0
 ·rw [itoa_neg h] at hc
  rcases List.mem_cons.1 hc with rfl | hc
  ·decide
  ·exact Jq (bn _ c hc)
 ·rw [itoa_nonneg (by omega)] at hc
  exact Jq (bn _ c hc)
def jB (l:List UInt8):List UInt8:=match l with | 45 :: r=>r | l=>l
theorem yl {l:List UInt8} (h:∀ r,l≠45 :: r):jB l=l:=by
 unfold jB
 split
 ·rename_i r;exact (h r rfl).elim
 ·rfl
theorem BA (n:Int):jB (itoa n)=decDigits n.natAbs:=by
 by_cases h:n<0
 ·rw [itoa_neg h];rfl
 ·rw [itoa_nonneg (by omega),yl (fw _)]
  congr 1;omega
def gI (l:List UInt8):Bool:=
 let s:=jB l
 let minus:=l.head? == some 45
 !(s.isEmpty || decide (200<s.length) || (s.head? == some 48 && (decide (1<s.length) || minus))) && s.all bO
theorem EJ (l:List UInt8):gI l=true↔∃ n:Int,l=itoa n∧nDigits n.natAbs≤200:=by
 constructor
 ·intro h
  simp only [gI,Bool.and_eq_true,Bool.not_eq_true',Bool.or_eq_false_iff,decide_eq_false_iff_not,List.all_eq_true,List.isEmpty_eq_false_iff] at h
  obtain ⟨⟨⟨hne,hlen⟩,h0⟩,hd⟩:=h
  have ym:(jB l).length=1∨∃ c r,jB l=c :: r∧c.toNat≠48:=by
   cases hs:jB l with
   | nil=>exact (hne hs).elim
   | cons c r =>
    by_cases hc:c.toNat=48
    ·have:c=48:=by apply UInt8.toNat_inj.1;simpa using hc
     subst this
     rw [hs] at h0
     simp at h0
     exact .inl (by simp;exact h0.1)
    ·exact .inr ⟨c,r,rfl,hc⟩
  have hdd:=ql (jB l) hne hd ym
  have hln:=aO (aT (jB l))
  rw [hdd] at hln
  by_cases hm:∃ r,l=45 :: r
  ·obtain ⟨r,rfl⟩:=hm
   have hmr:jB (45 :: r)=r:=rfl
   rw [hmr] at hdd h0 hln hlen
   have hpos:aT r≠0:=by
    intro hz
    rw [hz,qH] at hdd
    rw [←hdd] at h0
    simp at h0
   refine ⟨-(aT r:Int),?_,by rw [show (-(aT r:Int)).natAbs=aT r by omega];omega⟩
   rw [itoa_neg (by omega),show (-(aT r:Int)).natAbs=aT r by omega,hdd]
  ·have e:=yl (l:=l) (fun r h=>hm ⟨r,h⟩)
   rw [e] at hdd hln hlen
   exact ⟨(aT l:Int),by rw [fu,hdd],by rw [Int.natAbs_natCast];omega⟩
 ·rintro ⟨n,rfl,hn⟩
  have hlen:=aO n.natAbs
  have hne:=dz n.natAbs
  have hd:=bn n.natAbs
  simp only [gI,BA,Bool.and_eq_true,Bool.not_eq_true',Bool.or_eq_false_iff,decide_eq_false_iff_not,List.all_eq_true,List.isEmpty_eq_false_iff]
  refine ⟨⟨⟨hne,by omega⟩,?_⟩,hd⟩
  by_cases hz:n=0
  ·subst hz;decide +kernel
  ·obtain ⟨c,r,he,hc⟩:=lL n.natAbs (by omega)
   have:(decDigits n.natAbs).head?≠some 48:=by
    rw [he];intro h;simp at h;subst h;exact hc rfl
   simp [this]
theorem tO:∀ (a b:List UInt8),a.length=b.length→(∀ c∈a,bO c=true)→(∀ c∈b,bO c=true) →
  (compareBytes a b = -1↔aT a<aT b)∧(compareBytes a b=1↔aT b<aT a)∧(compareBytes a b=0↔aT a=aT b):=by
 intro a
 induction a with
 | nil=>intro b h _ _;cases b with | nil=>simp [compareBytes] | cons=>simp at h
 | cons x a ih =>
  intro b h ha hb
  cases b with
  | nil=>simp at h
  | cons y b =>
   have hl:a.length=b.length:=by simpa using h
   have hx:=ha x List.mem_cons_self
   have hy:=hb y List.mem_cons_self
   have ha':∀ c∈a,bO c=true:=fun c hc=>ha c (List.mem_cons_of_mem _ hc)
   have hb':∀ c∈b,bO c=true:=fun c hc=>hb c (List.mem_cons_of_mem _ hc)
   obtain ⟨i1,i2,i3⟩:=ih b hl ha' hb'
   have la:=vS ha'
   have lb:=vS hb'
   rw [jF,jF,hl] at *
   have hxd:x.toNat=48+dv x:=by
    have:=qG hx
    rw [←this,iY (uk hx),nY (uk hx)]
   have hyd:y.toNat=48+dv y:=by
    have:=qG hy
    rw [←this,iY (uk hy),nY (uk hy)]
   simp only [compareBytes]
   by_cases h1:x<y
   ·have h1':dv x+1≤dv y:=by rw [UInt8.lt_iff_toNat_lt] at h1;omega
    have:=Nat.mul_le_mul_right (10 ^ b.length) h1'
    rw [Nat.add_mul] at this
    rw [if_pos h1]
    refine ⟨⟨fun _=>by omega,fun _=>rfl⟩,⟨fun h=>by simp at h,fun h=>by omega⟩,⟨fun h=>by simp at h,fun h=>by omega⟩⟩
   ·rw [if_neg h1]
    by_cases h2:y<x
    ·have h2':dv y+1≤dv x:=by rw [UInt8.lt_iff_toNat_lt] at h2;omega
     have:=Nat.mul_le_mul_right (10 ^ b.length) h2'
     rw [Nat.add_mul] at this
     rw [if_pos h2]
     refine ⟨⟨fun h=>by simp at h,fun h=>by omega⟩,⟨fun _=>by omega,fun _=>rfl⟩,⟨fun h=>by simp at h,fun h=>by omega⟩⟩
    ·rw [if_neg h2]
     have:dv x=dv y:=by
      rw [UInt8.lt_iff_toNat_lt] at h1 h2;omega
     rw [this]
     refine ⟨by rw [i1];omega,by rw [i2];omega,by rw [i3];omega⟩
theorem oW {m n:Nat} (h:m≤n):nDigits m≤nDigits n:=
 gW (Nat.lt_of_le_of_lt h (Go.Lib.lt_pow_nDigits n)) (Go.Lib.nDigits_pos n)
theorem yn {m n:Nat} (h:nDigits m<nDigits n):m<n:=by
 apply Nat.lt_of_not_le;intro hle;have:=oW hle;omega
def ek (a b:Int):Int:=if a<b then -1 else if a=b then 0 else 1
def mK (a:Int):Int:=ek a 0
def dR (n:Int) (d:Nat):List UInt8:=if d=1 then itoa n else itoa n++47 :: decDigits d
def aX (q:Rat):List UInt8:=dR q.num q.den
theorem qJ:∀ {a a' b b':List UInt8},(∀ c∈a,c≠47)→(∀ c∈a',c≠47)→a++47 :: b=a'++47 :: b'→a=a'∧b=b'
 | [],[],_,_,_,_,h=>by simp at h;exact ⟨rfl,h⟩
 | [],x :: a',_,_,_,h2,h=>by
  simp only [List.nil_append,List.cons_append,List.cons.injEq] at h
  exact (h2 x List.mem_cons_self h.1.symm).elim
 | x :: a,[],_,_,h1,_,h=>by
  simp only [List.nil_append,List.cons_append,List.cons.injEq] at h
  exact (h1 x List.mem_cons_self h.1).elim
 | x :: a,y :: a',b,b',h1,h2,h=>by
  simp only [List.cons_append,List.cons.injEq] at h
  obtain ⟨rfl,h⟩:=h
  obtain ⟨rfl,rfl⟩:=qJ (fun c hc=>h1 c (List.mem_cons_of_mem _ hc)) (fun c hc=>h2 c (List.mem_cons_of_mem _ hc)) h
  exact ⟨rfl,rfl⟩
theorem NU {a b c:List UInt8} (h:∀ x∈a,x≠47):a≠b++47 :: c:=by
 rintro rfl
 exact h 47 (by simp) rfl
theorem PW {n m:Int} {d e:Nat} (h:dR n d=dR m e):n=m∧d=e:=by
 unfold dR at h
 by_cases hd:d=1 <;> by_cases he:e=1
 ·rw [if_pos hd,if_pos he] at h
  exact ⟨Bz h,by omega⟩
 ·rw [if_pos hd,if_neg he] at h
  exact (NU (iZ n) h).elim
 ·rw [if_neg hd,if_pos he] at h
  exact (NU (iZ m) h.symm).elim
 ·rw [if_neg hd,if_neg he] at h
  obtain ⟨h1,h2⟩:=qJ (iZ n) (iZ m) h
  exact ⟨Bz h1,nH h2⟩
theorem sI {p q:Rat} (h:aX p=aX q):p=q:=by
 obtain ⟨h1,h2⟩:=PW h
 exact Rat.ext h1 h2
theorem yo (n:Int):aX (n:Rat)=itoa n:=by unfold aX dR;simp
theorem vV (q:Rat):aX q≠[]:=by
 unfold aX dR
 split
 ·exact mJ _
 ·simp [mJ]
theorem qK {q:Rat}:(∃ r,aX q=45 :: r)↔q<0:=by
 have hn:q<0↔q.num<0:=by rw [Rat.lt_iff];simp
 rw [hn]
 unfold aX dR
 constructor
 ·rintro ⟨r,h⟩
  apply Int.lt_of_not_ge
  intro h0
  rw [itoa_nonneg h0] at h
  split at h
  ·exact fw _ _ h
  ·cases hd:decDigits q.num.toNat with
   | nil=>exact dz _ hd
   | cons c l =>
    rw [hd] at h
    simp only [List.cons_append,List.cons.injEq] at h
    have:=bn q.num.toNat c (by rw [hd];exact List.mem_cons_self)
    exact Jp this h.1
 ·intro h
  rw [itoa_neg h]
  split
  ·exact ⟨_,rfl⟩
  ·exact ⟨_,rfl⟩
theorem EK {q:Rat} (h:q≠0) (h':¬ q<0):aX (-q)=45 :: aX q:=by
 have hn:0<q.num:=by
  have h1:¬ q.num<0:=by
   intro hh;apply h';rw [Rat.lt_iff];simpa using hh
  have h2:q.num≠0:=fun hh=>h (Rat.num_eq_zero.1 hh)
  omega
 unfold aX dR
 simp only [Rat.neg_num,Rat.neg_den]
 rw [itoa_neg (by omega),itoa_nonneg (n:=q.num) (by omega),show (-q.num).natAbs=q.num.toNat by omega]
 split <;> rfl
theorem qL {q:Rat} (h:q<0):aX q=45 :: aX (-q):=by
 have h0:-q≠0:=by grind
 have h1:¬ -q<0:=by grind
 have:=EK h0 h1
 rwa [Rat.neg_neg] at this
theorem zz (n:Int) (d:Nat) (hd:d≠0):aX (mkRat n d)=dR (n/(Nat.gcd n.natAbs d:Nat)) (d/Nat.gcd n.natAbs d):=by
 unfold aX
 rw [Rat.num_mkRat,Rat.den_mkRat,if_neg hd,if_neg hd,Nat.gcd_comm]
theorem D9 {n:Int} {d:Nat} (hd:d≠0) (h:Nat.gcd n.natAbs d=1):aX (mkRat n d)=dR n d:=by
 rw [zz n d hd,h];simp
theorem dS (n:Int):(itoa n).length=nDigits n.natAbs+(if n<0 then 1 else 0):=by
 by_cases h:n<0
 ·rw [itoa_neg h,if_pos h];simp [Go.Lib.decDigits_length]
 ·rw [itoa_nonneg (by omega),if_neg h,Go.Lib.decDigits_length,show n.toNat=n.natAbs by omega];rfl
theorem itoa_length_le (n:Int) {k:Nat} (h:n.natAbs<10 ^ k) (hk:0<k):(itoa n).length≤k+1:=by
 rw [dS];have:=gW h hk;split <;> omega
theorem bS {n:Int} {k:Nat} (h:(itoa n).length≤k):n.natAbs<10 ^ k:=by
 apply yh
 rw [dS] at h
 omega
theorem vW (q:Rat):(aX q).length=(itoa q.num).length+(if q.den=1 then 0 else nDigits q.den+1):=by
 unfold aX dR
 split
 ·simp
 ·simp [Go.Lib.decDigits_length]
theorem Sl (p q:Rat):p+q=mkRat (p.num*q.den+q.num*p.den) (p.den*q.den):=Rat.add_def' p q
theorem Sm (p q:Rat):p*q=mkRat (p.num*q.num) (p.den*q.den):=Rat.mul_def' p q
def dx (p q:Rat):Int:=ek (p.num*q.den) (q.num*p.den)
theorem jV {p q:Rat}:dx p q<0↔p<q:=by
 rw [Rat.lt_iff];unfold dx ek;split
 ·simp_all
 ·split <;> simp_all
theorem qM {p q:Rat}:0<dx p q↔q<p:=by
 rw [Rat.lt_iff];unfold dx ek;split
 ·rename_i h;simp;omega
 ·split
  ·rename_i h1 h2;simp;omega
  ·rename_i h1 h2;simp;omega
theorem sJ {p q:Rat}:dx p q=0↔p=q:=by
 rw [Rat.eq_iff_mul_eq_mul];unfold dx ek;split
 ·rename_i h;simp;omega
 ·split
  ·rename_i h1 h2;simp [h2]
  ·rename_i h1 h2;simp [h2]
theorem oZ (p q:Rat):dx p q = -1∨dx p q=0∨dx p q=1:=by
 unfold dx ek;split
 ·exact .inl rfl
 ·split
  ·exact .inr (.inl rfl)
  ·exact .inr (.inr rfl)
theorem o5 {q:Rat} (h:0<q.num):q⁻¹.num=q.den∧(q⁻¹.den:Int)=q.num:=by
 rw [Rat.num_inv,Rat.den_inv,if_neg (by omega),Int.sign_eq_one_of_pos h]
 omega
theorem o6 {q:Rat} (h:q.num<0):q⁻¹.num = -q.den∧(q⁻¹.den:Int) = -q.num:=by
 rw [Rat.num_inv,Rat.den_inv,if_neg (by omega),Int.sign_eq_neg_one_of_neg h]
 omega
theorem zA {α:Type} {xs:List α} {i:Nat} (h:i<xs.toArray.size):xs.toArray[i]=xs[i]'(by simpa using h):=List.getElem_toArray h
theorem zB {α:Type} (a:α) (as:List α) (h:0<(a :: as).length):(a :: as)[0]=a:=List.getElem_cons_zero a as h
theorem zC {α:Type} (a:α) (as:List α) (i:Nat) (h:i+1<(a :: as).length):(a :: as)[i+1]=as[i]'(by simpa using h):=List.getElem_cons_succ a as i h
theorem zD {α:Type} (l:List α) (i:Nat) (a:α):l.toArray.setIfInBounds i a=(l.set i a).toArray:=List.setIfInBounds_toArray l i a
theorem zE {α:Type} {x:α} {xs:List α} {a:α}:(x :: xs).set 0 a=a :: xs:=List.set_cons_zero
theorem zF {α:Type} {x:α} {xs:List α} {i:Nat} {a:α}:(x :: xs).set (i+1) a=x :: xs.set i a:=List.set_cons_succ
end Go.Proofs.YtglncfkoohgdaaaGreatDoor
namespace Go.Proofs.YtglncfkoohgdaaaGreatDoor
open Go.Lib (decDigits itoa nDigits compareBytes hasPrefix trimPrefix parseUint10 parseMag atoiAll parseUintB parseUintM)
theorem mM (l:List UInt8):hasPrefix l [45]=true↔∃ r,l=45 :: r:=by
 cases l with
 | nil=>simp [hasPrefix]
 | cons c r =>
  simp [hasPrefix,List.isPrefixOf]
  exact eq_comm
theorem o7 (l:List UInt8):trimPrefix l [45]=jB l:=by
 unfold trimPrefix
 by_cases h:hasPrefix l [45]=true
 ·obtain ⟨r,rfl⟩:=(mM l).1 h
  rw [if_pos h];rfl
 ·rw [if_neg h]
  refine (yl fun r hr=>h ((mM l).2 ⟨r,hr⟩)).symm
theorem qN (n:Int):hasPrefix (itoa n) [45]=decide (n<0):=by
 rw [Bool.eq_iff_iff,mM,decide_eq_true_iff]
 constructor
 ·rintro ⟨r,h⟩
  apply Int.lt_of_not_ge
  intro h0
  rw [itoa_nonneg h0] at h
  exact fw _ _ h
 ·intro h;exact ⟨_,itoa_neg h⟩
theorem nZ {c:UInt8} (h:bO c=true):48≤c.toNat∧c.toNat≤57∧c.toNat-48=dv c:=by
 have h':=h
 simp [bO] at h
 have:=qG h'
 have e:c.toNat=48+dv c:=by rw [←this,iY (uk h'),nY (uk h')]
 omega
theorem uU (l:List UInt8):∀ (a k:Nat),(∀ c∈l,bO c=true)→a<10 ^ k→k+l.length≤19→parseUint10 a l=.ok (gV a l):=by
 induction l with
 | nil=>intro a k _ _ _;simp [parseUint10]
 | cons c r ih =>
  intro a k hd ha hk
  obtain ⟨h1,h2,h3⟩:=nZ (hd c List.mem_cons_self)
  simp at hk
  have hp:10 ^ (k+1)≤10 ^ 19:=Nat.pow_le_pow_right (by decide) (by omega)
  rw [Nat.pow_succ] at hp
  have hdl:=uk (hd c List.mem_cons_self)
  rw [parseUint10,if_pos ⟨h1,h2⟩,if_neg (by omega),if_neg (by omega),h3,kS,Nat.mul_comm a 10]
  exact ih _ (k+1) (fun x hx=>hd x (List.mem_cons_of_mem _ hx)) (by rw [Nat.pow_succ];omega) (by omega)
theorem lM {n:Nat} (h:n<10 ^ 18):parseMag (decDigits n)=.ok n:=by
 unfold parseMag
 rw [if_neg (dz n),uU _ 0 0 (bn n) (by simp) (by have:=gW h (by omega);rw [aO];omega)]
 exact congrArg _ (bH n)
theorem vX {n:Int} (h:n.natAbs<10 ^ 18):atoiAll (itoa n)=.ok n:=by
 by_cases hn:n<0
 ·rw [itoa_neg hn,Go.Lib.atoiAll_minus,lM h]
  show Go.Lib.signed (.ok _)=_
  unfold Go.Lib.signed
  dsimp only
  rw [if_neg (by omega)]
  congr 1
  omega
 ·rw [itoa_nonneg (by omega)]
  obtain ⟨c,r,he⟩ : ∃ c r,decDigits n.toNat=c :: r:=by
   cases hd:decDigits n.toNat with
   | nil=>exact (dz _ hd).elim
   | cons c r=>exact ⟨c,r,rfl⟩
  have hc:=nZ (bn n.toNat c (by rw [he];exact List.mem_cons_self))
  rw [he,Go.Lib.atoiAll_plain c r (by omega) (by omega),←he,lM (by omega)]
  unfold Go.Lib.signless
  dsimp only
  rw [if_neg (by omega)]
  congr 1
  omega
theorem vY (l:List UInt8):∀ (a k:Nat),(∀ c∈l,bO c=true)→a<10 ^ k→k+l.length≤19→parseUintM (2 ^ 64-1) a l=.ok (gV a l):=by
 induction l with
 | nil=>intro a k _ _ _;simp [parseUintM]
 | cons c r ih =>
  intro a k hd ha hk
  obtain ⟨h1,h2,h3⟩:=nZ (hd c List.mem_cons_self)
  simp at hk
  have hp:10 ^ (k+1)≤10 ^ 19:=Nat.pow_le_pow_right (by decide) (by omega)
  rw [Nat.pow_succ] at hp
  have hdl:=uk (hd c List.mem_cons_self)
  rw [parseUintM,if_pos ⟨h1,h2⟩,if_neg (by omega),if_neg (by omega),h3,kS,Nat.mul_comm a 10]
  exact ih _ (k+1) (fun x hx=>hd x (List.mem_cons_of_mem _ hx)) (by rw [Nat.pow_succ];omega) (by omega)
theorem vZ {l:List UInt8} (h0:l≠[]) (hd:∀ c∈l,bO c=true) (hk:l.length≤19):parseUintB 64 l=.ok (aT l):=by
 unfold parseUintB
 rw [if_neg h0,vY l 0 0 hd (by simp) (by omega)];rfl
theorem Za {m n:Nat} (hl:(decDigits m).length=(decDigits n).length):compareBytes (decDigits m) (decDigits n)=ek m n:=by
 obtain ⟨h1,h2,h3⟩:=tO _ _ hl (bn m) (bn n)
 rw [bH,bH] at h1 h2 h3
 unfold ek
 by_cases hlt:m<n
 ·rw [h1.2 hlt,if_pos (by omega)]
 ·rw [if_neg (by omega)]
  by_cases he:m=n
  ·rw [h3.2 he,if_pos (by omega)]
  ·rw [h2.2 (by omega),if_neg (by omega)]
theorem wh {n:Int} (h:n<0):mK n = -1:=by unfold mK ek;rw [if_pos h]
theorem wu {n:Int} (h:n=0):mK n=0:=by subst h;rfl
theorem sK {n:Int} (h:0<n):mK n=1:=by unfold mK ek;rw [if_neg (by omega),if_neg (by omega)]
theorem dA (n:Int):(n<0∧mK n = -1)∨(n=0∧mK n=0)∨(0<n∧mK n=1):=by
 rcases Int.lt_trichotomy n 0 with h | h | h
 ·exact .inl ⟨h,wh h⟩
 ·exact .inr (.inl ⟨h,wu h⟩)
 ·exact .inr (.inr ⟨h,sK h⟩)
theorem LY {m n:Int} (h:mK m<mK n):ek m n = -1:=by
 unfold ek
 rcases dA m with ⟨h1,e1⟩ | ⟨h1,e1⟩ | ⟨h1,e1⟩ <;> rcases dA n with ⟨h2,e2⟩ | ⟨h2,e2⟩ | ⟨h2,e2⟩ <;> rw [e1,e2] at h <;> first | (rw [if_pos (by omega)];done) | omega
theorem LZ {m n:Int} (h:mK n<mK m):ek m n=1:=by
 unfold ek
 rcases dA m with ⟨h1,e1⟩ | ⟨h1,e1⟩ | ⟨h1,e1⟩ <;> rcases dA n with ⟨h2,e2⟩ | ⟨h2,e2⟩ | ⟨h2,e2⟩ <;> rw [e1,e2] at h <;> first | (rw [if_neg (by omega),if_neg (by omega)];done) | omega
theorem BB {m n:Nat} (h:(decDigits m).length<(decDigits n).length):m<n:=by
 rw [aO,aO] at h;exact yn h
theorem L6 {m n:Int} (hs:mK m=mK n) (h:(decDigits m.natAbs).length<(decDigits n.natAbs).length):ek m n = -mK m:=by
 have h':=BB h
 unfold ek
 rcases dA m with ⟨h1,e1⟩ | ⟨h1,e1⟩ | ⟨h1,e1⟩ <;> rcases dA n with ⟨h2,e2⟩ | ⟨h2,e2⟩ | ⟨h2,e2⟩ <;> rw [e1,e2] at hs <;> rw [e1] <;> first
  | omega
  | (rw [if_pos (by omega)];done)
  | (rw [if_neg (by omega),if_neg (by omega)];done)
theorem L8 {m n:Int} (hs:mK m=mK n) (h:(decDigits n.natAbs).length<(decDigits m.natAbs).length):ek m n=mK m:=by
 have h':=BB h
 unfold ek
 rcases dA m with ⟨h1,e1⟩ | ⟨h1,e1⟩ | ⟨h1,e1⟩ <;> rcases dA n with ⟨h2,e2⟩ | ⟨h2,e2⟩ | ⟨h2,e2⟩ <;> rw [e1,e2] at hs <;> rw [e1] <;> first
  | omega
  | (rw [if_pos (by omega)];done)
  | (rw [if_neg (by omega),if_neg (by omega)];done)
theorem L9 {m n:Int} (hs:mK m=mK n) (h:(decDigits m.natAbs).length=(decDigits n.natAbs).length):ek m n=mK m*compareBytes (decDigits m.natAbs) (decDigits n.natAbs):=by
 rw [Za h]
 unfold ek
 rcases dA m with ⟨h1,e1⟩ | ⟨h1,e1⟩ | ⟨h1,e1⟩ <;> rcases dA n with ⟨h2,e2⟩ | ⟨h2,e2⟩ | ⟨h2,e2⟩ <;> rw [e1,e2] at hs <;> rw [e1] <;> first
  | omega
  | (split <;> split <;> (try split) <;> (try split) <;> omega)
end Go.Proofs.YtglncfkoohgdaaaGreatDoor
namespace Go.Proofs.YtglncfkoohgdaaaGreatDoor
def iP (a b:Int):Nat:=if a<0∧a.natAbs % b.natAbs≠0 then a.natAbs/b.natAbs+1 else a.natAbs/b.natAbs
def iQ (a b:Int):Nat:=if a<0∧a.natAbs % b.natAbs≠0 then b.natAbs-a.natAbs % b.natAbs else a.natAbs % b.natAbs
theorem Sn (a b:Int) (hb:b≠0):((iQ a b:Nat):Int)=a % b:=by
 have hb':0<b.natAbs:=by omega
 have key:a % b=a % (b.natAbs:Int):=by
  rcases Int.natAbs_eq b with h | h
  ·rw [←h]
  ·conv=>lhs;rw [h]
   rw [Int.emod_neg]
 rw [key]
 unfold iQ
 have hlt:=Nat.mod_lt a.natAbs hb'
 by_cases h:a<0
 ·have ha:a = -(a.natAbs:Int):=by omega
  by_cases hz:a.natAbs % b.natAbs=0
  ·rw [if_neg (by omega),hz,ha]
   symm
   rw [Int.natCast_zero]
   apply Int.emod_eq_zero_of_dvd
   rw [Int.dvd_neg]
   exact Int.natCast_dvd_natCast.2 (Nat.dvd_of_mod_eq_zero hz)
  ·rw [if_pos ⟨h,hz⟩]
   have hd:=Nat.mod_add_div a.natAbs b.natAbs
   have e:a=((b.natAbs-a.natAbs % b.natAbs:Nat):Int)+(b.natAbs:Int)*(-((a.natAbs/b.natAbs:Nat):Int)-1):=by
    have hd':(a.natAbs:Int)=((a.natAbs % b.natAbs:Nat):Int)+(b.natAbs:Int)*((a.natAbs/b.natAbs:Nat):Int):=by
     rw [←Int.natCast_mul,←Int.natCast_add,hd]
    rw [Int.mul_sub,Int.mul_neg,Int.mul_one]
    omega
   conv=>rhs;rw [e]
   rw [Int.add_mul_emod_self_left]
   symm
   apply Int.emod_eq_of_lt <;> omega
 ·have ha:a=(a.natAbs:Int):=by omega
  rw [if_neg (by omega)]
  conv=>rhs;rw [ha]
  rw [Int.natCast_emod]
theorem abS (a b:Int) (hb:b≠0):(if decide (a<0) != decide (b<0) then -((iP a b:Nat):Int) else ((iP a b:Nat):Int))=a/b:=by
 have hr:=Sn a b hb
 have h1:b*(a/b)+a % b=a:=Int.mul_ediv_add_emod a b
 rw [←hr] at h1
 have hb':0<b.natAbs:=by omega
 have hd:=Nat.mod_add_div a.natAbs b.natAbs
 have h2:(b.natAbs:Int)*((iP a b:Nat):Int)=if a<0 then (a.natAbs:Int)+(iQ a b:Nat) else (a.natAbs:Int)-(iQ a b:Nat):=by
  have hd':(b.natAbs:Int)*((a.natAbs/b.natAbs:Nat):Int)=(a.natAbs:Int)-((a.natAbs % b.natAbs:Nat):Int):=by
   have:(a.natAbs:Int)=((a.natAbs % b.natAbs:Nat):Int)+(b.natAbs:Int)*((a.natAbs/b.natAbs:Nat):Int):=by
    rw [←Int.natCast_mul,←Int.natCast_add,hd]
   omega
  have hlt:=Nat.mod_lt a.natAbs hb'
  by_cases h:a<0
  ·rw [if_pos h]
   by_cases hz:a.natAbs % b.natAbs=0
   ·have q:iP a b=a.natAbs/b.natAbs:=by unfold iP;rw [if_neg (by omega)]
    have r:iQ a b=0:=by unfold iQ;rw [if_neg (by omega)];exact hz
    rw [q,r,hd',hz];omega
   ·have q:iP a b=a.natAbs/b.natAbs+1:=by unfold iP;rw [if_pos ⟨h,hz⟩]
    have r:iQ a b=b.natAbs-a.natAbs % b.natAbs:=by unfold iQ;rw [if_pos ⟨h,hz⟩]
    rw [q,r,Int.natCast_add,Int.mul_add,hd']
    have:((b.natAbs-a.natAbs % b.natAbs:Nat):Int)=(b.natAbs:Int)-((a.natAbs % b.natAbs:Nat):Int):=by omega
    rw [this]
    omega
  ·rw [if_neg h]
   have q:iP a b=a.natAbs/b.natAbs:=by unfold iP;rw [if_neg (by omega)]
   have r:iQ a b=a.natAbs % b.natAbs:=by unfold iQ;rw [if_neg (by omega)]
   rw [q,r,hd']
 have h3:b*(if decide (a<0) != decide (b<0) then -((iP a b:Nat):Int) else ((iP a b:Nat):Int))=b*(a/b):=by
  have e:b*(a/b)=a-((iQ a b:Nat):Int):=by omega
  rw [e]
  clear e hr h1 hd
  generalize iP a b=Q at *
  generalize iQ a b=M at *
  by_cases ha:a<0 <;> by_cases hbn:b<0
  ·have hc:(decide (a<0) != decide (b<0))=false:=by simp [ha,hbn]
   rw [if_pos ha] at h2
   rw [hc,if_neg (by simp)]
   have:b = -(b.natAbs:Int):=by omega
   rw [this,Int.neg_mul,h2];omega
  ·have hc:(decide (a<0) != decide (b<0))=true:=by simp [ha,hbn]
   rw [if_pos ha] at h2
   rw [hc,if_pos rfl]
   have:b=(b.natAbs:Int):=by omega
   rw [this,Int.mul_neg,h2];omega
  ·have hc:(decide (a<0) != decide (b<0))=true:=by simp [ha,hbn]
   rw [if_neg ha] at h2
   rw [hc,if_pos rfl]
   have:b = -(b.natAbs:Int):=by omega
   rw [this,Int.neg_mul_neg,h2];omega
  ·have hc:(decide (a<0) != decide (b<0))=false:=by simp [ha,hbn]
   rw [if_neg ha] at h2
   rw [hc,if_neg (by simp)]
   have:b=(b.natAbs:Int):=by omega
   rw [this,h2];omega
 exact Int.eq_of_mul_eq_mul_left hb h3
open Go.Lib (decDigits itoa nDigits)
theorem Ma {s:ByteArray} {A D T:List UInt8} (h:s.data.toList=A++(D++T)) {k:Nat} (hk:k<D.length) (hs:A.length+k<s.size):s[A.length+k]=D[k]:=by
 have e:s[A.length+k]=s.data.toList[A.length+k]'(by simpa using hs):=rfl
 rw [e]
 simp only [h]
 rw [List.getElem_append_right (by omega),List.getElem_append_left (by omega)]
 simp
theorem oh {s:ByteArray} {A D T:List UInt8} (h:s.data.toList=A++(D++T)):s.size=A.length+D.length+T.length:=by
 have:s.size=s.data.toList.length:=by simp
 rw [this,h];simp;omega
theorem PX {D:List UInt8} {k:Nat} (hk:k<D.length):aT (D.take (k+1))=10*aT (D.take k)+dv D[k]:=by
 rw [List.take_succ_eq_append_getElem hk,uT]
theorem jO {D:List UInt8} (h:∀ c∈D,bO c=true) (k:Nat) (hk:k≤9):aT (D.take k)<1000000000:=by
 have h1:=vS (l:=D.take k) (fun c hc=>h c (List.mem_of_mem_take hc))
 have h2:10 ^ (D.take k).length≤10 ^ 9:=Nat.pow_le_pow_right (by decide) (by simp;omega)
 omega
def sM (n:Int):List UInt8:=if n<0 then [45] else []
theorem BC (n:Int):itoa n=sM n++decDigits n.natAbs:=by
 unfold sM
 by_cases h:n<0
 ·rw [itoa_neg h,if_pos h];rfl
 ·rw [itoa_nonneg (by omega),if_neg h,show n.toNat=n.natAbs by omega];rfl
def o8 (d:Nat):List UInt8:=if d=1 then [] else 47 :: decDigits d
theorem Jr (q:Rat):aX q=sM q.num++(decDigits q.num.natAbs++o8 q.den):=by
 unfold aX dR o8
 by_cases h:q.den=1
 ·rw [if_pos h,if_pos h,BC];simp
 ·rw [if_neg h,if_neg h,BC];simp
theorem ja {n:Nat}:n<1000000000↔(decDigits n).length≤9:=by
 rw [aO]
 have:=(qI (n:=n) (k:=9))
 constructor
 ·intro h;exact (this.1 ⟨by omega,by omega⟩).1
 ·intro h;have:=(this.2 ⟨h,by omega⟩).1;omega
theorem PY {c:UInt8} (h:bO c=true):48≤(c.toNat:Int)∧(c.toNat:Int)≤57:=by
 have:=nZ h;omega
theorem abT {c:UInt8} (h:bO c=true):((dv c:Nat):Int)=(c.toNat:Int)-48:=by
 have:=nZ h;omega
theorem Js (a b:Int):Nat.gcd b.natAbs (a.tmod b).natAbs=Nat.gcd a.natAbs b.natAbs:=by
 rw [Int.natAbs_tmod,Nat.gcd_comm a.natAbs,Nat.gcd_rec b.natAbs a.natAbs,Nat.gcd_comm]
theorem NV {a b:Int} (h:b≠0):(a.tmod b).natAbs<b.natAbs:=by
 rw [Int.natAbs_tmod];exact Nat.mod_lt _ (by omega)
theorem wy {n:Int} {g:Nat} (h:(g:Int)∣n):n.tdiv g=n/g:=Int.tdiv_eq_ediv_of_dvd h
theorem Mc {n d:Int} (h:0<d):Rat.divInt n d=mkRat n d.toNat:=by
 obtain ⟨k,rfl⟩:=Int.eq_ofNat_of_zero_le (Int.le_of_lt h)
 simp [Rat.divInt_ofNat]
theorem Ea (n d:Int):Rat.divInt (-n) (-d)=Rat.divInt n d:=Rat.neg_divInt_neg n d
theorem mO {n d:Int} (hd:0<d):aX (Rat.divInt n d)=dR (n/(Int.gcd n d:Nat)) (d/(Int.gcd n d:Nat)).toNat:=by
 rw [Mc hd,zz _ _ (by omega)]
 have e:Int.gcd n d=Nat.gcd n.natAbs d.toNat:=by
  rw [Int.gcd_eq_natAbs_gcd_natAbs,show d.natAbs=d.toNat by omega]
 rw [e]
 obtain ⟨k,rfl⟩:=Int.eq_ofNat_of_zero_le (Int.le_of_lt hd)
 rw [Int.toNat_natCast,←Int.natCast_ediv,Int.toNat_natCast]
end Go.Proofs.YtglncfkoohgdaaaGreatDoor
namespace Go.Proofs.YtglncfkoohgdaaaGreatDoor
def Fc (n c:Nat) (q:Rat):Prop:=∃ a:Int,a.natAbs≤n*c∧q*(c:Rat)=(a:Rat)
theorem Fc.mono {n c n':Nat} {q:Rat} (h:Fc n c q) (h1:n≤n'):Fc n' c q:=by
 obtain ⟨a,h2,h3⟩:=h
 exact ⟨a,Nat.le_trans h2 (Nat.mul_le_mul_right _ h1),h3⟩
theorem Fc.wide {n c:Nat} {q:Rat} (h:Fc n c q) (d:Nat):Fc n (c*d) q:=by
 obtain ⟨a,h2,h3⟩:=h
 refine ⟨a*d,?_,?_⟩
 ·rw [Int.natAbs_mul,Int.natAbs_natCast,←Nat.mul_assoc]
  exact Nat.mul_le_mul_right _ h2
 ·rw [Rat.natCast_mul,Rat.intCast_mul,Rat.intCast_natCast,←h3,Rat.mul_assoc]
theorem Fc.add {n c n':Nat} {p q:Rat} (h:Fc n c p) (k:Fc n' c q):Fc (n+n') c (p+q):=by
 obtain ⟨a,h2,h3⟩:=h
 obtain ⟨b,k2,k3⟩:=k
 refine ⟨a+b,?_,?_⟩
 ·have:=Int.natAbs_add_le a b
  rw [Nat.add_mul]
  omega
 ·rw [Rat.intCast_add,←h3,←k3];grind
theorem Fc.neg {n c:Nat} {q:Rat} (h:Fc n c q):Fc n c (-q):=by
 obtain ⟨a,h2,h3⟩:=h
 exact ⟨-a,by rw [Int.natAbs_neg];exact h2,by rw [Rat.intCast_neg,←h3,Rat.neg_mul]⟩
theorem Fc.sub {n c n':Nat} {p q:Rat} (h:Fc n c p) (k:Fc n' c q):Fc (n+n') c (p-q):=by
 rw [Rat.sub_eq_add_neg]
 exact h.add k.neg
theorem Fc.mul {n c n' c':Nat} {p q:Rat} (h:Fc n c p) (k:Fc n' c' q):Fc (n*n') (c*c') (p*q):=by
 obtain ⟨a,h2,h3⟩:=h
 obtain ⟨b,k2,k3⟩:=k
 refine ⟨a*b,?_,?_⟩
 ·rw [Int.natAbs_mul]
  have t2:=Nat.mul_le_mul h2 k2
  have t4:n*n'*(c*c')=n*c*(n'*c'):=by grind
  omega
 ·rw [Rat.natCast_mul,Rat.intCast_mul,←h3,←k3]
  grind
theorem Fc.int {n:Nat} {a:Int} (h:a.natAbs≤n):Fc n 1 (a:Rat):=⟨a,by omega,by rw [show ((1:Nat):Rat)=1 from rfl,Rat.mul_one]⟩
theorem Fc.own (q:Rat):Fc q.num.natAbs q.den q:=⟨q.num,Nat.le_mul_of_pos_right _ q.den_pos,by
 have h1:q.num/q.den=q:=by
  have:=Rat.num_divInt_den q
  rw [Rat.divInt_eq_div] at this
  exact this
 conv=>lhs;lhs;rw [←h1]
 exact Rat.div_mul_cancel (fun e=>by rw [Rat.natCast_eq_zero_iff] at e;exact q.den_nz e)⟩
theorem BD (n:Int) (d:Nat) (hd:0<d):(mkRat n d).num.natAbs≤n.natAbs∧(mkRat n d).den≤d:=by
 rw [Rat.num_mkRat,Rat.den_mkRat,if_neg (by omega),if_neg (by omega)]
 refine ⟨?_,Nat.div_le_self _ _⟩
 rw [Int.natAbs_ediv_of_dvd (Int.ofNat_dvd_left.2 (by rw [Nat.gcd_comm];exact Nat.gcd_dvd_left _ _))]
 exact Nat.div_le_self _ _
theorem Fc.parts {n c:Nat} {q:Rat} (h:Fc n c q) (hc:0<c):q.num.natAbs≤n*c∧q.den≤c:=by
 obtain ⟨a,h2,h3⟩:=h
 have hc0:(c:Rat)≠0:=fun e=>by rw [Rat.natCast_eq_zero_iff] at e;omega
 have e:q=mkRat a c:=by rw [Rat.mkRat_eq_div,←h3,Rat.mul_div_cancel hc0]
 rw [e]
 obtain ⟨m1,m2⟩:=BD a c hc
 exact ⟨Nat.le_trans m1 h2,m2⟩
def Zb:List Rat→Nat
 | []=>1
 | q :: l=>q.den*Zb l
structure Iv where
 u:List UInt8
 a:Rat
 b:Rat
structure Cs where
 ch:Rat
 mi:Rat
 ga:Rat
 re:Rat
def iv0:Iv:=⟨[],0,0⟩
def ah (L:List Iv) (i:Nat):Iv:=L.getD i iv0
def aH (x:Iv):Rat:=x.b-x.a
def abQ (q:Rat):Rat:=if q<0 then -q else q
def qO (L:List Iv) (i:Nat):Bool:=decide (0<i) && decide ((ah L (i-1)).u=(ah L i).u)
def bY (C:Cs) (L R:List Iv) (k i j:Nat):Rat:=
 if k=1 then
  if (ah L i).u=(ah R j).u then C.ch*abQ (aH (ah L i)-aH (ah R j))
  else C.ch*abQ (aH (ah L i)-aH (ah R j))+C.mi*(aH (ah L i)+aH (ah R j))
 else if k=2 then C.ga*aH (ah L i)
 else if k=3 then C.ga*aH (ah R j)
 else if k=4 then C.re*aH (ah L i)
 else C.re*aH (ah R j)
def gD (k i:Nat):Nat:=if k=1∨k=2∨k=4 then i+1 else i
def iD (k j:Nat):Nat:=if k=2∨k=4 then j else j+1
def bF (L R:List Iv) (k i j:Nat):Bool:=
 if k=1 then decide (i<L.length∧j<R.length)
 else if k=2 then decide (i<L.length)
 else if k=3 then decide (j<R.length)
 else if k=4 then decide (i<L.length) && qO L i
 else decide (j<R.length) && qO R j
def o9 (t:Option Rat) (x:Rat):Option Rat:=match t with
 | none=>some x
 | some y=>if x<y then some x else some y
def dP (C:Cs) (L R:List Iv) (T:Nat→Nat→Option Rat) (i j:Nat):List Nat→Option Rat→Option Rat
 | [],t=>t
 | k :: ks,t=>dP C L R T i j ks (if bF L R k i j then o9 t ((T (gD k i) (iD k j)).getD 0+bY C L R k i j) else t)
def kinds:List Nat:=[1,2,3,4,5]
def qP (C:Cs) (L R:List Iv):Nat→Nat→Nat→Option Rat
 | 0,i,j=>if i=L.length∧j=R.length then some 0 else none
 | d+1,i,j=>if i=L.length∧j=R.length then some 0 else dP C L R (qP C L R d) i j kinds none
def um (C:Cs) (L R:List Iv) (i j:Nat):Option Rat:=qP C L R (L.length+R.length) i j
theorem kV {C:Cs} {L R:List Iv} {T U:Nat→Nat→Option Rat} {i j:Nat}:∀ (ks:List Nat) (t:Option Rat),(∀ k∈ks,bF L R k i j=true→T (gD k i) (iD k j)=U (gD k i) (iD k j))→dP C L R T i j ks t=dP C L R U i j ks t
 | [],_,_=>rfl
 | k :: ks,t,h=>by
  unfold dP
  by_cases hc:bF L R k i j=true
  ·rw [if_pos hc,if_pos hc,h k List.mem_cons_self hc]
   exact kV ks _ (fun k' hk'=>h k' (List.mem_cons_of_mem _ hk'))
  ·rw [if_neg hc,if_neg hc]
   exact kV ks _ (fun k' hk'=>h k' (List.mem_cons_of_mem _ hk'))
theorem fU {L R:List Iv} {k i j:Nat} (hk:k∈kinds) (h:bF L R k i j=true) (hi:i≤L.length) (hj:j≤R.length):gD k i≤L.length∧iD k j≤R.length∧i+j<gD k i+iD k j:=by
 unfold kinds at hk
 simp only [List.mem_cons,List.not_mem_nil,or_false] at hk
 unfold bF at h
 unfold gD iD
 rcases hk with rfl | rfl | rfl | rfl | rfl <;> simp at h ⊢ <;> omega
theorem wN {C:Cs} {L R:List Iv}:∀ (d i j:Nat),i≤L.length→j≤R.length→L.length+R.length≤d+(i+j)→qP C L R d i j=qP C L R (d+1) i j
 | 0,i,j,hi,hj,hd=>by
  have h1:i=L.length:=by omega
  have h2:j=R.length:=by omega
  unfold qP
  rw [if_pos ⟨h1,h2⟩,if_pos ⟨h1,h2⟩]
 | d+1,i,j,hi,hj,hd=>by
  show (if i=L.length∧j=R.length then some 0 else dP C L R (qP C L R d) i j kinds none)=(if i=L.length∧j=R.length then some 0 else dP C L R (qP C L R (d+1)) i j kinds none)
  split
  ·rfl
  ·refine kV kinds none (fun k hk hc=>?_)
   obtain ⟨h1,h2,h3⟩:=fU hk hc hi hj
   exact wN d _ _ h1 h2 (by omega)
theorem sN (C:Cs) (L R:List Iv):um C L R L.length R.length=some 0:=by
 unfold um
 cases h:L.length+R.length with
 | zero=>unfold qP;rw [if_pos ⟨rfl,rfl⟩]
 | succ d=>unfold qP;rw [if_pos ⟨rfl,rfl⟩]
theorem wQ {C:Cs} {L R:List Iv} {i j:Nat} (hi:i≤L.length) (hj:j≤R.length) (h:¬ (i=L.length∧j=R.length)):um C L R i j=dP C L R (um C L R) i j kinds none:=by
 show qP C L R (L.length+R.length) i j=_
 obtain ⟨d,hd⟩ : ∃ d,L.length+R.length=d+1:=⟨L.length+R.length-1,by omega⟩
 rw [hd]
 show (if i=L.length∧j=R.length then some 0 else dP C L R (qP C L R d) i j kinds none)=_
 rw [if_neg h]
 refine kV kinds none (fun k hk hc=>?_)
 obtain ⟨h1,h2,h3⟩:=fU hk hc hi hj
 unfold um
 rw [hd]
 exact wN d _ _ h1 h2 (by omega)
theorem PZ (t:Option Rat) (x:Rat):∃ y,o9 t x=some y:=by
 cases t with
 | none=>exact ⟨x,rfl⟩
 | some y=>unfold o9;dsimp only;split <;> exact ⟨_,rfl⟩
theorem zG {C:Cs} {L R:List Iv} {T:Nat→Nat→Option Rat} {i j:Nat}:∀ (ks:List Nat) (t:Option Rat),(t≠none∨∃ k∈ks,bF L R k i j=true)→∃ y,dP C L R T i j ks t=some y
 | [],t,h=>by
  rcases h with h | ⟨k,hk,_⟩
  ·cases t with
   | none=>exact absurd rfl h
   | some y=>exact ⟨y,rfl⟩
  ·cases hk
 | k :: ks,t,h=>by
  unfold dP
  refine zG ks _ ?_
  by_cases hc:bF L R k i j=true
  ·rw [if_pos hc]
   obtain ⟨y,hy⟩:=PZ t ((T (gD k i) (iD k j)).getD 0+bY C L R k i j)
   rw [hy]
   exact .inl (by simp)
  ·rw [if_neg hc]
   rcases h with h | ⟨k',hk',hc'⟩
   ·exact .inl h
   ·rcases List.mem_cons.1 hk' with e | e
    ·rw [e] at hc';exact absurd hc' hc
    ·exact .inr ⟨k',e,hc'⟩
theorem Sq {L R:List Iv} {i j:Nat} (hi:i≤L.length) (hj:j≤R.length) (h:¬ (i=L.length∧j=R.length)):∃ k∈kinds,bF L R k i j=true:=by
 by_cases h1:i<L.length
 ·exact ⟨2,by decide,by unfold bF;simp [h1]⟩
 ·exact ⟨3,by decide,by unfold bF;simp;omega⟩
theorem Md {C:Cs} {L R:List Iv} {i j:Nat} (hi:i≤L.length) (hj:j≤R.length):∃ y,um C L R i j=some y:=by
 by_cases h:i=L.length∧j=R.length
 ·obtain ⟨rfl,rfl⟩:=h;exact ⟨0,sN C L R⟩
 ·rw [wQ hi hj h]
  exact zG _ _ (.inr (Sq hi hj h))
def bI (C:Cs) (L R:List Iv) (i j:Nat):Rat:=(um C L R i j).getD 0
theorem yt {C:Cs} {L R:List Iv} {i j:Nat} (hi:i≤L.length) (hj:j≤R.length):um C L R i j=some (bI C L R i j):=by
 obtain ⟨y,h⟩:=Md (C:=C) hi hj
 unfold bI
 rw [h];rfl
def fV (C:Cs) (L R:List Iv) (i j k:Nat):Bool:=bF L R k i j && decide (bY C L R k i j+bI C L R (gD k i) (iD k j)=bI C L R i j)
theorem BF {C:Cs} {L R:List Iv} {T:Nat→Nat→Option Rat} {i j:Nat}:∀ (ks:List Nat) (t:Option Rat) (y:Rat),dP C L R T i j ks t=some y→t=some y∨∃ k∈ks,bF L R k i j=true∧(T (gD k i) (iD k j)).getD 0+bY C L R k i j=y
 | [],t,y,h=>.inl h
 | k :: ks,t,y,h=>by
  unfold dP at h
  rcases BF ks _ y h with e | ⟨k',h1,h2,h3⟩
  ·by_cases hc:bF L R k i j=true
   ·rw [if_pos hc] at e
    cases t with
    | none =>
     unfold o9 at e
     simp only [Option.some.injEq] at e
     exact .inr ⟨k,List.mem_cons_self,hc,e⟩
    | some z =>
     unfold o9 at e
     dsimp only at e
     split at e
     ·simp only [Option.some.injEq] at e
      exact .inr ⟨k,List.mem_cons_self,hc,e⟩
     ·exact .inl e
   ·rw [if_neg hc] at e;exact .inl e
  ·exact .inr ⟨k',List.mem_cons_of_mem _ h1,h2,h3⟩
theorem P5 {C:Cs} {L R:List Iv} {i j:Nat} (hi:i≤L.length) (hj:j≤R.length) (h:¬ (i=L.length∧j=R.length)):∃ k∈kinds,fV C L R i j k=true:=by
 have h1:=yt (C:=C) hi hj
 have h2:=h1
 rw [wQ hi hj h] at h2
 rcases BF _ _ _ h2 with e | ⟨k,hk,hc,e⟩
 ·cases e
 ·refine ⟨k,hk,?_⟩
  unfold fV
  rw [hc,Bool.true_and]
  apply decide_eq_true
  have:(um C L R (gD k i) (iD k j)).getD 0=bI C L R (gD k i) (iD k j):=rfl
  rw [this] at e
  rw [Rat.add_comm];exact e
def eX (C:Cs) (L R:List Iv) (i j:Nat):Nat:=(kinds.find? (fV C L R i j)).getD 0
theorem lN {C:Cs} {L R:List Iv} {i j:Nat} (hi:i≤L.length) (hj:j≤R.length) (h:¬ (i=L.length∧j=R.length)):eX C L R i j∈kinds∧fV C L R i j (eX C L R i j)=true∧∀ k,k∈kinds→k<eX C L R i j→fV C L R i j k=false:=by
 obtain ⟨k,hk,hg⟩:=P5 (C:=C) hi hj h
 have hs:(kinds.find? (fV C L R i j)).isSome:=by
  rw [List.find?_isSome];exact ⟨k,hk,hg⟩
 obtain ⟨m,hm⟩:=Option.isSome_iff_exists.1 hs
 have e:eX C L R i j=m:=by unfold eX;rw [hm];rfl
 rw [e]
 refine ⟨List.mem_of_find?_eq_some hm,List.find?_some hm,fun k' hk' hlt=>?_⟩
 have hm2:=hm
 unfold kinds at hm2 hk'
 simp only [List.find?_cons,List.find?_nil] at hm2
 simp only [List.mem_cons,List.not_mem_nil,or_false] at hk'
 cases g1:fV C L R i j 1 <;> cases g2:fV C L R i j 2 <;> cases g3:fV C L R i j 3 <;> cases g4:fV C L R i j 4 <;> cases g5:fV C L R i j 5 <;> simp [g1,g2,g3,g4,g5] at hm2 <;> subst hm2 <;> rcases hk' with rfl | rfl | rfl | rfl | rfl <;> first | assumption | omega
structure Stp where
 k:Nat
 i:Nat
 j:Nat
def zH (C:Cs) (L R:List Iv):Nat→Nat→Nat→List Stp
 | 0,_,_=>[]
 | d+1,i,j=>if i=L.length∧j=R.length then [] else ⟨eX C L R i j,i,j⟩ :: zH C L R d (gD (eX C L R i j) i) (iD (eX C L R i j) j)
def kG (C:Cs) (L R:List Iv) (i j:Nat):List Stp:=zH C L R (L.length+R.length) i j
theorem lH {C:Cs} {L R:List Iv} {i j k:Nat} (h:fV C L R i j k=true):bF L R k i j=true:=by
 unfold fV at h
 rw [Bool.and_eq_true] at h
 exact h.1
theorem wR {C:Cs} {L R:List Iv}:∀ (d i j:Nat),i≤L.length→j≤R.length→L.length+R.length≤d+(i+j)→zH C L R d i j=zH C L R (d+1) i j
 | 0,i,j,hi,hj,hd=>by
  show []=(if i=L.length∧j=R.length then [] else _)
  rw [if_pos ⟨by omega,by omega⟩]
 | d+1,i,j,hi,hj,hd=>by
  show (if i=L.length∧j=R.length then [] else Stp.mk (eX C L R i j) i j :: zH C L R d (gD (eX C L R i j) i) (iD (eX C L R i j) j))=(if i=L.length∧j=R.length then [] else Stp.mk (eX C L R i j) i j :: zH C L R (d+1) (gD (eX C L R i j) i) (iD (eX C L R i j) j))
  split
  ·rfl
  ·rename_i h
   obtain ⟨h1,h2,_⟩:=lN (C:=C) hi hj h
   obtain ⟨h3,h4,h5⟩:=fU h1 (lH h2) hi hj
   rw [wR d _ _ h3 h4 (by omega)]
theorem yu (C:Cs) (L R:List Iv):kG C L R L.length R.length=[]:=by
 unfold kG
 cases L.length+R.length with
 | zero=>rfl
 | succ d=>show (if _ then _ else _)=_;rw [if_pos ⟨rfl,rfl⟩]
theorem BG {C:Cs} {L R:List Iv} {i j:Nat} (hi:i≤L.length) (hj:j≤R.length) (h:¬ (i=L.length∧j=R.length)) :
  kG C L R i j=⟨eX C L R i j,i,j⟩ :: kG C L R (gD (eX C L R i j) i) (iD (eX C L R i j) j):=by
 obtain ⟨h1,h2,_⟩:=lN (C:=C) hi hj h
 obtain ⟨h3,h4,h5⟩:=fU h1 (lH h2) hi hj
 obtain ⟨d,hd⟩ : ∃ d,L.length+R.length=d+1:=⟨L.length+R.length-1,by omega⟩
 unfold kG
 rw [hd]
 show (if i=L.length∧j=R.length then [] else _)=_
 rw [if_neg h,wR d _ _ h3 h4 (by omega)]
def Q4 (n:Nat) (q:Rat):Prop:=∃ k:Int,k.natAbs≤n∧q*4=(k:Rat)
theorem Q4.add {m n:Nat} {p q:Rat} (h:Q4 m p) (k:Q4 n q):Q4 (m+n) (p+q):=by
 obtain ⟨a,h1,h2⟩:=h
 obtain ⟨b,k1,k2⟩:=k
 exact ⟨a+b,by omega,by rw [Rat.add_mul,h2,k2,Rat.intCast_add]⟩
theorem Q4.mono {m n:Nat} {p:Rat} (h:Q4 m p) (hn:m≤n):Q4 n p:=by
 obtain ⟨a,h1,h2⟩:=h
 exact ⟨a,Nat.le_trans h1 hn,h2⟩
theorem Q4.zero:Q4 0 0:=⟨0,by decide,by decide +kernel⟩
theorem Jt {C:Cs} {L R:List Iv} {T:Nat→Nat→Option Rat} {i j N:Nat} (hT:∀ k∈kinds,bF L R k i j=true→Q4 N ((T (gD k i) (iD k j)).getD 0+bY C L R k i j)) :
  ∀ (ks:List Nat) (t:Option Rat),(∀ k∈ks,k∈kinds)→(∀ y,t=some y→Q4 N y)→∀ y,dP C L R T i j ks t=some y→Q4 N y
 | [],t,_,ht,y,h=>ht y h
 | k :: ks,t,hks,ht,y,h=>by
  unfold dP at h
  refine Jt hT ks _ (fun k' hk'=>hks k' (List.mem_cons_of_mem _ hk')) ?_ y h
  intro z hz
  by_cases hc:bF L R k i j=true
  ·rw [if_pos hc] at hz
   have hq:=hT k (hks k List.mem_cons_self) hc
   cases t with
   | none=>unfold o9 at hz;simp only [Option.some.injEq] at hz;rw [←hz];exact hq
   | some z' =>
    unfold o9 at hz
    dsimp only at hz
    split at hz
    ·simp only [Option.some.injEq] at hz;rw [←hz];exact hq
    ·exact ht z hz
  ·rw [if_neg hc] at hz;exact ht z hz
theorem NW {C:Cs} {L R:List Iv} {B:Nat} (hB:∀ k i j,k∈kinds→bF L R k i j=true→Q4 B (bY C L R k i j)):∀ (d i j:Nat),i≤L.length→j≤R.length→L.length+R.length≤d+(i+j)→Q4 (B*d) (bI C L R i j)
 | 0,i,j,hi,hj,hd=>by
  obtain rfl:i=L.length:=by omega
  obtain rfl:j=R.length:=by omega
  unfold bI
  rw [sN]
  exact Q4.zero
 | d+1,i,j,hi,hj,hd=>by
  by_cases h:i=L.length∧j=R.length
  ·obtain ⟨rfl,rfl⟩:=h
   unfold bI
   rw [sN]
   exact Q4.zero.mono (Nat.zero_le _)
  ·have h1:=yt (C:=C) hi hj
   rw [wQ hi hj h] at h1
   refine Jt (N:=B*(d+1)) (fun k hk hc=>?_) kinds none (fun _ hk=>hk) (fun y hy=>by cases hy) _ h1
   obtain ⟨h3,h4,h5⟩:=fU hk hc hi hj
   exact ((NW hB d _ _ h3 h4 (by omega)).add (hB k i j hk hc)).mono (by rw [Nat.mul_add,Nat.mul_one];exact Nat.le_refl _)
inductive om (L R:List Iv):Nat→Nat→List Stp→Prop where
 | done:om L R L.length R.length []
 | step {i j k:Nat} {P:List Stp} (hk:k∈kinds) (hc:bF L R k i j=true) (h:om L R (gD k i) (iD k j) P):om L R i j (⟨k,i,j⟩ :: P)
theorem EL (C:Cs) (L R:List Iv):∀ (d i j:Nat),i≤L.length→j≤R.length→L.length+R.length≤d+(i+j)→om L R i j (kG C L R i j)
 | 0,i,j,hi,hj,hd=>by
  obtain rfl:i=L.length:=by omega
  obtain rfl:j=R.length:=by omega
  rw [yu]
  exact .done
 | d+1,i,j,hi,hj,hd=>by
  by_cases h:i=L.length∧j=R.length
  ·obtain ⟨rfl,rfl⟩:=h
   rw [yu]
   exact .done
  ·rw [BG hi hj h]
   obtain ⟨h1,h2,_⟩:=lN (C:=C) hi hj h
   obtain ⟨h3,h4,h5⟩:=fU h1 (lH h2) hi hj
   exact .step h1 (lH h2) (EL C L R d _ _ h3 h4 (by omega))
theorem BH (C:Cs) (L R:List Iv):om L R 0 0 (kG C L R 0 0):=EL C L R (L.length+R.length) 0 0 (Nat.zero_le _) (Nat.zero_le _) (by omega)
theorem Sr (k i j:Nat):i≤gD k i∧j≤iD k j:=by
 unfold gD iD
 constructor <;> split <;> omega
theorem om.low {L R:List Iv} {i j:Nat} {P:List Stp} (h:om L R i j P):∀ s∈P,i≤s.i∧j≤s.j∧s.k∈kinds∧bF L R s.k s.i s.j=true:=by
 induction h with
 | done=>intro s hs;cases hs
 | @step i j k P hk hc h ih =>
  intro s hs
  rcases List.mem_cons.1 hs with rfl | hs
  ·exact ⟨Nat.le_refl _,Nat.le_refl _,hk,hc⟩
  ·obtain ⟨h1,h2,h3⟩:=ih s hs
   have:=Sr k i j
   exact ⟨by omega,by omega,h3⟩
theorem om.one {L R:List Iv} {i j:Nat} {P:List Stp} (h:om L R i j P):∀ s∈P,∀ t∈P,s.k=1→t.k=1→(s.i=t.i↔s.j=t.j):=by
 induction h with
 | done=>intro s hs;cases hs
 | @step i j k P hk hc h ih =>
  intro s hs t ht h1 h2
  have hlow:=h.low
  rcases List.mem_cons.1 hs with rfl | hs <;> rcases List.mem_cons.1 ht with rfl | ht
  ·exact ⟨fun _=>rfl,fun _=>rfl⟩
  ·obtain ⟨a,b,_⟩:=hlow t ht
   dsimp only at h1 ⊢
   subst h1
   unfold gD at a
   unfold iD at b
   simp at a b
   constructor <;> intro e <;> omega
  ·obtain ⟨a,b,_⟩:=hlow s hs
   dsimp only at h2 ⊢
   subst h2
   unfold gD at a
   unfold iD at b
   simp at a b
   constructor <;> intro e <;> omega
  ·exact ih s hs t ht h1 h2
end Go.Proofs.YtglncfkoohgdaaaGreatDoor
