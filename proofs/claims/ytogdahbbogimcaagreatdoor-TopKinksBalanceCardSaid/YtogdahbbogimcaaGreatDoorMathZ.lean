import Derived.Lib.ItoaNum
import Derived.Lib.Bytealg
import Derived.Lib.ParseIntB
import Derived.Lib.AtoiAllCases
import Derived.Lib.Strings
namespace Go.Proofs.YtogdahbbogimcaaGreatDoor
open Go.Lib (decDigits itoa nDigits compareBytes)
@[irreducible] def dv (c:UInt8):Nat:=c.toNat-48
def isDig (c:UInt8):Bool:=48≤c.toNat && c.toNat≤57
def natFrom:Nat→List UInt8→Nat
 | a,[]=>a
 | a,c :: l=>natFrom (10*a+dv c) l
def natOf (l:List UInt8):Nat:=natFrom 0 l
@[simp] theorem natFrom_nil (a:Nat):natFrom a []=a:=by rw [natFrom]
@[simp] theorem natFrom_cons (a:Nat) (c:UInt8) (l:List UInt8):natFrom a (c :: l)=natFrom (10*a+dv c) l:=by rw [natFrom]
theorem natFrom_append (a:Nat) (l m:List UInt8):natFrom a (l++m)=natFrom (natFrom a l) m:=by
 induction l generalizing a with
 | nil=>simp
 | cons c l ih=>simp [ih]
theorem natFrom_eq (l:List UInt8):∀ a,natFrom a l=a*10 ^ l.length+natOf l:=by
 induction l with
 | nil=>intro a;simp [natOf]
 | cons c l ih =>
  intro a
  simp only [natOf,natFrom_cons,List.length_cons]
  rw [ih,ih (10*0+dv c)]
  simp only [natOf]
  rw [Nat.pow_succ]
  simp only [Nat.mul_zero,Nat.zero_add,Nat.add_mul]
  have:10*a*10 ^ l.length=a*(10 ^ l.length*10):=by
   rw [Nat.mul_comm 10 a,Nat.mul_assoc,Nat.mul_comm 10]
  omega
@[simp] theorem natOf_nil:natOf []=0:=rfl
theorem natOf_append (l m:List UInt8):natOf (l++m)=natOf l*10 ^ m.length+natOf m:=by
 rw [natOf,natFrom_append,natFrom_eq];rfl
@[simp] theorem natOf_one (c:UInt8):natOf [c]=dv c:=by unfold natOf;rw [natFrom_cons,natFrom_nil];omega
theorem natOf_cons (c:UInt8) (l:List UInt8):natOf (c :: l)=dv c*10 ^ l.length+natOf l:=by
 have h:=natOf_append [c] l
 simp only [List.singleton_append] at h
 rw [h,natOf_one]
theorem natOf_snoc (l:List UInt8) (c:UInt8):natOf (l ++ [c])=10*natOf l+dv c:=by
 rw [natOf_append,natOf_one];simp;omega
theorem dv_lt {c:UInt8} (h:isDig c=true):dv c<10:=by
 simp [isDig] at h;unfold dv;omega
theorem natOf_lt {l:List UInt8} (h:∀ c∈l,isDig c=true):natOf l<10 ^ l.length:=by
 induction l with
 | nil=>simp
 | cons c l ih =>
  rw [natOf_cons,List.length_cons,Nat.pow_succ]
  have h1:=ih (fun c hc=>h c (by simp [hc]))
  have h2:=dv_lt (h c (by simp))
  have:dv c*10 ^ l.length≤9*10 ^ l.length:=Nat.mul_le_mul_right _ (by omega)
  omega
theorem toNat_digit {n:Nat} (h:n<10):(UInt8.ofNat (48+n)).toNat=48+n:=by
 simp [UInt8.toNat_ofNat'];omega
theorem dv_digit {n:Nat} (h:n<10):dv (UInt8.ofNat (48+n))=n:=by
 unfold dv;rw [toNat_digit h];omega
theorem isDig_digit {n:Nat} (h:n<10):isDig (UInt8.ofNat (48+n))=true:=by
 unfold isDig;rw [toNat_digit h];simp;omega
theorem digit_dv {c:UInt8} (h:isDig c=true):UInt8.ofNat (48+dv c)=c:=by
 simp [isDig] at h
 apply UInt8.toNat_inj.1
 unfold dv
 simp [UInt8.toNat_ofNat'];omega
theorem decDigits_small {n:Nat} (h:n<10):decDigits n=[UInt8.ofNat (48+n)]:=by
 rw [decDigits,dif_pos h]
theorem decDigits_big {n:Nat} (h:10≤n):decDigits n=decDigits (n/10) ++ [UInt8.ofNat (48+n % 10)]:=by
 rw [decDigits,dif_neg (by omega)]
theorem natOf_decDigits:∀ n,natOf (decDigits n)=n:=by
 intro n
 induction n using Nat.strongRecOn with
 | _ n ih =>
  by_cases h:n<10
  ·rw [decDigits_small h,natOf_one,dv_digit h]
  ·rw [decDigits_big (by omega),natOf_snoc,ih _ (by omega),dv_digit (by omega)];omega
theorem decDigits_inj {m n:Nat} (h:decDigits m=decDigits n):m=n:=by
 rw [←natOf_decDigits m,h,natOf_decDigits]
theorem decDigits_dig:∀ n,∀ c∈decDigits n,isDig c=true:=by
 intro n
 induction n using Nat.strongRecOn with
 | _ n ih =>
  by_cases h:n<10
  ·rw [decDigits_small h];intro c hc;rw [List.mem_singleton] at hc;subst hc;exact isDig_digit h
  ·rw [decDigits_big (by omega)]
   intro c hc
   rw [List.mem_append] at hc
   rcases hc with hc | hc
   ·exact ih _ (by omega) c hc
   ·rw [List.mem_singleton] at hc;subst hc;exact isDig_digit (by omega)
theorem decDigits_ne_nil (n:Nat):decDigits n≠[]:=by
 by_cases h:n<10
 ·rw [decDigits_small h];simp
 ·rw [decDigits_big (by omega)];simp
theorem decDigits_len (n:Nat):(decDigits n).length=nDigits n:=Go.Lib.decDigits_length n
theorem decDigits_head:∀ n,n≠0→∃ c r,decDigits n=c :: r∧c.toNat≠48:=by
 intro n
 induction n using Nat.strongRecOn with
 | _ n ih =>
  intro hn
  by_cases h:n<10
  ·rw [decDigits_small h];exact ⟨_,_,rfl,by rw [toNat_digit h];omega⟩
  ·obtain ⟨c,r,he,hc⟩:=ih (n/10) (by omega) (by omega)
   rw [decDigits_big (by omega),he]
   exact ⟨c,r ++ [_],rfl,hc⟩
theorem decDigits_zero:decDigits 0=[48]:=by rw [decDigits_small (by omega)];rfl
theorem decDigits_natOf:∀ (l:List UInt8),l≠[]→(∀ c∈l,isDig c=true)→(l.length=1∨∃ c r,l=c :: r∧c.toNat≠48)→decDigits (natOf l)=l:=by
 intro l
 generalize hn:l.length=n
 induction n generalizing l with
 | zero=>intro h;simp at hn;exact (h hn).elim
 | succ n ih =>
  intro hne hd hh
  obtain ⟨m,c,rfl⟩ : ∃ m c,l=m ++ [c]:=⟨l.dropLast,l.getLast hne,(List.dropLast_concat_getLast hne).symm⟩
  have hdc:isDig c=true:=hd c (by simp)
  have hc10:=dv_lt hdc
  by_cases hm:m=[]
  ·subst hm
   rw [List.nil_append,natOf_one,decDigits_small hc10,digit_dv hdc]
  ·simp at hn
   have hm0:m.length≠0:=by simpa using hm
   obtain ⟨c0,r0,he,hc0⟩:=hh.resolve_left (by omega)
   obtain ⟨d,r,rfl⟩ : ∃ d r,m=d :: r:=by
    cases m with
    | nil=>exact (hm rfl).elim
    | cons d r=>exact ⟨d,r,rfl⟩
   simp at he
   obtain ⟨rfl,rfl⟩:=he
   have hmd:∀ c∈(d :: r),isDig c=true:=fun x hx=>hd x (List.mem_append_left _ hx)
   have hv:=ih (d :: r) hn (by simp) hmd (.inr ⟨d,r,rfl,hc0⟩)
   have hpos:0<natOf (d :: r):=by
    rw [natOf_cons]
    have h48:=hmd d (by simp)
    simp [isDig] at h48
    have:0<dv d:=by unfold dv;omega
    have:=Nat.mul_pos this (Nat.pow_pos (n:=r.length) (show 0<10 by decide))
    omega
   rw [natOf_snoc,decDigits_big (by omega),show (10*natOf (d :: r)+dv c)/10=natOf (d :: r) by omega,hv,
    show (10*natOf (d :: r)+dv c) % 10=dv c by omega,digit_dv hdc]
theorem nDigits_lt_iff {n k:Nat}:n<10 ^ k∧0<k↔nDigits n≤k∧0<k:=by
 constructor
 ·rintro ⟨h,h0⟩
  refine ⟨?_,h0⟩
  apply Nat.le_of_not_lt
  intro hlt
  by_cases hz:n=0
  ·subst hz;rw [Go.Lib.nDigits_small (by omega)] at hlt;omega
  ·obtain ⟨c,r,he,hc⟩:=decDigits_head n hz
   have hv:=natOf_decDigits n
   have hd:=decDigits_dig n
   have hl:=decDigits_len n
   rw [he] at hv hd hl
   have h48:=hd c (by simp)
   simp [isDig] at h48
   have:1≤dv c:=by unfold dv;omega
   rw [natOf_cons] at hv
   have h1:=Nat.mul_le_mul_right (10 ^ r.length) this
   have h2:10 ^ k≤10 ^ r.length:=Nat.pow_le_pow_right (by decide) (by simp at hl;omega)
   omega
 ·rintro ⟨h,h0⟩
  exact ⟨Nat.lt_of_lt_of_le (Go.Lib.lt_pow_nDigits n) (Nat.pow_le_pow_right (by decide) h),h0⟩
theorem nDigits_le_of_lt {n k:Nat} (h:n<10 ^ k) (h0:0<k):nDigits n≤k:=(nDigits_lt_iff.1 ⟨h,h0⟩).1
theorem lt_of_nDigits_le {n k:Nat} (h:nDigits n≤k):n<10 ^ k:=
 Nat.lt_of_lt_of_le (Go.Lib.lt_pow_nDigits n) (Nat.pow_le_pow_right (by decide) h)
def val:List Nat→Nat
 | []=>0
 | x :: p=>x+1000000000*val p
def pcs (n:Nat):List Nat:=
 if h:n=0 then [] else n % 1000000000 :: pcs (n/1000000000)
termination_by n
decreasing_by omega
@[simp] theorem val_nil:val []=0:=by rw [val]
@[simp] theorem val_cons (x:Nat) (p:List Nat):val (x :: p)=x+1000000000*val p:=by rw [val]
theorem pcs_zero:pcs 0=[]:=by rw [pcs,dif_pos rfl]
theorem pcs_pos {n:Nat} (h:n≠0):pcs n=n % 1000000000 :: pcs (n/1000000000):=by rw [pcs,dif_neg h]
theorem val_pcs:∀ n,val (pcs n)=n:=by
 intro n
 induction n using Nat.strongRecOn with
 | _ n ih =>
  by_cases h:n=0
  ·subst h;rw [pcs_zero];rfl
  ·rw [pcs_pos h,val_cons,ih _ (by omega)];omega
theorem pcs_inj {m n:Nat} (h:pcs m=pcs n):m=n:=by rw [←val_pcs m,h,val_pcs]
theorem pcs_lt:∀ n,∀ x∈pcs n,x<1000000000:=by
 intro n
 induction n using Nat.strongRecOn with
 | _ n ih =>
  by_cases h:n=0
  ·subst h;rw [pcs_zero];simp
  ·rw [pcs_pos h]
   intro x hx
   rcases List.mem_cons.1 hx with rfl | hx
   ·omega
   ·exact ih _ (by omega) x hx
theorem pcs_eq_nil {n:Nat}:pcs n=[]↔n=0:=by
 constructor
 ·intro h;rw [←val_pcs n,h];rfl
 ·rintro rfl;exact pcs_zero
theorem pcs_small {n:Nat} (h:n≠0) (h':n<1000000000):pcs n=[n]:=by
 rw [pcs_pos h,Nat.mod_eq_of_lt h',Nat.div_eq_of_lt h',pcs_zero]
theorem val_append (a b:List Nat):val (a++b)=val a+1000000000 ^ a.length*val b:=by
 induction a with
 | nil=>simp
 | cons x a ih =>
  simp only [List.cons_append,val_cons,ih,List.length_cons,Nat.pow_succ,Nat.mul_add]
  rw [Nat.mul_comm (1000000000 ^ a.length) 1000000000,Nat.mul_assoc]
  omega
theorem val_snoc (a:List Nat) (x:Nat):val (a ++ [x])=val a+1000000000 ^ a.length*x:=by
 rw [val_append];simp
theorem val_lt {a:List Nat} (h:∀ x∈a,x<1000000000):val a<1000000000 ^ a.length:=by
 induction a with
 | nil=>simp
 | cons x a ih =>
  rw [val_cons,List.length_cons,Nat.pow_succ]
  have h1:=ih (fun y hy=>h y (List.mem_cons_of_mem _ hy))
  have h2:=h x (List.mem_cons_self)
  omega
theorem val_replicate_zero (k:Nat):val (List.replicate k 0)=0:=by
 induction k with
 | zero=>rfl
 | succ k ih=>rw [List.replicate_succ,val_cons,ih]
theorem pcs_val:∀ (a:List Nat),(∀ x∈a,x<1000000000)→(∀ h:a≠[],a.getLast h≠0)→pcs (val a)=a:=by
 intro a
 induction a with
 | nil=>intro _ _;exact pcs_zero
 | cons x a ih =>
  intro h hl
  have hx:=h x (List.mem_cons_self)
  have ha:∀ y∈a,y<1000000000:=fun y hy=>h y (List.mem_cons_of_mem _ hy)
  have hne:val (x :: a)≠0:=by
   rw [val_cons]
   by_cases he:a=[]
   ·subst he
    have:=hl (by simp)
    simp at this ⊢
    omega
   ·have h1:=ih ha (fun h'=>by have:=hl (by simp);rwa [List.getLast_cons he] at this)
    have h2:val a≠0:=fun h0=>he (by rw [←h1,h0,pcs_zero])
    omega
  rw [pcs_pos hne,val_cons,show (x+1000000000*val a) % 1000000000=x by omega,show (x+1000000000*val a)/1000000000=val a by omega]
  by_cases he:a=[]
  ·subst he;rw [val_nil,pcs_zero]
  ·rw [ih ha (fun h'=>by have:=hl (by simp);rwa [List.getLast_cons he] at this)]
theorem pcs_getLast:∀ (n:Nat) (h:pcs n≠[]),(pcs n).getLast h≠0:=by
 intro n
 induction n using Nat.strongRecOn with
 | _ n ih =>
  intro h
  have h0:n≠0:=fun h'=>h (by rw [h',pcs_zero])
  by_cases he:pcs (n/1000000000)=[]
  ·have:n/1000000000=0:=pcs_eq_nil.1 he
   have e:pcs n=[n]:=pcs_small h0 (by omega)
   simp only [e];simpa using h0
  ·have e:=pcs_pos h0
   have:=ih (n/1000000000) (by omega) he
   simp only [e]
   rwa [List.getLast_cons he]
def trimL (a:List Nat):List Nat:=(a.reverse.dropWhile (· == 0)).reverse
theorem trimL_val_aux:∀ (r:List Nat),(∀ x∈r,x<1000000000)→pcs (val r.reverse)=(r.dropWhile (· == 0)).reverse:=by
 intro r
 induction r with
 | nil=>intro _;simp [pcs_zero]
 | cons x r ih =>
  intro h
  have hr:∀ y∈r,y<1000000000:=fun y hy=>h y (List.mem_cons_of_mem _ hy)
  by_cases hx:x=0
  ·subst hx
   rw [List.reverse_cons,val_snoc,Nat.mul_zero,Nat.add_zero,ih hr]
   simp
  ·have e:List.dropWhile (· == 0) (x :: r)=x :: r:=by simp [hx]
   rw [e]
   refine pcs_val _ (fun y hy=>h y (List.mem_reverse.1 hy)) ?_
   intro h'
   simpa using hx
theorem trimL_val (a:List Nat) (h:∀ x∈a,x<1000000000):trimL a=pcs (val a):=by
 have:=trimL_val_aux a.reverse (fun x hx=>h x (by simpa using hx))
 rw [List.reverse_reverse] at this
 rw [this];rfl
theorem pcs_len_lt {n k:Nat} (h:n<1000000000 ^ k):(pcs n).length≤k:=by
 induction k generalizing n with
 | zero=>simp at h;subst h;rw [pcs_zero];simp
 | succ k ih =>
  by_cases h0:n=0
  ·subst h0;rw [pcs_zero];simp
  ·rw [pcs_pos h0,List.length_cons]
   have:=ih (n:=n/1000000000) (by rw [Nat.pow_succ] at h;omega)
   omega
theorem lt_of_pcs_len (n:Nat):n<1000000000 ^ (pcs n).length:=by
 have:=val_lt (pcs_lt n)
 rwa [val_pcs] at this
theorem pcs_len_le {n:Nat} (h:n≠0):1000000000 ^ ((pcs n).length-1)≤n:=by
 apply Nat.le_of_not_lt
 intro hlt
 have:=pcs_len_lt hlt
 have:(pcs n).length≠0:=by simpa [pcs_eq_nil] using h
 omega
theorem pcs_len_mono {m n:Nat} (h:m≤n):(pcs m).length≤(pcs n).length:=
 pcs_len_lt (Nat.lt_of_le_of_lt h (lt_of_pcs_len n))
theorem lt_of_len_lt {m n:Nat} (h:(pcs m).length<(pcs n).length):m<n:=by
 apply Nat.lt_of_not_le
 intro hle
 have:=pcs_len_mono hle
 omega
theorem val_lt_of_top {a b:List Nat} (hl:a.length=b.length) (ha:∀ x∈a,x<1000000000) (i:Nat) (hi:i<a.length)
  (hlt:a[i]<b[i]'(by omega)) (heq:∀ j (h:j<a.length),i<j→a[j]=b[j]'(by omega)):val a<val b:=by
 have hb:i<b.length:=by omega
 have e1:a=a.take i++a[i] :: a.drop (i+1):=by
  rw [←List.drop_eq_getElem_cons hi,List.take_append_drop]
 have e2:b=b.take i++b[i] :: b.drop (i+1):=by
  rw [←List.drop_eq_getElem_cons hb,List.take_append_drop]
 have e3:a.drop (i+1)=b.drop (i+1):=by
  apply List.ext_getElem
  ·simp;omega
  ·intro j h1 h2
   simp only [List.getElem_drop]
   have:i+1+j<a.length:=by simp at h1;omega
   exact heq _ this (by omega)
 rw [e1,e2,val_append,val_append,e3,val_cons,val_cons]
 have hta:val (a.take i)<1000000000 ^ (a.take i).length:=val_lt (fun x hx=>ha x (List.mem_of_mem_take hx))
 rw [show (a.take i).length=i by simp;omega] at *
 rw [show (b.take i).length=i by simp;omega]
 have h1:1000000000 ^ i*(a[i]+1000000000*val (b.drop (i+1))+1)≤1000000000 ^ i*(b[i]+1000000000*val (b.drop (i+1))):=
  Nat.mul_le_mul_left _ (by omega)
 rw [Nat.mul_add _ _ 1] at h1
 omega
theorem pcs_length_pos {n:Nat} (h:n≠0):0<(pcs n).length:=by
 apply Nat.pos_of_ne_zero
 simpa [pcs_eq_nil] using h
theorem itoa_neg {n:Int} (h:n<0):itoa n=45 :: decDigits n.natAbs:=by unfold itoa;rw [if_pos h]
theorem itoa_nonneg {n:Int} (h:0≤n):itoa n=decDigits n.toNat:=by unfold itoa;rw [if_neg (by omega)]
theorem itoa_nat (n:Nat):itoa (n:Int)=decDigits n:=by rw [itoa_nonneg (by omega)];simp
theorem dig_ne45 {c:UInt8} (h:isDig c=true):c≠45:=by rintro rfl;simp [isDig] at h
theorem dig_ne47 {c:UInt8} (h:isDig c=true):c≠47:=by rintro rfl;simp [isDig] at h
theorem decDigits_ne45 (n:Nat) (r:List UInt8):decDigits n≠45 :: r:=by
 intro h
 exact dig_ne45 (decDigits_dig n 45 (by rw [h];exact List.mem_cons_self)) rfl
theorem itoa_inj {m n:Int} (h:itoa m=itoa n):m=n:=by
 by_cases hm:m<0 <;> by_cases hn:n<0
 ·rw [itoa_neg hm,itoa_neg hn] at h
  have:=decDigits_inj (List.cons.inj h).2
  omega
 ·rw [itoa_neg hm,itoa_nonneg (by omega)] at h
  exact (decDigits_ne45 _ _ h.symm).elim
 ·rw [itoa_nonneg (by omega),itoa_neg hn] at h
  exact (decDigits_ne45 _ _ h).elim
 ·rw [itoa_nonneg (by omega),itoa_nonneg (by omega)] at h
  have:=decDigits_inj h
  omega
theorem itoa_ne_nil (n:Int):itoa n≠[]:=by
 by_cases h:n<0
 ·rw [itoa_neg h];simp
 ·rw [itoa_nonneg (by omega)];exact decDigits_ne_nil _
theorem itoa_zero:itoa 0=[48]:=by rw [itoa_nonneg (by omega)];exact decDigits_zero
theorem itoa_one:itoa 1=[49]:=by rw [itoa_nonneg (by omega)];exact decDigits_small (by omega)
theorem itoa_no47 (n:Int):∀ c∈itoa n,c≠47:=by
 intro c hc
 by_cases h:n<0
 ·rw [itoa_neg h] at hc
  rcases List.mem_cons.1 hc with rfl | hc
  ·decide
  ·exact dig_ne47 (decDigits_dig _ c hc)
 ·rw [itoa_nonneg (by omega)] at hc
  exact dig_ne47 (decDigits_dig _ c hc)
def magOf (l:List UInt8):List UInt8:=match l with | 45 :: r=>r | l=>l
theorem magOf_dig {l:List UInt8} (h:∀ r,l≠45 :: r):magOf l=l:=by
 unfold magOf
 split
 ·rename_i r;exact (h r rfl).elim
 ·rfl
theorem magOf_itoa (n:Int):magOf (itoa n)=decDigits n.natAbs:=by
 by_cases h:n<0
 ·rw [itoa_neg h];rfl
 ·rw [itoa_nonneg (by omega),magOf_dig (decDigits_ne45 _)]
  congr 1;omega
def intOk (l:List UInt8):Bool:=
 let s:=magOf l
 let minus:=l.head? == some 45
 !(s.isEmpty || decide (200<s.length) || (s.head? == some 48 && (decide (1<s.length) || minus))) && s.all isDig
theorem intOk_iff (l:List UInt8):intOk l=true↔∃ n:Int,l=itoa n∧nDigits n.natAbs≤200:=by
 constructor
 ·intro h
  simp only [intOk,Bool.and_eq_true,Bool.not_eq_true',Bool.or_eq_false_iff,decide_eq_false_iff_not,List.all_eq_true,List.isEmpty_eq_false_iff] at h
  obtain ⟨⟨⟨hne,hlen⟩,h0⟩,hd⟩:=h
  have hcan:(magOf l).length=1∨∃ c r,magOf l=c :: r∧c.toNat≠48:=by
   cases hs:magOf l with
   | nil=>exact (hne hs).elim
   | cons c r =>
    by_cases hc:c.toNat=48
    ·have:c=48:=by apply UInt8.toNat_inj.1;simpa using hc
     subst this
     rw [hs] at h0
     simp at h0
     exact .inl (by simp;exact h0.1)
    ·exact .inr ⟨c,r,rfl,hc⟩
  have hdd:=decDigits_natOf (magOf l) hne hd hcan
  have hln:=decDigits_len (natOf (magOf l))
  rw [hdd] at hln
  by_cases hm:∃ r,l=45 :: r
  ·obtain ⟨r,rfl⟩:=hm
   have hmr:magOf (45 :: r)=r:=rfl
   rw [hmr] at hdd h0 hln hlen
   have hpos:natOf r≠0:=by
    intro hz
    rw [hz,decDigits_zero] at hdd
    rw [←hdd] at h0
    simp at h0
   refine ⟨-(natOf r:Int),?_,by rw [show (-(natOf r:Int)).natAbs=natOf r by omega];omega⟩
   rw [itoa_neg (by omega),show (-(natOf r:Int)).natAbs=natOf r by omega,hdd]
  ·have e:=magOf_dig (l:=l) (fun r h=>hm ⟨r,h⟩)
   rw [e] at hdd hln hlen
   exact ⟨(natOf l:Int),by rw [itoa_nat,hdd],by rw [Int.natAbs_natCast];omega⟩
 ·rintro ⟨n,rfl,hn⟩
  have hlen:=decDigits_len n.natAbs
  have hne:=decDigits_ne_nil n.natAbs
  have hd:=decDigits_dig n.natAbs
  simp only [intOk,magOf_itoa,Bool.and_eq_true,Bool.not_eq_true',Bool.or_eq_false_iff,decide_eq_false_iff_not,List.all_eq_true,List.isEmpty_eq_false_iff]
  refine ⟨⟨⟨hne,by omega⟩,?_⟩,hd⟩
  by_cases hz:n=0
  ·subst hz;decide +kernel
  ·obtain ⟨c,r,he,hc⟩:=decDigits_head n.natAbs (by omega)
   have:(decDigits n.natAbs).head?≠some 48:=by
    rw [he];intro h;simp at h;subst h;exact hc rfl
   simp [this]
theorem compareBytes_digits:∀ (a b:List UInt8),a.length=b.length→(∀ c∈a,isDig c=true)→(∀ c∈b,isDig c=true) →
  (compareBytes a b = -1↔natOf a<natOf b)∧(compareBytes a b=1↔natOf b<natOf a)∧(compareBytes a b=0↔natOf a=natOf b):=by
 intro a
 induction a with
 | nil=>intro b h _ _;cases b with | nil=>simp [compareBytes] | cons=>simp at h
 | cons x a ih =>
  intro b h ha hb
  cases b with
  | nil=>simp at h
  | cons y b =>
   have hl:a.length=b.length:=by simpa using h
   have hx:=ha x List.mem_cons_self
   have hy:=hb y List.mem_cons_self
   have ha':∀ c∈a,isDig c=true:=fun c hc=>ha c (List.mem_cons_of_mem _ hc)
   have hb':∀ c∈b,isDig c=true:=fun c hc=>hb c (List.mem_cons_of_mem _ hc)
   obtain ⟨i1,i2,i3⟩:=ih b hl ha' hb'
   have la:=natOf_lt ha'
   have lb:=natOf_lt hb'
   rw [natOf_cons,natOf_cons,hl] at *
   have hxd:x.toNat=48+dv x:=by
    have:=digit_dv hx
    rw [←this,toNat_digit (dv_lt hx),dv_digit (dv_lt hx)]
   have hyd:y.toNat=48+dv y:=by
    have:=digit_dv hy
    rw [←this,toNat_digit (dv_lt hy),dv_digit (dv_lt hy)]
   simp only [compareBytes]
   by_cases h1:x<y
   ·have h1':dv x+1≤dv y:=by rw [UInt8.lt_iff_toNat_lt] at h1;omega
    have:=Nat.mul_le_mul_right (10 ^ b.length) h1'
    rw [Nat.add_mul] at this
    rw [if_pos h1]
    refine ⟨⟨fun _=>by omega,fun _=>rfl⟩,⟨fun h=>by simp at h,fun h=>by omega⟩,⟨fun h=>by simp at h,fun h=>by omega⟩⟩
   ·rw [if_neg h1]
    by_cases h2:y<x
    ·have h2':dv y+1≤dv x:=by rw [UInt8.lt_iff_toNat_lt] at h2;omega
     have:=Nat.mul_le_mul_right (10 ^ b.length) h2'
     rw [Nat.add_mul] at this
     rw [if_pos h2]
     refine ⟨⟨fun h=>by simp at h,fun h=>by omega⟩,⟨fun _=>by omega,fun _=>rfl⟩,⟨fun h=>by simp at h,fun h=>by omega⟩⟩
    ·rw [if_neg h2]
     have:dv x=dv y:=by
      rw [UInt8.lt_iff_toNat_lt] at h1 h2;omega
     rw [this]
     refine ⟨by rw [i1];omega,by rw [i2];omega,by rw [i3];omega⟩
theorem nDigits_mono {m n:Nat} (h:m≤n):nDigits m≤nDigits n:=
 nDigits_le_of_lt (Nat.lt_of_le_of_lt h (Go.Lib.lt_pow_nDigits n)) (Go.Lib.nDigits_pos n)
theorem lt_of_nDigits_lt {m n:Nat} (h:nDigits m<nDigits n):m<n:=by
 apply Nat.lt_of_not_le;intro hle;have:=nDigits_mono hle;omega
def cmpI (a b:Int):Int:=if a<b then -1 else if a=b then 0 else 1
def sgn (a:Int):Int:=cmpI a 0
def rjoin (n:Int) (d:Nat):List UInt8:=if d=1 then itoa n else itoa n++47 :: decDigits d
def rtext (q:Rat):List UInt8:=rjoin q.num q.den
theorem split47_unique:∀ {a a' b b':List UInt8},(∀ c∈a,c≠47)→(∀ c∈a',c≠47)→a++47 :: b=a'++47 :: b'→a=a'∧b=b'
 | [],[],_,_,_,_,h=>by simp at h;exact ⟨rfl,h⟩
 | [],x :: a',_,_,_,h2,h=>by
  simp only [List.nil_append,List.cons_append,List.cons.injEq] at h
  exact (h2 x List.mem_cons_self h.1.symm).elim
 | x :: a,[],_,_,h1,_,h=>by
  simp only [List.nil_append,List.cons_append,List.cons.injEq] at h
  exact (h1 x List.mem_cons_self h.1).elim
 | x :: a,y :: a',b,b',h1,h2,h=>by
  simp only [List.cons_append,List.cons.injEq] at h
  obtain ⟨rfl,h⟩:=h
  obtain ⟨rfl,rfl⟩:=split47_unique (fun c hc=>h1 c (List.mem_cons_of_mem _ hc)) (fun c hc=>h2 c (List.mem_cons_of_mem _ hc)) h
  exact ⟨rfl,rfl⟩
theorem no47_ne {a b c:List UInt8} (h:∀ x∈a,x≠47):a≠b++47 :: c:=by
 rintro rfl
 exact h 47 (by simp) rfl
theorem rjoin_inj {n m:Int} {d e:Nat} (h:rjoin n d=rjoin m e):n=m∧d=e:=by
 unfold rjoin at h
 by_cases hd:d=1 <;> by_cases he:e=1
 ·rw [if_pos hd,if_pos he] at h
  exact ⟨itoa_inj h,by omega⟩
 ·rw [if_pos hd,if_neg he] at h
  exact (no47_ne (itoa_no47 n) h).elim
 ·rw [if_neg hd,if_pos he] at h
  exact (no47_ne (itoa_no47 m) h.symm).elim
 ·rw [if_neg hd,if_neg he] at h
  obtain ⟨h1,h2⟩:=split47_unique (itoa_no47 n) (itoa_no47 m) h
  exact ⟨itoa_inj h1,decDigits_inj h2⟩
theorem rtext_inj {p q:Rat} (h:rtext p=rtext q):p=q:=by
 obtain ⟨h1,h2⟩:=rjoin_inj h
 exact Rat.ext h1 h2
theorem rtext_eq_iff {p q:Rat}:rtext p=rtext q↔p=q:=⟨rtext_inj,fun h=>by rw [h]⟩
theorem rtext_int (n:Int):rtext (n:Rat)=itoa n:=by unfold rtext rjoin;simp
theorem rtext_ne_nil (q:Rat):rtext q≠[]:=by
 unfold rtext rjoin
 split
 ·exact itoa_ne_nil _
 ·simp [itoa_ne_nil]
theorem rtext_head_neg {q:Rat}:(∃ r,rtext q=45 :: r)↔q<0:=by
 have hn:q<0↔q.num<0:=by rw [Rat.lt_iff];simp
 rw [hn]
 unfold rtext rjoin
 constructor
 ·rintro ⟨r,h⟩
  apply Int.lt_of_not_ge
  intro h0
  rw [itoa_nonneg h0] at h
  split at h
  ·exact decDigits_ne45 _ _ h
  ·cases hd:decDigits q.num.toNat with
   | nil=>exact decDigits_ne_nil _ hd
   | cons c l =>
    rw [hd] at h
    simp only [List.cons_append,List.cons.injEq] at h
    have:=decDigits_dig q.num.toNat c (by rw [hd];exact List.mem_cons_self)
    exact dig_ne45 this h.1
 ·intro h
  rw [itoa_neg h]
  split
  ·exact ⟨_,rfl⟩
  ·exact ⟨_,rfl⟩
theorem rtext_neg {q:Rat} (h:q≠0) (h':¬ q<0):rtext (-q)=45 :: rtext q:=by
 have hn:0<q.num:=by
  have h1:¬ q.num<0:=by
   intro hh;apply h';rw [Rat.lt_iff];simpa using hh
  have h2:q.num≠0:=fun hh=>h (Rat.num_eq_zero.1 hh)
  omega
 unfold rtext rjoin
 simp only [Rat.neg_num,Rat.neg_den]
 rw [itoa_neg (by omega),itoa_nonneg (n:=q.num) (by omega),show (-q.num).natAbs=q.num.toNat by omega]
 split <;> rfl
theorem rtext_neg_tail {q:Rat} (h:q<0):rtext q=45 :: rtext (-q):=by
 have h0:-q≠0:=by grind
 have h1:¬ -q<0:=by grind
 have:=rtext_neg h0 h1
 rwa [Rat.neg_neg] at this
theorem rtext_mkRat (n:Int) (d:Nat) (hd:d≠0):rtext (mkRat n d)=rjoin (n/(Nat.gcd n.natAbs d:Nat)) (d/Nat.gcd n.natAbs d):=by
 unfold rtext
 rw [Rat.num_mkRat,Rat.den_mkRat,if_neg hd,if_neg hd,Nat.gcd_comm]
theorem rtext_coprime {n:Int} {d:Nat} (hd:d≠0) (h:Nat.gcd n.natAbs d=1):rtext (mkRat n d)=rjoin n d:=by
 rw [rtext_mkRat n d hd,h];simp
theorem mkRat_num_of_coprime {n:Int} {d:Nat} (hd:d≠0) (h:Nat.gcd n.natAbs d=1):(mkRat n d).num=n∧(mkRat n d).den=d:=by
 rw [Rat.num_mkRat,Rat.den_mkRat,if_neg hd,if_neg hd,Nat.gcd_comm,h]
 simp
def ratOk (l:List UInt8):Prop:=∃ q:Rat,l=rtext q∧nDigits q.num.natAbs≤200∧nDigits q.den≤200
theorem ratOk_whole {l:List UInt8} (h:∀ c∈l,c≠47):ratOk l↔intOk l=true:=by
 rw [intOk_iff]
 constructor
 ·rintro ⟨q,rfl,h1,h2⟩
  refine ⟨q.num,?_,h1⟩
  unfold rtext rjoin
  rw [if_pos]
  apply Decidable.byContradiction
  intro hd
  unfold rtext rjoin at h
  rw [if_neg hd] at h
  exact h 47 (by simp) rfl
 ·rintro ⟨n,rfl,hn⟩
  exact ⟨(n:Rat),(rtext_int n).symm,by simpa using hn,by simp [Go.Lib.nDigits_small]⟩
theorem ratOk_slash {a b:List UInt8} (h:∀ c∈a,c≠47):ratOk (a++47 :: b) ↔
  ∃ n d:Int,a=itoa n∧nDigits n.natAbs≤200∧b=itoa d∧nDigits d.natAbs≤200∧1<d∧n≠0∧Int.gcd n d=1:=by
 constructor
 ·rintro ⟨q,hq,h1,h2⟩
  unfold rtext rjoin at hq
  by_cases hd:q.den=1
  ·rw [if_pos hd] at hq
   exact (no47_ne (itoa_no47 _) hq.symm).elim
  ·rw [if_neg hd] at hq
   obtain ⟨rfl,rfl⟩:=split47_unique h (itoa_no47 _) hq
   have hnz:=q.den_nz
   have hr:=q.reduced
   refine ⟨q.num,q.den,rfl,h1,(itoa_nat _).symm,by simpa using h2,by omega,?_,?_⟩
   ·intro h0
    rw [Nat.Coprime,h0] at hr
    simp at hr
    exact hd hr
   ·unfold Int.gcd;simpa using hr
 ·rintro ⟨n,d,rfl,hn,rfl,hd,h1,h0,hg⟩
  obtain ⟨k,rfl⟩:=Int.eq_ofNat_of_zero_le (show 0≤d by omega)
  have hg':Nat.gcd n.natAbs k=1:=by simpa [Int.gcd] using hg
  have hk:k≠0:=by omega
  obtain ⟨e1,e2⟩:=mkRat_num_of_coprime hk hg'
  refine ⟨mkRat n k,?_,by rw [e1];exact hn,by rw [e2];simpa using hd⟩
  rw [rtext_coprime hk hg',itoa_nat]
  unfold rjoin
  rw [if_neg (by omega)]
theorem itoa_length (n:Int):(itoa n).length=nDigits n.natAbs+(if n<0 then 1 else 0):=by
 by_cases h:n<0
 ·rw [itoa_neg h,if_pos h];simp [Go.Lib.decDigits_length]
 ·rw [itoa_nonneg (by omega),if_neg h,Go.Lib.decDigits_length,show n.toNat=n.natAbs by omega];rfl
theorem itoa_length_le (n:Int) {k:Nat} (h:n.natAbs<10 ^ k) (hk:0<k):(itoa n).length≤k+1:=by
 rw [itoa_length];have:=nDigits_le_of_lt h hk;split <;> omega
theorem natAbs_lt_of_itoa_length {n:Int} {k:Nat} (h:(itoa n).length≤k):n.natAbs<10 ^ k:=by
 apply lt_of_nDigits_le
 rw [itoa_length] at h
 omega
theorem rtext_length (q:Rat):(rtext q).length=(itoa q.num).length+(if q.den=1 then 0 else nDigits q.den+1):=by
 unfold rtext rjoin
 split
 ·simp
 ·simp [Go.Lib.decDigits_length]
theorem add_frac (p q:Rat):p+q=mkRat (p.num*q.den+q.num*p.den) (p.den*q.den):=Rat.add_def' p q
theorem mul_frac (p q:Rat):p*q=mkRat (p.num*q.num) (p.den*q.den):=Rat.mul_def' p q
def cmpR (p q:Rat):Int:=cmpI (p.num*q.den) (q.num*p.den)
theorem cmpR_lt {p q:Rat}:cmpR p q = -1↔p<q:=by
 rw [Rat.lt_iff];unfold cmpR cmpI;split
 ·simp_all
 ·split <;> simp_all
theorem cmpR_neg {p q:Rat}:cmpR p q<0↔p<q:=by
 rw [Rat.lt_iff];unfold cmpR cmpI;split
 ·simp_all
 ·split <;> simp_all
theorem cmpR_pos {p q:Rat}:0<cmpR p q↔q<p:=by
 rw [Rat.lt_iff];unfold cmpR cmpI;split
 ·rename_i h;simp;omega
 ·split
  ·rename_i h1 h2;simp;omega
  ·rename_i h1 h2;simp;omega
theorem cmpR_zero {p q:Rat}:cmpR p q=0↔p=q:=by
 rw [Rat.eq_iff_mul_eq_mul];unfold cmpR cmpI;split
 ·rename_i h;simp;omega
 ·split
  ·rename_i h1 h2;simp [h2]
  ·rename_i h1 h2;simp [h2]
theorem cmpR_cases (p q:Rat):cmpR p q = -1∨cmpR p q=0∨cmpR p q=1:=by
 unfold cmpR cmpI;split
 ·exact .inl rfl
 ·split
  ·exact .inr (.inl rfl)
  ·exact .inr (.inr rfl)
theorem inv_frac_pos {q:Rat} (h:0<q.num):q⁻¹.num=q.den∧(q⁻¹.den:Int)=q.num:=by
 rw [Rat.num_inv,Rat.den_inv,if_neg (by omega),Int.sign_eq_one_of_pos h]
 omega
theorem inv_frac_neg {q:Rat} (h:q.num<0):q⁻¹.num = -q.den∧(q⁻¹.den:Int) = -q.num:=by
 rw [Rat.num_inv,Rat.den_inv,if_neg (by omega),Int.sign_eq_neg_one_of_neg h]
 omega
theorem zA {α:Type} {xs:List α} {i:Nat} (h:i<xs.toArray.size):xs.toArray[i]=xs[i]'(by simpa using h):=List.getElem_toArray h
theorem zB {α:Type} (a:α) (as:List α) (h:0<(a :: as).length):(a :: as)[0]=a:=List.getElem_cons_zero a as h
theorem zC {α:Type} (a:α) (as:List α) (i:Nat) (h:i+1<(a :: as).length):(a :: as)[i+1]=as[i]'(by simpa using h):=List.getElem_cons_succ a as i h
theorem zD {α:Type} (l:List α) (i:Nat) (a:α):l.toArray.setIfInBounds i a=(l.set i a).toArray:=List.setIfInBounds_toArray l i a
theorem zE {α:Type} {x:α} {xs:List α} {a:α}:(x :: xs).set 0 a=a :: xs:=List.set_cons_zero
theorem zF {α:Type} {x:α} {xs:List α} {i:Nat} {a:α}:(x :: xs).set (i+1) a=x :: xs.set i a:=List.set_cons_succ
end Go.Proofs.YtogdahbbogimcaaGreatDoor
namespace Go.Proofs.YtogdahbbogimcaaGreatDoor
open Go.Lib (decDigits itoa nDigits compareBytes hasPrefix trimPrefix parseUint10 parseMag atoiAll parseUintB parseUintM)
theorem hasPrefix45 (l:List UInt8):hasPrefix l [45]=true↔∃ r,l=45 :: r:=by
 cases l with
 | nil=>simp [hasPrefix]
 | cons c r =>
  simp [hasPrefix,List.isPrefixOf]
  exact eq_comm
theorem trimPrefix45 (l:List UInt8):trimPrefix l [45]=magOf l:=by
 unfold trimPrefix
 by_cases h:hasPrefix l [45]=true
 ·obtain ⟨r,rfl⟩:=(hasPrefix45 l).1 h
  rw [if_pos h];rfl
 ·rw [if_neg h]
  refine (magOf_dig fun r hr=>h ((hasPrefix45 l).2 ⟨r,hr⟩)).symm
theorem hasPrefix_itoa (n:Int):hasPrefix (itoa n) [45]=decide (n<0):=by
 rw [Bool.eq_iff_iff,hasPrefix45,decide_eq_true_iff]
 constructor
 ·rintro ⟨r,h⟩
  apply Int.lt_of_not_ge
  intro h0
  rw [itoa_nonneg h0] at h
  exact decDigits_ne45 _ _ h
 ·intro h;exact ⟨_,itoa_neg h⟩
theorem natFrom_lt (l:List UInt8) (a k:Nat) (hd:∀ c∈l,isDig c=true) (h:a<10 ^ k):natFrom a l<10 ^ (k+l.length):=by
 rw [natFrom_eq,Nat.pow_add]
 have h1:=natOf_lt hd
 have h2:a*10 ^ l.length+10 ^ l.length≤10 ^ k*10 ^ l.length:=by
  rw [←Nat.succ_mul];exact Nat.mul_le_mul_right _ h
 omega
theorem isDig_val {c:UInt8} (h:isDig c=true):48≤c.toNat∧c.toNat≤57∧c.toNat-48=dv c:=by
 have h':=h
 simp [isDig] at h
 have:=digit_dv h'
 have e:c.toNat=48+dv c:=by rw [←this,toNat_digit (dv_lt h'),dv_digit (dv_lt h')]
 omega
theorem parseUint10_digits (l:List UInt8):∀ (a k:Nat),(∀ c∈l,isDig c=true)→a<10 ^ k→k+l.length≤19→parseUint10 a l=.ok (natFrom a l):=by
 induction l with
 | nil=>intro a k _ _ _;simp [parseUint10]
 | cons c r ih =>
  intro a k hd ha hk
  obtain ⟨h1,h2,h3⟩:=isDig_val (hd c List.mem_cons_self)
  simp at hk
  have hp:10 ^ (k+1)≤10 ^ 19:=Nat.pow_le_pow_right (by decide) (by omega)
  rw [Nat.pow_succ] at hp
  have hdl:=dv_lt (hd c List.mem_cons_self)
  rw [parseUint10,if_pos ⟨h1,h2⟩,if_neg (by omega),if_neg (by omega),h3,natFrom_cons,Nat.mul_comm a 10]
  exact ih _ (k+1) (fun x hx=>hd x (List.mem_cons_of_mem _ hx)) (by rw [Nat.pow_succ];omega) (by omega)
theorem parseMag_decDigits {n:Nat} (h:n<10 ^ 18):parseMag (decDigits n)=.ok n:=by
 unfold parseMag
 rw [if_neg (decDigits_ne_nil n),parseUint10_digits _ 0 0 (decDigits_dig n) (by simp) (by have:=nDigits_le_of_lt h (by omega);rw [decDigits_len];omega)]
 exact congrArg _ (natOf_decDigits n)
theorem atoiAll_itoa {n:Int} (h:n.natAbs<10 ^ 18):atoiAll (itoa n)=.ok n:=by
 by_cases hn:n<0
 ·rw [itoa_neg hn,Go.Lib.atoiAll_minus,parseMag_decDigits h]
  show Go.Lib.signed (.ok _)=_
  unfold Go.Lib.signed
  dsimp only
  rw [if_neg (by omega)]
  congr 1
  omega
 ·rw [itoa_nonneg (by omega)]
  obtain ⟨c,r,he⟩ : ∃ c r,decDigits n.toNat=c :: r:=by
   cases hd:decDigits n.toNat with
   | nil=>exact (decDigits_ne_nil _ hd).elim
   | cons c r=>exact ⟨c,r,rfl⟩
  have hc:=isDig_val (decDigits_dig n.toNat c (by rw [he];exact List.mem_cons_self))
  rw [he,Go.Lib.atoiAll_plain c r (by omega) (by omega),←he,parseMag_decDigits (by omega)]
  unfold Go.Lib.signless
  dsimp only
  rw [if_neg (by omega)]
  congr 1
  omega
theorem parseUintM_digits (l:List UInt8):∀ (a k:Nat),(∀ c∈l,isDig c=true)→a<10 ^ k→k+l.length≤19→parseUintM (2 ^ 64-1) a l=.ok (natFrom a l):=by
 induction l with
 | nil=>intro a k _ _ _;simp [parseUintM]
 | cons c r ih =>
  intro a k hd ha hk
  obtain ⟨h1,h2,h3⟩:=isDig_val (hd c List.mem_cons_self)
  simp at hk
  have hp:10 ^ (k+1)≤10 ^ 19:=Nat.pow_le_pow_right (by decide) (by omega)
  rw [Nat.pow_succ] at hp
  have hdl:=dv_lt (hd c List.mem_cons_self)
  rw [parseUintM,if_pos ⟨h1,h2⟩,if_neg (by omega),if_neg (by omega),h3,natFrom_cons,Nat.mul_comm a 10]
  exact ih _ (k+1) (fun x hx=>hd x (List.mem_cons_of_mem _ hx)) (by rw [Nat.pow_succ];omega) (by omega)
theorem parseUintB_digits {l:List UInt8} (h0:l≠[]) (hd:∀ c∈l,isDig c=true) (hk:l.length≤19):parseUintB 64 l=.ok (natOf l):=by
 unfold parseUintB
 rw [if_neg h0,parseUintM_digits l 0 0 hd (by simp) (by omega)];rfl
theorem cmp_mag {m n:Nat} (hl:(decDigits m).length=(decDigits n).length):compareBytes (decDigits m) (decDigits n)=cmpI m n:=by
 obtain ⟨h1,h2,h3⟩:=compareBytes_digits _ _ hl (decDigits_dig m) (decDigits_dig n)
 rw [natOf_decDigits,natOf_decDigits] at h1 h2 h3
 unfold cmpI
 by_cases hlt:m<n
 ·rw [h1.2 hlt,if_pos (by omega)]
 ·rw [if_neg (by omega)]
  by_cases he:m=n
  ·rw [h3.2 he,if_pos (by omega)]
  ·rw [h2.2 (by omega),if_neg (by omega)]
theorem sgn_neg {n:Int} (h:n<0):sgn n = -1:=by unfold sgn cmpI;rw [if_pos h]
theorem sgn_zero {n:Int} (h:n=0):sgn n=0:=by subst h;rfl
theorem sgn_pos {n:Int} (h:0<n):sgn n=1:=by unfold sgn cmpI;rw [if_neg (by omega),if_neg (by omega)]
theorem sgn_cases (n:Int):(n<0∧sgn n = -1)∨(n=0∧sgn n=0)∨(0<n∧sgn n=1):=by
 rcases Int.lt_trichotomy n 0 with h | h | h
 ·exact .inl ⟨h,sgn_neg h⟩
 ·exact .inr (.inl ⟨h,sgn_zero h⟩)
 ·exact .inr (.inr ⟨h,sgn_pos h⟩)
theorem cmp_sgn_lt {m n:Int} (h:sgn m<sgn n):cmpI m n = -1:=by
 unfold cmpI
 rcases sgn_cases m with ⟨h1,e1⟩ | ⟨h1,e1⟩ | ⟨h1,e1⟩ <;> rcases sgn_cases n with ⟨h2,e2⟩ | ⟨h2,e2⟩ | ⟨h2,e2⟩ <;> rw [e1,e2] at h <;> first | (rw [if_pos (by omega)];done) | omega
theorem cmp_sgn_gt {m n:Int} (h:sgn n<sgn m):cmpI m n=1:=by
 unfold cmpI
 rcases sgn_cases m with ⟨h1,e1⟩ | ⟨h1,e1⟩ | ⟨h1,e1⟩ <;> rcases sgn_cases n with ⟨h2,e2⟩ | ⟨h2,e2⟩ | ⟨h2,e2⟩ <;> rw [e1,e2] at h <;> first | (rw [if_neg (by omega),if_neg (by omega)];done) | omega
theorem len_mag_lt {m n:Nat} (h:(decDigits m).length<(decDigits n).length):m<n:=by
 rw [decDigits_len,decDigits_len] at h;exact lt_of_nDigits_lt h
theorem cmp_len_lt {m n:Int} (hs:sgn m=sgn n) (h:(decDigits m.natAbs).length<(decDigits n.natAbs).length):cmpI m n = -sgn m:=by
 have h':=len_mag_lt h
 unfold cmpI
 rcases sgn_cases m with ⟨h1,e1⟩ | ⟨h1,e1⟩ | ⟨h1,e1⟩ <;> rcases sgn_cases n with ⟨h2,e2⟩ | ⟨h2,e2⟩ | ⟨h2,e2⟩ <;> rw [e1,e2] at hs <;> rw [e1] <;> first
  | omega
  | (rw [if_pos (by omega)];done)
  | (rw [if_neg (by omega),if_neg (by omega)];done)
theorem cmp_len_gt {m n:Int} (hs:sgn m=sgn n) (h:(decDigits n.natAbs).length<(decDigits m.natAbs).length):cmpI m n=sgn m:=by
 have h':=len_mag_lt h
 unfold cmpI
 rcases sgn_cases m with ⟨h1,e1⟩ | ⟨h1,e1⟩ | ⟨h1,e1⟩ <;> rcases sgn_cases n with ⟨h2,e2⟩ | ⟨h2,e2⟩ | ⟨h2,e2⟩ <;> rw [e1,e2] at hs <;> rw [e1] <;> first
  | omega
  | (rw [if_pos (by omega)];done)
  | (rw [if_neg (by omega),if_neg (by omega)];done)
theorem cmp_len_eq {m n:Int} (hs:sgn m=sgn n) (h:(decDigits m.natAbs).length=(decDigits n.natAbs).length):cmpI m n=sgn m*compareBytes (decDigits m.natAbs) (decDigits n.natAbs):=by
 rw [cmp_mag h]
 unfold cmpI
 rcases sgn_cases m with ⟨h1,e1⟩ | ⟨h1,e1⟩ | ⟨h1,e1⟩ <;> rcases sgn_cases n with ⟨h2,e2⟩ | ⟨h2,e2⟩ | ⟨h2,e2⟩ <;> rw [e1,e2] at hs <;> rw [e1] <;> first
  | omega
  | (split <;> split <;> (try split) <;> (try split) <;> omega)
end Go.Proofs.YtogdahbbogimcaaGreatDoor
namespace Go.Proofs.YtogdahbbogimcaaGreatDoor
def quoMag (a b:Int):Nat:=if a<0∧a.natAbs % b.natAbs≠0 then a.natAbs/b.natAbs+1 else a.natAbs/b.natAbs
def remMag (a b:Int):Nat:=if a<0∧a.natAbs % b.natAbs≠0 then b.natAbs-a.natAbs % b.natAbs else a.natAbs % b.natAbs
theorem rem_eq (a b:Int) (hb:b≠0):((remMag a b:Nat):Int)=a % b:=by
 have hb':0<b.natAbs:=by omega
 have key:a % b=a % (b.natAbs:Int):=by
  rcases Int.natAbs_eq b with h | h
  ·rw [←h]
  ·conv=>lhs;rw [h]
   rw [Int.emod_neg]
 rw [key]
 unfold remMag
 have hlt:=Nat.mod_lt a.natAbs hb'
 by_cases h:a<0
 ·have ha:a = -(a.natAbs:Int):=by omega
  by_cases hz:a.natAbs % b.natAbs=0
  ·rw [if_neg (by omega),hz,ha]
   symm
   rw [Int.natCast_zero]
   apply Int.emod_eq_zero_of_dvd
   rw [Int.dvd_neg]
   exact Int.natCast_dvd_natCast.2 (Nat.dvd_of_mod_eq_zero hz)
  ·rw [if_pos ⟨h,hz⟩]
   have hd:=Nat.mod_add_div a.natAbs b.natAbs
   have e:a=((b.natAbs-a.natAbs % b.natAbs:Nat):Int)+(b.natAbs:Int)*(-((a.natAbs/b.natAbs:Nat):Int)-1):=by
    have hd':(a.natAbs:Int)=((a.natAbs % b.natAbs:Nat):Int)+(b.natAbs:Int)*((a.natAbs/b.natAbs:Nat):Int):=by
     rw [←Int.natCast_mul,←Int.natCast_add,hd]
    rw [Int.mul_sub,Int.mul_neg,Int.mul_one]
    omega
   conv=>rhs;rw [e]
   rw [Int.add_mul_emod_self_left]
   symm
   apply Int.emod_eq_of_lt <;> omega
 ·have ha:a=(a.natAbs:Int):=by omega
  rw [if_neg (by omega)]
  conv=>rhs;rw [ha]
  rw [Int.natCast_emod]
theorem quo_eq (a b:Int) (hb:b≠0):(if decide (a<0) != decide (b<0) then -((quoMag a b:Nat):Int) else ((quoMag a b:Nat):Int))=a/b:=by
 have hr:=rem_eq a b hb
 have h1:b*(a/b)+a % b=a:=Int.mul_ediv_add_emod a b
 rw [←hr] at h1
 have hb':0<b.natAbs:=by omega
 have hd:=Nat.mod_add_div a.natAbs b.natAbs
 have h2:(b.natAbs:Int)*((quoMag a b:Nat):Int)=if a<0 then (a.natAbs:Int)+(remMag a b:Nat) else (a.natAbs:Int)-(remMag a b:Nat):=by
  have hd':(b.natAbs:Int)*((a.natAbs/b.natAbs:Nat):Int)=(a.natAbs:Int)-((a.natAbs % b.natAbs:Nat):Int):=by
   have:(a.natAbs:Int)=((a.natAbs % b.natAbs:Nat):Int)+(b.natAbs:Int)*((a.natAbs/b.natAbs:Nat):Int):=by
    rw [←Int.natCast_mul,←Int.natCast_add,hd]
   omega
  have hlt:=Nat.mod_lt a.natAbs hb'
  by_cases h:a<0
  ·rw [if_pos h]
   by_cases hz:a.natAbs % b.natAbs=0
   ·have q:quoMag a b=a.natAbs/b.natAbs:=by unfold quoMag;rw [if_neg (by omega)]
    have r:remMag a b=0:=by unfold remMag;rw [if_neg (by omega)];exact hz
    rw [q,r,hd',hz];omega
   ·have q:quoMag a b=a.natAbs/b.natAbs+1:=by unfold quoMag;rw [if_pos ⟨h,hz⟩]
    have r:remMag a b=b.natAbs-a.natAbs % b.natAbs:=by unfold remMag;rw [if_pos ⟨h,hz⟩]
    rw [q,r,Int.natCast_add,Int.mul_add,hd']
    have:((b.natAbs-a.natAbs % b.natAbs:Nat):Int)=(b.natAbs:Int)-((a.natAbs % b.natAbs:Nat):Int):=by omega
    rw [this]
    omega
  ·rw [if_neg h]
   have q:quoMag a b=a.natAbs/b.natAbs:=by unfold quoMag;rw [if_neg (by omega)]
   have r:remMag a b=a.natAbs % b.natAbs:=by unfold remMag;rw [if_neg (by omega)]
   rw [q,r,hd']
 have h3:b*(if decide (a<0) != decide (b<0) then -((quoMag a b:Nat):Int) else ((quoMag a b:Nat):Int))=b*(a/b):=by
  have e:b*(a/b)=a-((remMag a b:Nat):Int):=by omega
  rw [e]
  clear e hr h1 hd
  generalize quoMag a b=Q at *
  generalize remMag a b=M at *
  by_cases ha:a<0 <;> by_cases hbn:b<0
  ·have hc:(decide (a<0) != decide (b<0))=false:=by simp [ha,hbn]
   rw [if_pos ha] at h2
   rw [hc,if_neg (by simp)]
   have:b = -(b.natAbs:Int):=by omega
   rw [this,Int.neg_mul,h2];omega
  ·have hc:(decide (a<0) != decide (b<0))=true:=by simp [ha,hbn]
   rw [if_pos ha] at h2
   rw [hc,if_pos rfl]
   have:b=(b.natAbs:Int):=by omega
   rw [this,Int.mul_neg,h2];omega
  ·have hc:(decide (a<0) != decide (b<0))=true:=by simp [ha,hbn]
   rw [if_neg ha] at h2
   rw [hc,if_pos rfl]
   have:b = -(b.natAbs:Int):=by omega
   rw [this,Int.neg_mul_neg,h2];omega
  ·have hc:(decide (a<0) != decide (b<0))=false:=by simp [ha,hbn]
   rw [if_neg ha] at h2
   rw [hc,if_neg (by simp)]
   have:b=(b.natAbs:Int):=by omega
   rw [this,h2];omega
 exact Int.eq_of_mul_eq_mul_left hb h3
theorem val_drop (xs:List Nat) (hx:∀ x∈xs,x<1000000000) (k:Nat) (hk:k≤xs.length):val (xs.drop k)=val xs/1000000000 ^ k:=by
 have h:=val_append (xs.take k) (xs.drop k)
 rw [List.take_append_drop,List.length_take,Nat.min_eq_left hk] at h
 have h1:=val_lt (a:=xs.take k) (fun x hm=>hx x (List.mem_of_mem_take hm))
 rw [List.length_take,Nat.min_eq_left hk] at h1
 rw [h,Nat.add_mul_div_left _ _ (Nat.pow_pos (by decide)),Nat.div_eq_of_lt h1,Nat.zero_add]
theorem pcs_top {n:Nat} (k:Nat) (hk:(pcs n).length=k+1):(pcs n)[k]'(by omega)=n/1000000000 ^ k:=by
 have h:=val_drop (pcs n) (pcs_lt n) k (by omega)
 rw [List.drop_eq_getElem_cons (by omega),List.drop_eq_nil_of_le (by omega),val_pcs] at h
 simpa [val] using h
theorem pcs_top2 {n:Nat} (k:Nat) (hk:(pcs n).length=k+2):(pcs n)[k+1]'(by omega)*1000000000+(pcs n)[k]'(by omega)=n/1000000000 ^ k:=by
 have h:=val_drop (pcs n) (pcs_lt n) k (by omega)
 rw [List.drop_eq_getElem_cons (by omega),List.drop_eq_getElem_cons (by omega),List.drop_eq_nil_of_le (by omega),val_pcs] at h
 simp only [val,Nat.mul_zero,Nat.add_zero] at h
 omega
theorem pcs_top_ne {n:Nat} (k:Nat) (hk:(pcs n).length=k+1):(pcs n)[k]'(by omega)≠0:=by
 have h:=pcs_getLast n (by intro h;rw [h] at hk;simp at hk)
 rw [List.getLast_eq_getElem] at h
 have e:(pcs n).length-1=k:=by omega
 simpa only [e] using h
theorem est_ge {R b K:Nat} (ht:0<b/K):R/b≤R/K/(b/K):=by
 rw [Nat.le_div_iff_mul_le ht]
 have hK:0<K:=by
  rcases Nat.eq_zero_or_pos K with h | h
  ·subst h;simp at ht
  ·exact h
 rw [Nat.le_div_iff_mul_le hK,Nat.mul_assoc]
 exact Nat.le_trans (Nat.mul_le_mul_left _ (Nat.div_mul_le_self b K)) (Nat.div_mul_le_self R b)
theorem quo_lt {R b:Nat} (h:R<b*1000000000):R/b≤999999999:=by
 have:=Nat.div_lt_of_lt_mul h
 omega
theorem round_lt {R x b:Nat} (h:R<b) (hx:x<1000000000):x+1000000000*R<b*1000000000:=by
 have h1:(R+1)*1000000000≤b*1000000000:=Nat.mul_le_mul_right _ h
 omega
theorem round_len {R b:Nat} (hb:b≤R) (h:R<b*1000000000):(pcs b).length≤(pcs R).length∧(pcs R).length≤(pcs b).length+1:=by
 refine ⟨pcs_len_mono hb,pcs_len_lt ?_⟩
 have h1:=lt_of_pcs_len b
 have h2:b*1000000000≤1000000000 ^ (pcs b).length*1000000000:=Nat.mul_le_mul_right _ (Nat.le_of_lt h1)
 rw [Nat.pow_succ];exact Nat.lt_of_lt_of_le h h2
theorem digit_of {R b d:Nat} (hb:0<b) (h1:R/b≤d) (h2:d*b≤R):d=R/b:=by
 have:=(Nat.le_div_iff_mul_le hb).2 h2
 omega
theorem digit_rest {R b:Nat}:R-b*(R/b)=R % b:=by
 have:=Nat.div_add_mod R b
 omega
theorem lower_gt {R b d:Nat} (h:R<b*d):R/b≤d-1∧0<d:=by
 have h1:R/b<d:=Nat.div_lt_of_lt_mul h
 generalize R/b=q at *
 omega
theorem lower_part {b d:Nat}:b*d-b=b*(d-1):=by
 rw [Nat.mul_sub,Nat.mul_one]
theorem scaled_div {m n f:Nat} (hf:0<f):(m*f)/(n*f)=m/n:=Nat.mul_div_mul_right m n hf
theorem scaled_mod {m n f:Nat} (hf:0<f):(m*f) % (n*f)/f=m % n:=by
 rw [Nat.mul_mod_mul_right,Nat.mul_div_cancel _ hf]
theorem scale_ok {t:Nat} (h:t<1000000000):0<1000000000/(t+1)∧(t≠0→1000000000/(t+1)<1000000000):=by
 refine ⟨Nat.div_pos (by omega) (by omega),fun h0=>?_⟩
 rw [Nat.div_lt_iff_lt_mul (by omega)]
 omega
open Go.Lib (decDigits itoa nDigits)
theorem at_mid {s:ByteArray} {A D T:List UInt8} (h:s.data.toList=A++(D++T)) {k:Nat} (hk:k<D.length) (hs:A.length+k<s.size):s[A.length+k]=D[k]:=by
 have e:s[A.length+k]=s.data.toList[A.length+k]'(by simpa using hs):=rfl
 rw [e]
 simp only [h]
 rw [List.getElem_append_right (by omega),List.getElem_append_left (by omega)]
 simp
theorem size_mid {s:ByteArray} {A D T:List UInt8} (h:s.data.toList=A++(D++T)):s.size=A.length+D.length+T.length:=by
 have:s.size=s.data.toList.length:=by simp
 rw [this,h];simp;omega
theorem take_snoc {D:List UInt8} {k:Nat} (hk:k<D.length):natOf (D.take (k+1))=10*natOf (D.take k)+dv D[k]:=by
 rw [List.take_succ_eq_append_getElem hk,natOf_snoc]
theorem natOf_take_lt {D:List UInt8} (h:∀ c∈D,isDig c=true) (k:Nat) (hk:k≤9):natOf (D.take k)<1000000000:=by
 have h1:=natOf_lt (l:=D.take k) (fun c hc=>h c (List.mem_of_mem_take hc))
 have h2:10 ^ (D.take k).length≤10 ^ 9:=Nat.pow_le_pow_right (by decide) (by simp;omega)
 omega
def sgnText (n:Int):List UInt8:=if n<0 then [45] else []
theorem itoa_split (n:Int):itoa n=sgnText n++decDigits n.natAbs:=by
 unfold sgnText
 by_cases h:n<0
 ·rw [itoa_neg h,if_pos h];rfl
 ·rw [itoa_nonneg (by omega),if_neg h,show n.toNat=n.natAbs by omega];rfl
def denText (d:Nat):List UInt8:=if d=1 then [] else 47 :: decDigits d
theorem rtext_split (q:Rat):rtext q=sgnText q.num++(decDigits q.num.natAbs++denText q.den):=by
 unfold rtext rjoin denText
 by_cases h:q.den=1
 ·rw [if_pos h,if_pos h,itoa_split];simp
 ·rw [if_neg h,if_neg h,itoa_split];simp
theorem short_len {n:Nat}:n<1000000000↔(decDigits n).length≤9:=by
 rw [decDigits_len]
 have:=(nDigits_lt_iff (n:=n) (k:=9))
 constructor
 ·intro h;exact (this.1 ⟨by omega,by omega⟩).1
 ·intro h;have:=(this.2 ⟨h,by omega⟩).1;omega
theorem dig_range {c:UInt8} (h:isDig c=true):48≤(c.toNat:Int)∧(c.toNat:Int)≤57:=by
 have:=isDig_val h;omega
theorem dv_int {c:UInt8} (h:isDig c=true):((dv c:Nat):Int)=(c.toNat:Int)-48:=by
 have:=isDig_val h;omega
theorem gcd_step (a b:Int):Nat.gcd b.natAbs (a.tmod b).natAbs=Nat.gcd a.natAbs b.natAbs:=by
 rw [Int.natAbs_tmod,Nat.gcd_comm a.natAbs,Nat.gcd_rec b.natAbs a.natAbs,Nat.gcd_comm]
theorem tmod_lt {a b:Int} (h:b≠0):(a.tmod b).natAbs<b.natAbs:=by
 rw [Int.natAbs_tmod];exact Nat.mod_lt _ (by omega)
theorem tdiv_gcd {n:Int} {g:Nat} (h:(g:Int)∣n):n.tdiv g=n/g:=Int.tdiv_eq_ediv_of_dvd h
theorem divInt_pos {n d:Int} (h:0<d):Rat.divInt n d=mkRat n d.toNat:=by
 obtain ⟨k,rfl⟩:=Int.eq_ofNat_of_zero_le (Int.le_of_lt h)
 simp [Rat.divInt_ofNat]
theorem divInt_negneg (n d:Int):Rat.divInt (-n) (-d)=Rat.divInt n d:=Rat.neg_divInt_neg n d
theorem lowest_text {n d:Int} (hd:0<d):rtext (Rat.divInt n d)=rjoin (n/(Int.gcd n d:Nat)) (d/(Int.gcd n d:Nat)).toNat:=by
 rw [divInt_pos hd,rtext_mkRat _ _ (by omega)]
 have e:Int.gcd n d=Nat.gcd n.natAbs d.toNat:=by
  rw [Int.gcd_eq_natAbs_gcd_natAbs,show d.natAbs=d.toNat by omega]
 rw [e]
 obtain ⟨k,rfl⟩:=Int.eq_ofNat_of_zero_le (Int.le_of_lt hd)
 rw [Int.toNat_natCast,←Int.natCast_ediv,Int.toNat_natCast]
end Go.Proofs.YtogdahbbogimcaaGreatDoor
