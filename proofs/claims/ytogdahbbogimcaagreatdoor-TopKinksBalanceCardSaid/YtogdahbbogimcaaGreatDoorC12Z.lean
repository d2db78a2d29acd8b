import Derived.Test.YtogdahbbogimcaaGreatDoorC11Z
import Derived.Test.YtogdahbbogimcaaGreatDoorC10Z
import Derived.Test.YtogdahbbogimcaaGreatDoorB4Z
import Derived.Test.YtogdahbbogimcaaGreatDoorKk24Z
namespace Go.Proofs.YtogdahbbogimcaaGreatDoor
open Go.RowKit Go.Shelf
open Go.Lib (decDigits itoa nDigits)
theorem PtsV.congr {w:World} {v:Value} {f g:Nat→QP} {n:Nat} (h:PtsV w v f n) (hfg:∀ i,i<n→f i=g i):PtsV w v g n:=by
 obtain ⟨b,c,e1,e2,e3,e4,e5⟩:=h
 refine ⟨b,c,e1,e2,e3,e4,fun i hi=>?_⟩
 rw [←hfg i hi]
 exact e5 i hi
theorem Plan.bedq {s:QP} {D:List (Rat × Rat)} (h:Plan s D) {x:Rat} (hx:Fq 32 4 x) {k:Nat} (hk:k≤4):OkP (bedQ s D x k):=by
 have h2:Fq2 (10 ^ 12) (10 ^ 20) (bedQ s D x k):=(Fq2.plus (h.at4 hk) (h.ax k) hx).mono (by decide) (by decide)
 exact ⟨h2.1.ok (by decide) (by decide),h2.2.ok (by decide) (by decide)⟩
theorem Plan.sumq {s:QP} {D:List (Rat × Rat)} (h:Plan s D) {x:Rat} (hx:Fq 32 4 x):∀ k,Fq (952582*k) (bLg ^ k) (sumTo (lgQ D x) k)
 | 0=>Fq.int (a:=0) (by decide)
 | k+1=>((h.sumq hx k).add (h.lg hx k)).mono (by omega) (by rw [Nat.pow_succ];exact Nat.le_refl _)
theorem Plan.sum4 {s:QP} {D:List (Rat × Rat)} (h:Plan s D) {x:Rat} (hx:Fq 32 4 x) {k:Nat} (hk:k≤D.length):Fq 4000000 (bLg ^ 4) (sumR ((lgL D x).take k)):=by
 rw [sum_lg x k hk]
 have h4:=h.n
 exact (h.sumq hx k).mono (by omega) (Nat.pow_le_pow_right (by decide) (by omega))
theorem Plan.sumz {s:QP} {D:List (Rat × Rat)} (h:Plan s D) {x:Rat} (hx:Fq 32 4 x) {k:Nat} (hk:k≤D.length):OkB (sumR ((lgL D x).take k)):=(h.sum4 hx hk).ok (by decide) (by decide)
theorem lgL_all (D:List (Rat × Rat)) (x:Rat):(lgL D x).take D.length=lgL D x:=List.take_of_length_le (by unfold lgL;simp)
theorem lgL_len (D:List (Rat × Rat)) (x:Rat):(lgL D x).length=D.length:=by unfold lgL;simp
theorem Plan.sumw {s:QP} {D:List (Rat × Rat)} (h:Plan s D) {x:Rat} (hx:Fq 32 4 x):Fq 4000000 (bLg ^ 4) (sumR (lgL D x)):=by
 have:=h.sum4 hx (Nat.le_refl D.length)
 rwa [lgL_all] at this
theorem Plan.areas {s:QP} {D:List (Rat × Rat)} (h:Plan s D) {a b:Rat} (ha:Fq 32 4 a) (hb:Fq 32 4 b):OkB (areaQ D a b)∧OkB ((sumR (lgL D a)+sumR (lgL D b))*(b-a)):=by
 have h1:=(h.sumw ha).add (h.sumw hb)
 have hh:Fq 1 2 (1/2):=⟨2,1,by decide,by decide,by decide,by decide +kernel⟩
 exact ⟨((h1.mul hh).mul (hb.sub ha)).ok (by decide) (by decide),(h1.mul (hb.sub ha)).ok (by decide) (by decide)⟩
theorem Plan.lens {s:QP} {D:List (Rat × Rat)} (h:Plan s D) {x:Rat} (hx:Fq 32 4 x) (w:withinB D x=true):∀ q∈lgL D x,0<q∧OkB q∧OkB (q*q):=fun q hq=>by
 obtain ⟨i,hi,rfl⟩:=List.mem_iff_getElem.1 hq
 rw [lgL_get hi]
 rw [lgL_len] at hi
 exact ⟨within_true.1 w i hi,(h.lg hx i).ok (by decide) (by decide),((h.lg hx i).mul (h.lg hx i)).ok (by decide) (by decide)⟩
theorem sum_pos {D:List (Rat × Rat)} {x:Rat} (w:withinB D x=true):∀ k,k≤D.length→0≤sumTo (lgQ D x) k∧(0<k→0<sumTo (lgQ D x) k)
 | 0,_=>⟨Rat.le_refl,fun h=>absurd h (Nat.lt_irrefl _)⟩
 | k+1,hk=>by
  have h1:=(sum_pos w k (by omega)).1
  have h2:=within_true.1 w k (by omega)
  have:0<sumTo (lgQ D x) (k+1):=by
   show 0<sumTo (lgQ D x) k+lgQ D x k
   grind
  exact ⟨Rat.le_of_lt this,fun _=>this⟩
theorem sum_ne {D:List (Rat × Rat)} {x:Rat} (w:withinB D x=true) (h0:0<D.length):sumR (lgL D x)≠0:=by
 have h1:=sum_lg (D:=D) x D.length (Nat.le_refl _)
 rw [lgL_all] at h1
 rw [h1]
 have:=(sum_pos w D.length (Nat.le_refl _)).2 h0
 intro e
 rw [e] at this
 exact absurd this (by decide)
theorem bed_sq {s:QP} {D:List (Rat × Rat)} (hI:PrIn D) {x:Rat} {i:Nat} (hi:i<D.length) :
  ((bedQ s D x (i+1)).1-(bedQ s D x i).1)*((bedQ s D x (i+1)).1-(bedQ s D x i).1)+((bedQ s D x (i+1)).2-(bedQ s D x i).2)*((bedQ s D x (i+1)).2-(bedQ s D x i).2)=lgQ D x i*lgQ D x i:=by
 rw [bed_next hI hi x]
 have h1:=dir_one (tK D i)
 unfold plusQ
 generalize dirQ (tK D i)=d at *
 generalize lgQ D x i=l at *
 generalize bedQ s D x i=p at *
 dsimp only
 have e:(p.1+l*d.1-p.1)*(p.1+l*d.1-p.1)+(p.2+l*d.2-p.2)*(p.2+l*d.2-p.2)=l*l*(d.1*d.1+d.2*d.2):=by grind
 rw [e,h1,Rat.mul_one]
theorem areaTo_size {c:List QP} (hz:∀ p∈c,OkP p):∀ k,k+2≤c.length→Sz (30000*3 ^ k) (areaTo c k)
 | 0,_=>by show (tx 0).size≤_;rw [tx0];decide
 | k+1,hk=>by
  have ih:=areaTo_size hz k (by omega)
  have hc:=sz_crs ((hz _ (pt_memL (show 0<c.length by omega))).sz) ((hz _ (pt_memL (show k+1<c.length by omega))).sz) ((hz _ (pt_memL (show k+2<c.length by omega))).sz)
  have h3:0<3 ^ k:=Nat.pow_pos (by decide)
  exact (ih.add hc).mono (by rw [Nat.pow_succ];omega)
theorem ring_mem {f g:Nat→QP} {n:Nat} {p:QP} (h:p∈ringF f g n):∃ i,i≤n∧(p=f i∨p=g i):=by
 unfold ringF at h
 rcases List.mem_append.1 h with h | h
 ·obtain ⟨i,hi,rfl⟩:=List.mem_map.1 h
  exact ⟨i,by have:=List.mem_range.1 hi;omega,.inl rfl⟩
 ·obtain ⟨i,hi,rfl⟩:=List.mem_map.1 (List.mem_reverse.1 h)
  exact ⟨i,by have:=List.mem_range.1 hi;omega,.inr rfl⟩
theorem ch_mem {f:Nat→QP} {n:Nat} {p:QP} (h:p∈chF f n):∃ i,i≤n∧p=f i:=by
 unfold chF at h
 obtain ⟨i,hi,rfl⟩:=List.mem_map.1 h
 exact ⟨i,by have:=List.mem_range.1 hi;omega,rfl⟩
theorem planD_pos (D0:List Duo):1≤(planD D0).length:=by
 unfold planD
 split
 ·simp
 ·rw [List.length_map];omega
theorem ring_Area {s:QP} {D:List (Rat × Rat)} (hp:Plan s D) (h1:1≤D.length) {a b:Rat} (ha:Fq 32 4 a) (hb:Fq 32 4 b) (hab:a<b) (wa:withinB D a=true) (wb:withinB D b=true) (v:Value) (w:World) (hw:Good w)
  (hv:PtsV w v (pt (ringF (bedQ s D a) (bedQ s D b) D.length)) (2*D.length+2)) :
  Calls Tryz.prog 9 #[v] w (RV (.tuple #[.string (tx ((sumR (lgL D a)+sumR (lgL D b))*(b-a))),.int .i64 0]) w):=by
 have hn4:=hp.n
 have hlen:=ring_len (bedQ s D a) (bedQ s D b) D.length
 have hz:∀ p∈ringF (bedQ s D a) (bedQ s D b) D.length,OkP p:=fun p h=>by
  obtain ⟨i,hi,rfl | rfl⟩:=ring_mem h
  ·exact hp.bedq ha (by omega)
  ·exact hp.bedq hb (by omega)
 have hS:=(bed_ring (s:=s) hp.in (within_true.1 wa) (within_true.1 wb) hab h1).simple
 rw [←hlen] at hS hv
 have hA:∀ k,k+2≤(ringF (bedQ s D a) (bedQ s D b) D.length).length→Sz 900000000 (areaTo (ringF (bedQ s D a) (bedQ s D b) D.length) k):=fun k hk=>(areaTo_size hz k hk).mono (by
  have:3 ^ k≤3 ^ 8:=Nat.pow_le_pow_right (by decide) (by omega)
  omega)
 have har:=bed_area (s:=s) (a:=a) (b:=b) hp.in
 have:=pl_Area v (ringF (bedQ s D a) (bedQ s D b) D.length) hS (by omega) (by omega) hz hA (by rw [har];exact (hp.areas ha hb).2) w hw hv
 rwa [har] at this
theorem bed_Length {s:QP} {D:List (Rat × Rat)} (hp:Plan s D) (h1:1≤D.length) {x:Rat} (hx:Fq 32 4 x) (wx:withinB D x=true) (v:Value) (w:World) (hw:Good w) (hv:PtsV w v (bedQ s D x) (D.length+1)) :
  Calls Tryz.prog 11 #[v] w (SurdPost (sumR (lgL D x)) w):=by
 have hn4:=hp.n
 have hlen:=ch_len (bedQ s D x) D.length
 have hv':=hv.congr (g:=pt (chF (bedQ s D x) D.length)) (fun i hi=>(ch_pt (by omega)).symm)
 rw [←hlen] at hv'
 have hz:∀ p∈chF (bedQ s D x) D.length,OkP p:=fun p h=>by
  obtain ⟨i,hi,rfl⟩:=ch_mem h
  exact hp.bedq hx (by omega)
 have hS:=chain_simple (f:=bedQ s D x) (n:=D.length) (fun i hi=>bed_ne (s:=s) hp.in (within_true.1 wx) hi) (fun i k z hik hk s1 s2=>bed_two hp.in (within_true.1 wx) i k z hik hk s1 s2)
 rw [show D.length=(chF (bedQ s D x) D.length).length-1 by rw [hlen];omega] at hS
 rw [show chF (bedQ s D x) ((chF (bedQ s D x) D.length).length-1)=chF (bedQ s D x) D.length by rw [hlen];rfl] at hS
 refine pl_Length v _ (lgL D x) hS (by rw [hlen,lgL_len]) (by rw [lgL_len];omega) (by omega) hz (fun i hi=>?_) (hp.lens hx wx) (fun k hk=>(hp.sumz hx (by rwa [lgL_len] at hk)).sz.mono (by decide)) (sum_ne wx (by omega)) ((hp.sumw hx).ok (by decide) (by decide)) w hw hv'
 have hi':i<D.length:=by rwa [lgL_len] at hi
 rw [lgL_get hi,ch_pt (show i≤D.length by omega),ch_pt (show i+1≤D.length by omega)]
 exact bed_sq hp.in hi'
end Go.Proofs.YtogdahbbogimcaaGreatDoor
