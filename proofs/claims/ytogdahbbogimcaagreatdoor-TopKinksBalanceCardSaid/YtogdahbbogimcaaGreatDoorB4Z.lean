import Derived.Test.YtogdahbbogimcaaGreatDoorKk12Z
import Derived.Test.YtogdahbbogimcaaGreatDoorB1Z
namespace Go.Proofs.YtogdahbbogimcaaGreatDoor
section
variable {s:QP} {D:List (Rat × Rat)} {a b:Rat}
theorem seg_on (hI:PrIn D) {h:Rat} (w:Within D h) {i:Nat} (hi:i<D.length) {z:QP} (hz:Seg (bedQ s D h i) (bedQ s D h (i+1)) z):On s D h i z:=by
 obtain ⟨k,h0,h1,rfl⟩:=hz
 have hl:=Rat.le_of_lt (w i hi)
 refine ⟨k*lgQ D h i,Rat.mul_nonneg h0 hl,?_,?_⟩
 ·have:=Rat.mul_le_mul_of_nonneg_right h1 hl
  grind
 ·rw [bed_next hI hi h]
  unfold towP plusQ
  ext <;> (show _=_;grind)
theorem bed_tow (j:Nat) (k:Rat):towP (bedQ s D a j) (bedQ s D b j) k=bedQ s D (a+k*(b-a)) j:=by
 unfold towP bedQ plusQ
 ext <;> (show _=_;grind)
theorem side_on (wa:Within D a) (wb:Within D b) (hab:a<b) {j:Nat} {z:QP} (hz:Seg (bedQ s D a j) (bedQ s D b j) z):∃ g,a≤g∧g≤b∧Within D g∧z=bedQ s D g j:=by
 obtain ⟨k,h0,h1,rfl⟩:=hz
 have k1:=Rat.mul_nonneg h0 (show 0≤b-a by grind)
 have k2:=Rat.mul_le_mul_of_nonneg_right h1 (show 0≤b-a by grind)
 have g1:a≤a+k*(b-a):=by grind
 have g2:a+k*(b-a)≤b:=by grind
 exact ⟨a+k*(b-a),g1,g2,within_between wa wb g1 g2,bed_tow j k⟩
theorem last_on (hI:PrIn D) {g:Rat} (w:Within D g) (hn:1≤D.length):On s D g (D.length-1) (bedQ s D g D.length):=by
 have hk:D.length-1<D.length:=by omega
 refine ⟨lgQ D g (D.length-1),Rat.le_of_lt (w _ hk),Rat.le_refl,?_⟩
 have:=bed_next (s:=s) hI hk g
 rwa [show D.length-1+1=D.length by omega] at this
theorem bed_ne (hI:PrIn D) {h:Rat} (w:Within D h) {i:Nat} (hi:i<D.length):bedQ s D h i≠bedQ s D h (i+1):=fun e=>by
 have:=bed_strict (s:=s) hI w (show i<i+1 by omega) (by omega)
 rw [e] at this
 exact Rat.lt_irrefl this
theorem bed_two (hI:PrIn D) {h:Rat} (w:Within D h) (i k:Nat) (z:QP) (hik:i<k) (hk:k<D.length) (s1:Seg (bedQ s D h i) (bedQ s D h (i+1)) z) (s2:Seg (bedQ s D h k) (bedQ s D h (k+1)) z):k=i+1∧z=bedQ s D h k:=by
 have o1:=seg_on hI w (by omega) s1
 have o2:=seg_on hI w hk s2
 have r1:=o1.right hI (by omega)
 have l2:=o2.left hI hk
 by_cases e:k=i+1
 ·subst e
  exact ⟨rfl,(same_left hI w (Nat.le_refl _) hk o2 (by grind)).2⟩
 ·have:=bed_strict (s:=s) hI w (show i+1<k by omega) (by omega)
  grind
theorem bed_end (hI:PrIn D) {h:Rat} (w:Within D h) (i:Nat) (hi:i<D.length) (s1:Seg (bedQ s D h i) (bedQ s D h (i+1)) (bedQ s D h D.length)):i+1=D.length:=by
 have r1:=(seg_on hI w hi s1).right hI hi
 by_cases e:i+1=D.length
 ·exact e
 ·have:=bed_strict (s:=s) hI w (show i+1<D.length by omega) (Nat.le_refl _)
  grind
theorem bed_begin (hI:PrIn D) {h:Rat} (w:Within D h) (i:Nat) (hi:i<D.length) (s1:Seg (bedQ s D h i) (bedQ s D h (i+1)) (bedQ s D h 0)):i=0:=by
 have l1:=(seg_on hI w hi s1).left hI hi
 by_cases e:i=0
 ·exact e
 ·have:=bed_strict (s:=s) hI w (show 0<i by omega) (by omega)
  grind
theorem bed_ring (hI:PrIn D) (wa:Within D a) (wb:Within D b) (hab:a<b) (hn:1≤D.length):RingOk (bedQ s D a) (bedQ s D b) D.length where
 n1:=hn
 nel:=fun i hi=>bed_ne hI wa hi
 neh:=fun i hi=>bed_ne hI wb hi
 ner:=fun e=>by
  have:=one_height hI wa wb (show D.length-1<D.length by omega) (show D.length-1<D.length by omega) (last_on (s:=s) hI wa hn) (by rw [e];exact last_on hI wb hn)
  grind
 ne0:=fun e=>by
  have:=one_height hI wa wb (show 0<D.length by omega) (show 0<D.length by omega) (corner (s:=s) wa (by omega)) (by rw [e];exact corner wb (by omega))
  grind
 LL:=bed_two hI wa
 HH:=bed_two hI wb
 LH:=fun i k z hi hk s1 s2=>by
  have:=one_height hI wa wb hk hi (seg_on hI wa hi s1) (seg_on hI wb hk s2)
  grind
 LR:=fun i z hi s1 s2=>by
  obtain ⟨g,g1,g2,wg,rfl⟩:=side_on wa wb hab s2
  obtain rfl:=one_height hI wa wg (show D.length-1<D.length by omega) hi (seg_on hI wa hi s1) (last_on hI wg hn)
  exact ⟨bed_end hI wa i hi s1,rfl⟩
 LE:=fun i z hi s1 s2=>by
  obtain ⟨g,g1,g2,wg,rfl⟩:=side_on wa wb hab s2
  obtain rfl:=one_height hI wa wg (show 0<D.length by omega) hi (seg_on hI wa hi s1) (corner wg (by omega))
  exact ⟨bed_begin hI wa i hi s1,rfl⟩
 HR:=fun i z hi s1 s2=>by
  obtain ⟨g,g1,g2,wg,rfl⟩:=side_on wa wb hab s2
  obtain rfl:=one_height hI wb wg (show D.length-1<D.length by omega) hi (seg_on hI wb hi s1) (last_on hI wg hn)
  exact ⟨bed_end hI wb i hi s1,rfl⟩
 HE:=fun i z hi s1 s2=>by
  obtain ⟨g,g1,g2,wg,rfl⟩:=side_on wa wb hab s2
  obtain rfl:=one_height hI wb wg (show 0<D.length by omega) hi (seg_on hI wb hi s1) (corner wg (by omega))
  exact ⟨bed_begin hI wb i hi s1,rfl⟩
 RE:=fun z s1 s2=>by
  obtain ⟨g,g1,g2,wg,rfl⟩:=side_on wa wb hab s1
  obtain ⟨g',g1',g2',wg',e⟩:=side_on wa wb hab s2
  have:=one_height hI wg wg' (show 0<D.length by omega) (show D.length-1<D.length by omega) (last_on hI wg hn) (by rw [e];exact corner wg' (by omega))
  subst this
  have:=bed_strict (s:=s) hI wg (show 0<D.length by omega) (Nat.le_refl _)
  rw [e] at this
  exact Rat.lt_irrefl this
theorem bed_quad (hI:PrIn D) {i:Nat} (hi:i<D.length):quadP (bedQ s D a i) (bedQ s D a (i+1)) (bedQ s D b (i+1)) (bedQ s D b i)=(lgQ D a i+lgQ D b i)*(b-a):=by
 have h1:=ax_left hI hi
 rw [bed_next hI hi a,bed_next hI hi b]
 unfold nK upQ dotQ at h1
 generalize lgQ D a i=la at *
 generalize lgQ D b i=lb at *
 unfold bedQ
 generalize dirQ (tK D i)=d at *
 generalize axK D i=A at *
 generalize atK s D i=p at *
 obtain ⟨d1,d2⟩:=d
 obtain ⟨A1,A2⟩:=A
 obtain ⟨p1,p2⟩:=p
 unfold quadP det2 plusQ
 dsimp only at *
 have e:(la+lb)*(b-a)=(la+lb)*(b-a)*(-d2*A1+d1*A2):=by rw [h1,Rat.mul_one]
 rw [e]
 grind
theorem sum_lg (h:Rat):∀ k,k≤D.length→sumR ((lgL D h).take k)=sumTo (lgQ D h) k
 | 0,_=>by rw [List.take_zero];rfl
 | k+1,hk=>by rw [take_sum (by omega),sum_lg h k (by omega)];rfl
theorem sum_pair (f g:Nat→Rat) (c:Rat):∀ k,sumTo (fun i=>(f i+g i)*c) k=(sumTo f k+sumTo g k)*c
 | 0=>by show (0:Rat)=(0+0)*c;grind
 | k+1=>by
  have ih:=sum_pair f g c k
  show sumTo _ k+(f k+g k)*c=(sumTo f k+f k+(sumTo g k+g k))*c
  rw [ih]
  grind
theorem sumTo_congr {f g:Nat→Rat}:∀ k,(∀ i,i<k→f i=g i)→sumTo f k=sumTo g k
 | 0,_=>rfl
 | k+1,h=>by
  show sumTo f k+f k=sumTo g k+g k
  rw [sumTo_congr k (fun i hi=>h i (by omega)),h k (by omega)]
theorem bed_area (hI:PrIn D):areaP (ringF (bedQ s D a) (bedQ s D b) D.length)=(sumR (lgL D a)+sumR (lgL D b))*(b-a):=by
 have hl:∀ h,(lgL D h).length=D.length:=fun h=>by unfold lgL;simp
 have e1:=sum_lg (D:=D) a D.length (Nat.le_refl _)
 have e2:=sum_lg (D:=D) b D.length (Nat.le_refl _)
 rw [List.take_of_length_le (by rw [hl];exact Nat.le_refl _)] at e1 e2
 rw [ring_shoe,e1,e2,←sum_pair]
 exact sumTo_congr _ fun i hi=>bed_quad hI hi
end
end Go.Proofs.YtogdahbbogimcaaGreatDoor
