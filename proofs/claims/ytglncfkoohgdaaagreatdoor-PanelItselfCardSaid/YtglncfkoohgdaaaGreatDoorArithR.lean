import Derived.Test.YtglncfkoohgdaaaGreatDoorOpenR
import Derived.Test.YtglncfkoohgdaaaGreatDoorU64R
import Derived.Deep.RegionHeld3
import Derived.Test.YtglncfkoohgdaaaGreatDoorStillR
import Derived.Sort.AtCallIn
set_option maxRecDepth 100000
set_option maxHeartbeats 2000000
namespace Go.Proofs.YtglncfkoohgdaaaGreatDoor
open Go.RowKit
open Go.Lib (decDigits itoa nDigits)
theorem xg {s:ByteArray} {n:Int} (h:eP s n):(aI n.natAbs).length≤s.size:=by
 have h1:n.natAbs<10 ^ s.size:=bS (by rw [h.size];exact Nat.le_refl _)
 exact Bw (Nat.lt_of_lt_of_le h1 (Nat.pow_le_pow_left (by decide) _))
theorem Ml {w wA:World} {a b c d:Value} (h:wA=(w.alloc (Obj.cells #[a,b] 228)).alloc (Obj.cells #[c,d] 228)) :
  wA.cell? ⟨w.heap.size,0,none⟩=some a∧wA.cell? ⟨w.heap.size,1,none⟩=some b∧wA.cell? ⟨w.heap.size+1,0,none⟩=some c∧wA.cell? ⟨w.heap.size+1,1,none⟩=some d∧w.heap.size+2≤wA.heap.size∧Below w.heap.size w wA:=by
 have e1:(w.alloc (Obj.cells #[a,b] 228)).heap.size=w.heap.size+1:=by simp
 have hb1:Below w.heap.size w (w.alloc (Obj.cells #[a,b] 228)):=(Below.refl _ _).alloc (Nat.le_refl _) _
 have hb2:Below (w.heap.size+1) (w.alloc (Obj.cells #[a,b] 228)) wA:=by rw [h];exact (Below.refl _ _).alloc (by omega) _
 refine ⟨?_,?_,?_,?_,?_,hb1.trans (hb2.mono (by omega))⟩
 ·rw [hb2.cell (by simp)];simp [World.cell?_alloc_new]
 ·rw [hb2.cell (by simp)];simp [World.cell?_alloc_new]
 ·rw [h,←e1];simp only [World.cell?_alloc_new];rfl
 ·rw [h,←e1];simp only [World.cell?_alloc_new];rfl
 ·rw [h];simp
def Two (w:World) (a b c d:Value) (W:World):Prop:=W.cell? ⟨w.heap.size,0,none⟩=some a∧W.cell? ⟨w.heap.size,1,none⟩=some b∧W.cell? ⟨w.heap.size+1,0,none⟩=some c∧W.cell? ⟨w.heap.size+1,1,none⟩=some d∧w.heap.size+2≤W.heap.size∧Below w.heap.size w W
theorem SY {w W W':World} {a b c d:Value} (hb:Below W.heap.size W W') (h:Two w a b c d W):Two w a b c d W':=by
 obtain ⟨c0,c1,c2,c3,hs,hw⟩:=h
 refine ⟨?_,?_,?_,?_,Nat.le_trans hs hb.size,hw.trans (hb.mono (by omega))⟩
 ·rw [hb.cell (by simp;omega)];exact c0
 ·rw [hb.cell (by simp;omega)];exact c1
 ·rw [hb.cell (by simp;omega)];exact c2
 ·rw [hb.cell (by simp;omega)];exact c3
theorem Two.low {w W:World} {a b c d:Value} (h:Two w a b c d W):Below w.heap.size w W:=h.2.2.2.2.2
theorem bC (w:World) {x a:Addr} (v:Value) (h:x.block≠a.block∨(x.off≠a.off∧x.spot=none∧a.spot=none)):(w.setCell a v).cell? x=w.cell? x:=
 World.cell?_setCell_other _ _ _ _ (by rintro rfl;simp at h)
theorem zL (a b:Nat):decide (ek (a:Int) b<0)=decide (a<b):=by
 unfold ek;split
 ·simp;omega
 ·split
  ·simp;omega
  ·simp;omega
end Go.Proofs.YtglncfkoohgdaaaGreatDoor
namespace Go.Proofs.YtglncfkoohgdaaaGreatDoor
open Go.RowKit
theorem dI.one (w:World) (x:Nat):dI (w.alloc (Obj.cells #[Value.int .u64 (x:Int)] 263)) (.slice (some ⟨w.heap.size,0,none⟩) 1 1) [x]:=by
 refine ⟨rfl,_,_,rfl,Nat.le_refl _,by unfold maxLen;omega,fun _=>⟨w.heap.size,0,rfl,by simp,fun i hi=>?_⟩⟩
 obtain rfl:i=0:=by simpa using hi
 simp [World.cell?_alloc_new,lQ]
def AP (m n:Nat) (w:World) (e:Ending) (w':World):Prop:=∃ q r,e=.returned (.tuple #[q,r])∧dI w' q (aI (m/n))∧dI w' r (aI (m % n))∧Below w.heap.size w w'∧N8 w.heap.size q
theorem dI.nil (w:World):dI w (.slice none 0 0) []:=⟨rfl,_,_,rfl,Nat.le_refl _,by unfold maxLen;omega,fun h=>by simp at h⟩
def Mm (w:World) (a b:Value) (W:World):Prop:=W.cell? ⟨w.heap.size,0,none⟩=some a∧W.cell? ⟨w.heap.size+1,0,none⟩=some b∧W.frozen? ⟨w.heap.size,0,none⟩=false∧W.frozen? ⟨w.heap.size+1,0,none⟩=false∧w.heap.size+2≤W.heap.size∧Below w.heap.size w W
theorem Mm.low {w W:World} {a b:Value} (h:Mm w a b W):Below w.heap.size w W:=h.2.2.2.2.2
theorem S9 {w wA:World} {a b:Value} {t t':TypeId} (h:wA=(w.alloc (Obj.cells #[a] t)).alloc (Obj.cells #[b] t')):Mm w a b wA:=by
 have e1:(w.alloc (Obj.cells #[a] t)).heap.size=w.heap.size+1:=by simp
 have hb1:Below w.heap.size w (w.alloc (Obj.cells #[a] t)):=(Below.refl _ _).alloc (Nat.le_refl _) _
 have hb2:Below (w.heap.size+1) (w.alloc (Obj.cells #[a] t)) wA:=by rw [h];exact (Below.refl _ _).alloc (by omega) _
 refine ⟨?_,?_,?_,?_,?_,hb1.trans (hb2.mono (by omega))⟩
 ·rw [hb2.cell (by simp)];simp [World.cell?_alloc_new]
 ·rw [h,←e1];simp only [World.cell?_alloc_new];rfl
 ·rw [hb2.frozen (by simp)];simp
 ·rw [h,←e1];simp
 ·rw [h];simp
theorem Mm.keep {w W W':World} {a b:Value} (h:Mm w a b W) (hb:Below W.heap.size W W'):Mm w a b W':=by
 obtain ⟨c0,c1,f0,f1,hs,hw⟩:=h
 refine ⟨?_,?_,?_,?_,Nat.le_trans hs hb.size,hw.trans (hb.mono (by omega))⟩
 ·rw [hb.cell (by simp;omega)];exact c0
 ·rw [hb.cell (by simp;omega)];exact c1
 ·rw [hb.frozen (by simp;omega)];exact f0
 ·rw [hb.frozen (by simp;omega)];exact f1
theorem mQ (va vb:Value) (m n:Nat) (w:World) (Ze:m<n) (ha:dI w va (aI m)) (hb:dI w vb (aI n)) :
  Calls Tryz.prog 181 #[va,vb] w (AP m n w):=by
 obtain ⟨p,c,rfl,_,_⟩:=ha.slice
 obtain ⟨q,d,rfl,_,_⟩:=hb.slice
 have hcm:decide (ek (m:Int) (n:Int)<0)=true:=by rw [zL];simpa using Ze
 go_enter Tryz.func181,Tryz.ntmps181
 go_wp2_with fail
 obtain ⟨wA,aS⟩ : ∃ wA,wA=(w.alloc (Obj.cells #[Value.slice q (aI n).length d] 226)).alloc (Obj.cells #[Value.slice none 0 0] 226):=⟨_,rfl⟩
 rw [←aS]
 have hT:=S9 aS
 clear aS
 refine (uq _ _ m n _ (ha.below hT.low) (hb.below hT.low)).mono ?_
 rintro e wB ⟨rfl,il⟩
 obtain ⟨c0,c1,f0,f1,hsB,hlB⟩:=hT.keep il
 generalize ek (m:Int) (n:Int)=cc at hcm ⊢
 clear hT
 go_wp2
 refine bodyPost_ret (v:=.tuple #[.slice none 0 0,.slice p (aI m).length c]) (by simp [results,Tryz.results181,go_sem,c1]) rfl ⟨_,_,rfl,?_,?_,?_,N8.none _⟩
 ·rw [Nat.div_eq_of_lt Ze,eG];exact dI.nil _
 ·rw [Nat.mod_eq_of_lt Ze];exact ha.below (hlB.setCell (Nat.le_succ _) _)
 ·exact hlB.setCell (Nat.le_succ _) _
end Go.Proofs.YtglncfkoohgdaaaGreatDoor
namespace Go.Proofs.YtglncfkoohgdaaaGreatDoor
open Go.RowKit Go.Shelf
open Go.Lib (hid)
attribute [local go_sem] Oper.semAt_some
theorem Mo {n:Nat} (hn:0<n) (V x:Nat):(x+1000000000*V)/n=((V % n)*1000000000+x)/n+1000000000*(V/n):=by
 have e:x+1000000000*V=(V % n)*1000000000+x+n*(1000000000*(V/n)):=by
  have h:=Nat.mod_add_div V n
  have h2:=congrArg (1000000000 * ·) h
  simp only [Nat.mul_add] at h2
  rw [show n*(1000000000*(V/n))=1000000000*(n*(V/n)) by rw [←Nat.mul_assoc,Nat.mul_comm n,Nat.mul_assoc],Nat.mul_comm (V % n)]
  omega
 rw [e,Nat.add_mul_div_left _ _ hn]
theorem Mq {n:Nat} (V x:Nat):(x+1000000000*V) % n=((V % n)*1000000000+x) % n:=by
 have e:x+1000000000*V=(V % n)*1000000000+x+n*(1000000000*(V/n)):=by
  have h:=Nat.mod_add_div V n
  have h2:=congrArg (1000000000 * ·) h
  simp only [Nat.mul_add] at h2
  rw [show n*(1000000000*(V/n))=1000000000*(n*(V/n)) by rw [←Nat.mul_assoc,Nat.mul_comm n,Nat.mul_assoc],Nat.mul_comm (V % n)]
  omega
 rw [e,Nat.add_mul_mod_self_left]
theorem yz {n R x:Nat} (hR:R<n) (hx:x<1000000000):(R*1000000000+x)/n<1000000000:=by
 rw [Nat.div_lt_iff_lt_mul (by omega)]
 have:(R+1)*1000000000≤n*1000000000:=Nat.mul_le_mul_right _ hR
 have e:(R+1)*1000000000=R*1000000000+1000000000:=by omega
 rw [Nat.mul_comm 1000000000 n]
 omega
def Mr (xs:List Nat) (n k:Nat) (ys:List Nat):Prop:=k+ys.length=xs.length∧(∀ y∈ys,y<1000000000)∧val ys=val (xs.drop k)/n
theorem Mr.start (xs:List Nat) (n:Nat):Mr xs n xs.length []:=⟨by simp,by simp,by simp⟩
theorem Mr.step {xs:List Nat} {n k:Nat} {ys:List Nat} (h:Mr xs n (k+1) ys) (hn:0<n) (hx:∀ x∈xs,x<1000000000) (hk:k<xs.length) :
  Mr xs n k (((val (xs.drop (k+1)) % n)*1000000000+xs[k])/n :: ys):=by
 obtain ⟨h1,h2,h3⟩:=h
 refine ⟨by simp;omega,?_,?_⟩
 ·intro y hy
  rcases List.mem_cons.1 hy with rfl | hy
  ·exact yz (Nat.mod_lt _ hn) (hx _ (List.getElem_mem hk))
  ·exact h2 y hy
 ·rw [gH,h3,List.drop_eq_getElem_cons hk,gH,Mo hn]
theorem rest_step {xs:List Nat} {n k:Nat} (hk:k<xs.length):((val (xs.drop (k+1)) % n)*1000000000+xs[k]) % n=val (xs.drop k) % n:=by
 rw [List.drop_eq_getElem_cons hk,gH,Mq]
theorem Qa (k d:Nat) (ys:List Nat):(List.replicate (k+1) 0++ys).set k d=List.replicate k 0++d :: ys:=by
 rw [List.replicate_succ',List.append_assoc,List.set_append_right _ _ (by simp)]
 simp
def sS (n:Nat) {len:Nat} (s:Nat × List Nat) (x:Pc len):Nat × List Nat:=((s.1*1000000000+x.v) % n,s.2.set x.i ((s.1*1000000000+x.v)/n))
def mR (n len:Nat) (pre:List (Pc len)):Nat × List Nat:=pre.foldl (sS n) (0,List.replicate len 0)
theorem yA (n len:Nat):mR n len []=(0,List.replicate len 0):=rfl
theorem BV (n len:Nat) (pre:List (Pc len)) (x:Pc len):mR n len (pre ++ [x])=sS n (mR n len pre) x:=by simp [mR]
theorem JO (n len:Nat) (hn:0<n) (pre:List (Pc len)):(mR n len pre).1<n∧Own len (mR n len pre).2:=by
 have key:∀ (pre:List (Pc len)) (s:Nat × List Nat),s.1<n→Own len s.2→(pre.foldl (sS n) s).1<n∧Own len (pre.foldl (sS n) s).2:=by
  intro pre
  induction pre with
  | nil=>intro s h1 h2;exact ⟨h1,h2⟩
  | cons x pre ih=>intro s h1 h2;exact ih _ (Nat.mod_lt _ hn) (h2.set x.i _ (yz h1 x.hv))
 exact key pre _ hn (SC len)
theorem Ms (xs:List Nat) (hx:∀ x∈xs,x<1000000000) (n:Nat) (hn:0<n):∀ k,k≤xs.length →
  ∃ ys,mR n xs.length (down xs hx k)=(val (xs.drop (xs.length-k)) % n,List.replicate (xs.length-k) 0++ys)∧Mr xs n (xs.length-k) ys:=by
 intro k
 induction k with
 | zero=>intro _;exact ⟨[],by simp [down,yA],by simpa using Mr.start xs n⟩
 | succ k ih =>
  intro hk
  obtain ⟨ys,h1,h2⟩:=ih (by omega)
  obtain ⟨j,hj⟩ : ∃ j,xs.length-k=j+1:=⟨xs.length-k-1,by omega⟩
  have hj2:xs.length-(k+1)=j:=by omega
  have hj3:xs.length-1-k=j:=by omega
  have hjl:j<xs.length:=by omega
  rw [hj] at h1 h2
  have hv:=qQ (xs:=xs) (hx:=hx) (j:=j) hjl
  refine ⟨_,?_,by rw [hj2];exact h2.step hn hx hjl⟩
  rw [sP,BV,h1,hj2,hj3]
  unfold sS
  simp only [hv.1,hv.2,rest_step hjl,Qa]
theorem Qb (m n:Nat) (hn:0<n):(mR n (aI m).length (down (aI m) (iO m) (aI m).length)).1=m % n∧val (mR n (aI m).length (down (aI m) (iO m) (aI m).length)).2=m/n:=by
 obtain ⟨ys,h1,h2⟩:=Ms (aI m) (iO m) n hn _ (Nat.le_refl _)
 rw [h1]
 simp only [Nat.sub_self,List.replicate_zero,List.nil_append,List.drop_zero,gX] at h2 ⊢
 have:=h2.2.2
 simp only [List.drop_zero,gX] at this
 exact ⟨trivial,this⟩
theorem pF {B0:Nat} {W W':World} {row:Option Nat} (hg:W.grownBy W' row) (hr:∀ r,row=some r→B0≤r∧∃ o:Obj,W.heap[r]?=some o∧o.isCells=false) {a:Addr} {v:Value} (hk:W.cell? a=some v):W'.cell? a=some v:=by
 have hlt:a.block<W.heap.size:=by
  rcases Nat.lt_or_ge a.block W.heap.size with h | h
  ·exact h
  ·simp [World.cell?,Array.getElem?_eq_none h] at hk
 refine (World.cell?_of_block (w:=W) (hg.block a.block hlt ?_)).trans hk
 intro e
 obtain ⟨_,o,ho,hc⟩:=hr _ e.symm
 unfold World.cell? at hk
 rw [ho] at hk
 cases o <;> simp_all [Obj.isCells]
theorem xh {B0:Nat} {W W':World} {row:Option Nat} (hg:W.grownBy W' row) (hr:∀ r,row=some r→B0≤r∧∃ o:Obj,W.heap[r]?=some o∧o.isCells=false) {a:Addr} {v:Value} (hk:W.cell? a=some v) (hf:W.frozen? a=false):W'.frozen? a=false:=by
 have hlt:a.block<W.heap.size:=by
  rcases Nat.lt_or_ge a.block W.heap.size with h | h
  ·exact h
  ·simp [World.cell?,Array.getElem?_eq_none h] at hk
 refine (World.frozen?_of_block (w:=W) (hg.block a.block hlt ?_)).trans hf
 intro e
 obtain ⟨_,o,ho,hc⟩:=hr _ e.symm
 unfold World.cell? at hk
 rw [ho] at hk
 cases o <;> simp_all [Obj.isCells]
structure yB (w:World) (qv pv:Value) (n len G Rb Bs:Nat) (pre:List (Pc len)) (W:World):Prop where
 b:W.cell? ⟨w.heap.size,0,none⟩=some qv
 q:W.cell? ⟨w.heap.size+1,0,none⟩=some (.slice (some ⟨G,0,none⟩) len len)
 qf:W.frozen? ⟨w.heap.size+1,0,none⟩=false
 row:W.ownsRow G 263 1 (.slice (some ⟨G,0,none⟩) len len) len ((mR n len pre).2.map lQ)
 rest:W.cell? ⟨Rb,0,none⟩=some (.int .u64 ((mR n len pre).1:Int))
 adP:W.frozen? ⟨Rb,0,none⟩=false
 box:W.cell? ⟨Bs,0,none⟩=some pv
 low:Below w.heap.size w W
 size:Bs<W.heap.size
theorem GI {B0:Nat} {W W':World} {row:Option Nat} (hg:W.grownBy W' row) (hr:∀ r,row=some r→B0≤r∧∃ o:Obj,W.heap[r]?=some o∧o.isCells=false) {base:Nat} {e:TypeId} {size n:Nat} {v:Value} {xs:List Value} (h:W.ownsRow base e size v n xs):W'.ownsRow base e size v n xs:=by
 refine ⟨h.1,?_⟩
 rcases h.2 with h2 | ⟨g,cap,cur,e1,e2,e3,r⟩
 ·exact .inl h2
 ·exact .inr ⟨g,cap,cur,e1,e2,iR hg hr e3,r⟩
theorem Mt {w:World} {qv pv:Value} {n len G Rb Bs B:Nat} (hB:w.heap.size≤B):OwnFrom B (yB w qv pv n len G Rb Bs):=fun _ _ _ _ hs hg hr =>
 ⟨pF hg hr hs.b,pF hg hr hs.q,xh hg hr hs.q hs.qf,GI hg hr hs.row,pF hg hr hs.rest,xh hg hr hs.rest hs.adP,pF hg hr hs.box,
  ownFrom_below (β:=Unit) (Nat.le_refl _) hB () _ _ _ hs.low hg hr,Nat.lt_of_lt_of_le hs.size hg.size⟩
theorem GJ {w wB w1 wS:World} {q:Option Addr} {d n:Nat} {pv:Value} {L:Nat} {t:TypeId} (hT:Mm w (.slice q 1 d) (.slice none 0 0) w1) (hG:w.heap.size+2≤wB.heap.size) (_hGs:wB.heap.size<w1.heap.size)
  (hown:w1.ownsRow wB.heap.size 263 1 (.slice (some ⟨wB.heap.size,0,none⟩) L L) L ((List.replicate L 0).map lQ))
  (hS:wS=(w1.setCell ⟨w.heap.size+1,0,none⟩ (Value.slice (some ⟨wB.heap.size,0,none⟩) L L)).alloc (Obj.cells #[Value.int .u64 0] 263)) :
  yB w (.slice q 1 d) pv n L wB.heap.size w1.heap.size (w1.heap.size+1) [] (wS.alloc (Obj.cells #[pv] t))∧wS.heap.size=w1.heap.size+1:=by
 obtain ⟨c0,c1,f0,f1,hs,hl⟩:=hT
 have e0:(w1.setCell ⟨w.heap.size+1,0,none⟩ (Value.slice (some ⟨wB.heap.size,0,none⟩) L L)).heap.size=w1.heap.size:=by simp
 generalize hX:w1.setCell ⟨w.heap.size+1,0,none⟩ (Value.slice (some ⟨wB.heap.size,0,none⟩) L L)=X at *
 have hb0:X.cell? ⟨w.heap.size,0,none⟩=some (.slice q 1 d):=by rw [←hX,bC _ _ (.inl (by simp))];exact c0
 have hq0:X.cell? ⟨w.heap.size+1,0,none⟩=some (.slice (some ⟨wB.heap.size,0,none⟩) L L):=by rw [←hX,World.cell?_setCell_same' _ _ _ (by rw [c1];rfl)]
 have hf0:X.frozen? ⟨w.heap.size+1,0,none⟩=false:=by rw [←hX,World.frozen?_setCell];exact f1
 have hr0:X.ownsRow wB.heap.size 263 1 (.slice (some ⟨wB.heap.size,0,none⟩) L L) L ((List.replicate L 0).map lQ):=by
  rw [←hX];exact ownsRow_setCell_other hown (by simp [Value.ownBlock];omega) _
 have hlX:Below w.heap.size w X:=by rw [←hX];exact hl.setCell (p:=⟨_,0,none⟩) (Nat.le_succ _) _
 have eS:wS.heap.size=w1.heap.size+1:=by rw [hS];simp [e0]
 have hbS:Below w1.heap.size X (wS.alloc (Obj.cells #[pv] t)):=by
  refine Below.alloc ?_ (by omega) _
  rw [hS];exact (Below.refl _ _).alloc (by omega) _
 refine ⟨⟨?_,?_,?_,?_,?_,?_,?_,hlX.trans (hbS.mono (by omega)),by simp [eS]⟩,eS⟩
 ·rw [hbS.cell (by simp;omega)];exact hb0
 ·rw [hbS.cell (by simp;omega)];exact hq0
 ·rw [hbS.frozen (by simp;omega)];exact hf0
 ·rw [hS,yA];exact (hr0.alloc _).alloc _
 ·have:Below (w1.heap.size+1) wS (wS.alloc (Obj.cells #[pv] t)):=(Below.refl _ _).alloc (by omega) _
  rw [this.cell (by simp),hS,←e0,yA];simp [World.cell?_alloc_new]
 ·have:Below (w1.heap.size+1) wS (wS.alloc (Obj.cells #[pv] t)):=(Below.refl _ _).alloc (by omega) _
  rw [this.frozen (by simp),hS,←e0];simp
 ·rw [←eS];simp [World.cell?_alloc_new]
theorem JP {w W:World} {qv pv:Value} {n len G Rb Bs:Nat} {pre:List (Pc len)} {x:Pc len} (h:yB w qv pv n len G Rb Bs pre W) (hG:w.heap.size+2≤G) (hRG:G<Rb) (hBs:Bs=Rb+1) {t V R:Int} {r:Nat} {os:List Nat} (hst:mR n len (pre ++ [x])=sS n (r,os) x) (hrow:W.ownsRow G 263 1 (.slice (some ⟨G,0,none⟩) len len) len (os.map lQ)) (a:Act)
  (hV:V=(((r*1000000000+x.v)/n:Nat):Int)) (hR:R=(((r*1000000000+x.v) % n:Nat):Int)) :
  ownPostG (α:=Pc len) (Rb+2) (iF w.heap.size Bs) (yB w qv pv n len G Rb Bs) (fun _ _ _=>False) (pre ++ [x]) W .normal a ((((W.setCell ⟨Rb,0,none⟩ (.int .u64 t)).setCell ⟨G,x.i,none⟩ (.int .u64 V)).setCell ⟨Rb,0,none⟩ (.int .u64 R)).drew):=by
 obtain ⟨hb,hq,hqf,_,hrest,BX,GH,hlow,hsz⟩:=h
 obtain ⟨A,hA⟩ : ∃ A,A=W.setCell ⟨Rb,0,none⟩ (.int .u64 t):=⟨_,rfl⟩
 obtain ⟨B,hB⟩ : ∃ B,B=A.setCell ⟨G,x.i,none⟩ (.int .u64 V):=⟨_,rfl⟩
 rw [←hA,←hB]
 have cA:∀ k o,k≠Rb→A.cell? ⟨k,o,none⟩=W.cell? ⟨k,o,none⟩:=fun k o hk=>by rw [hA];exact bC _ _ (.inl hk)
 have cB:∀ k o,k≠G→B.cell? ⟨k,o,none⟩=A.cell? ⟨k,o,none⟩:=fun k o hk=>by rw [hB];exact bC _ _ (.inl hk)
 have cC:∀ k o,k≠Rb→(B.setCell ⟨Rb,0,none⟩ (.int .u64 R)).drew.cell? ⟨k,o,none⟩=B.cell? ⟨k,o,none⟩:=fun k o hk=>bC _ _ (.inl hk)
 have fA:∀ p,A.frozen? p=W.frozen? p:=fun p=>by rw [hA,World.frozen?_setCell]
 have fB:∀ p,B.frozen? p=A.frozen? p:=fun p=>by rw [hB,World.frozen?_setCell]
 have fC:∀ p,(B.setCell ⟨Rb,0,none⟩ (.int .u64 R)).drew.frozen? p=B.frozen? p:=fun p=>by
  show (B.setCell ⟨Rb,0,none⟩ (.int .u64 R)).frozen? p=B.frozen? p
  rw [World.frozen?_setCell]
 have kA:KeepsOthers W A:=by rw [hA];exact KeepsOthers.setCell _ _ _
 have kB:KeepsOthers A B:=by rw [hB];exact KeepsOthers.setCell _ _ _
 have kC:KeepsOthers B (B.setCell ⟨Rb,0,none⟩ (.int .u64 R)).drew:=(KeepsOthers.setCell _ _ _).trans (KeepsOthers.drew _)
 have hA2:∀ k,k≠Rb→A.heap[k]?=W.heap[k]?:=fun k hk=>by rw [hA];exact Below.heap_setCell _ _ _ _ hk
 have hB2:∀ k,k≠G→B.heap[k]?=A.heap[k]?:=fun k hk=>by rw [hB];exact Below.heap_setCell _ _ _ _ hk
 have hC2:∀ k,k≠Rb→(B.setCell ⟨Rb,0,none⟩ (.int .u64 R)).drew.heap[k]?=B.heap[k]?:=fun k hk=>Below.heap_setCell _ _ _ _ hk
 refine ⟨((kA.trans kB).trans kC).from _,?_,?_⟩
 ·intro k hk
  have h1:k≠Rb:=by omega
  have h2:k≠G:=by omega
  rw [hC2 k h1,hB2 k h2,hA2 k h1]
 ·have lA:Below w.heap.size w A:=by rw [hA];exact hlow.setCell (p:=⟨Rb,0,none⟩) (by simp;omega) _
  have lB:Below w.heap.size w B:=by rw [hB];exact lA.setCell (p:=⟨G,x.i,none⟩) (by simp;omega) _
  have rA:A.ownsRow G 263 1 (.slice (some ⟨G,0,none⟩) len len) len (os.map lQ):=by
   rw [hA];exact ownsRow_setCell_other hrow (by simp [Value.ownBlock];omega) _
  have rB:B.ownsRow G 263 1 (.slice (some ⟨G,0,none⟩) len len) len ((os.set x.i ((r*1000000000+x.v)/n)).map lQ):=by
   rw [hB];exact Mg rA x.i hV
  have eC:(B.setCell ⟨Rb,0,none⟩ (.int .u64 R)).drew.cell? ⟨Rb,0,none⟩=some (.int .u64 R):=by
   refine World.cell?_setCell_same' B ⟨Rb,0,none⟩ _ ?_
   rw [cB _ _ (by omega),hA,World.cell?_setCell_same' W ⟨Rb,0,none⟩ _ (by rw [hrest];rfl)]
   rfl
  refine ⟨?_,?_,?_,?_,?_,?_,?_,(lB.setCell (p:=⟨Rb,0,none⟩) (by simp;omega) _).drew,?_⟩
  ·rw [cC _ _ (by omega),cB _ _ (by omega),cA _ _ (by omega)];exact hb
  ·rw [cC _ _ (by omega),cB _ _ (by omega),cA _ _ (by omega)];exact hq
  ·rw [fC,fB,fA];exact hqf
  ·rw [hst]
   exact (ownsRow_setCell_other rB (by simp [Value.ownBlock];omega) _).drew
  ·rw [eC,hst,hR];rfl
  ·rw [fC,fB,fA];exact BX
  ·rw [cC _ _ (by omega),cB _ _ (by omega),cA _ _ (by omega)];exact GH
  ·exact Nat.lt_of_lt_of_le hsz ((kA.trans kB).trans kC).size
theorem Zf {r v n:Nat} (hr:r<n) (hv:v<1000000000):IntKind.u64.wrap (((r:Int)*1000000000+(v:Int)).tdiv (n:Int))=(((r*1000000000+v)/n:Nat):Int):=by
 have h1:=yz hr hv
 have e:((r:Int)*1000000000+(v:Int))=((r*1000000000+v:Nat):Int):=by omega
 rw [e,Int.tdiv_eq_ediv_of_nonneg (by omega),←Int.natCast_ediv]
 generalize (r*1000000000+v)/n=q at *
 exact IntWalk.u64_in _ (by omega)
theorem Zg {r v n:Nat}:(((r:Int)*1000000000+(v:Int)).tmod (n:Int))=(((r*1000000000+v) % n:Nat):Int):=by
 have e:((r:Int)*1000000000+(v:Int))=((r*1000000000+v:Nat):Int):=by omega
 rw [e,Int.tmod_eq_emod_of_nonneg (by omega),←Int.natCast_emod]
theorem uY (W:World) (a:Addr) (v:Value) (o:Obj) (h:a.block<W.heap.size):(W.alloc o).setCell a v=(W.setCell a v).alloc o:=by
 have e:(W.heap.push o).modify a.block (fun | .cells c elem frozen=>.cells (if a.spot.isSome then c else c.setIfInBounds a.off v) elem frozen | o=>o)
   = (W.heap.modify a.block (fun | .cells c elem frozen=>.cells (if a.spot.isSome then c else c.setIfInBounds a.off v) elem frozen | o=>o)).push o:=by
  apply Array.ext_getElem?
  intro i
  rw [Array.getElem?_modify,Array.getElem?_push,Array.getElem?_push,Array.getElem?_modify,Array.size_modify]
  by_cases hi:i=W.heap.size
  ·subst hi
   rw [if_pos rfl,if_neg (by omega),if_pos rfl]
  ·rw [if_neg hi,if_neg hi]
 simp only [World.setCell,World.alloc]
 exact congrArg (fun H=>{ W with heap:=H }) e
structure abW (w W WF:World) (c D G len kq kr R:Nat) (os:List Nat) (v0:Value):Prop where
 box:WF.cell? ⟨c,0,none⟩=some v0
 quo:dI WF (.slice (some ⟨G,0,none⟩) kq len) (os.take kq)
 rem:dI WF (.slice (some ⟨W.heap.size,0,none⟩) kr 1) ([R].take kr)
 low:Below w.heap.size w WF
theorem Zh {w W:World} {c D G len kq kr R:Nat} {os:List Nat} {v0 u:Value} (hlow:Below w.heap.size w W) (hc:w.heap.size≤c) (hq:W.cell? ⟨c,0,none⟩=some u) (hGc:G≠c) (hD:w.heap.size≤D)
  (hK:W.heap[D]?=some (.deferred (some []))) (hU:dI W (.slice (some ⟨G,0,none⟩) len len) os) (hl:os.length=len) (hkq:kq≤len) (hkr:kr≤1) :
  abW w W ((((W.setCell ⟨c,0,none⟩ v0).alloc (Obj.cells #[.int .u64 (R:Int)] 263)).drew).putObj D (.deferred none)) c D G len kq kr R os v0 ∧
  (((W.setCell ⟨c,0,none⟩ v0).alloc (Obj.cells #[.int .u64 (R:Int)] 263)).drew).heap[D]?=some (.deferred (some [])):=by
 obtain ⟨A,hA⟩ : ∃ A,A=W.setCell ⟨c,0,none⟩ v0:=⟨_,rfl⟩
 have hcW:c<W.heap.size:=by
  rcases Nat.lt_or_ge c W.heap.size with h | h
  ·exact h
  ·simp [World.cell?,Array.getElem?_eq_none h] at hq
 have hDW:D<W.heap.size:=(Array.getElem?_eq_some_iff.1 hK).1
 have hcD:c≠D:=by
  intro e;subst e
  simp [World.cell?,hK] at hq
 have sA:A.heap.size=W.heap.size:=by rw [hA];simp
 have bA:∀ k,k≠c→A.heap[k]?=W.heap[k]?:=fun k hk=>by rw [hA];exact Below.heap_setCell _ _ _ _ hk
 have cA:A.cell? ⟨c,0,none⟩=some v0:=by rw [hA];exact World.cell?_setCell_same' W _ _ (by rw [hq];rfl)
 rw [←hA]
 obtain ⟨B,hB⟩ : ∃ B,B=(A.alloc (Obj.cells #[.int .u64 (R:Int)] 263)).drew:=⟨_,rfl⟩
 have lB:Below A.heap.size A B:=by rw [hB];exact ((Below.refl _ _).alloc (Nat.le_refl _) _).drew
 have nB:B.heap[W.heap.size]?=some (.cells #[.int .u64 (R:Int)] 263 (0,0)):=by rw [hB,←sA];exact World.alloc_heap_new A _
 rw [←hB]
 have pB:∀ k,k≠D→(B.putObj D (.deferred none)).heap[k]?=B.heap[k]?:=fun k hk=>by
  simp only [World.putObj]
  rw [Array.getElem?_setIfInBounds,if_neg (by omega)]
 have key:∀ k,k≠c→k≠D→k<W.heap.size→(B.putObj D (.deferred none)).heap[k]?=W.heap[k]?:=fun k h1 h2 h3=>by
  rw [pB k h2,lB.block k (by omega),bA k h1]
 have hsz:W.heap.size+1≤(B.putObj D (.deferred none)).heap.size:=by
  have:(B.putObj D (.deferred none)).heap.size=B.heap.size:=by simp [World.putObj]
  rw [this]
  exact (Array.getElem?_eq_some_iff.1 nB).1
 refine ⟨⟨?_,?_,?_,?_⟩,?_⟩
 ·rw [World.cell?_of_block (pB c hcD),lB.cell (p:=⟨c,0,none⟩) (by simp;omega)];exact cA
 ·refine ⟨by simp,_,_,by rw [List.length_take,hl,Nat.min_eq_left hkq],by rw [List.length_take];omega,by obtain ⟨_,_,e1,_,e2⟩:=hU.slice;cases e1;exact e2,fun h0=>?_⟩
  rw [List.length_take] at h0
  obtain ⟨b,off,e1,hb,hcell⟩:=hU.cells (by omega)
  cases e1
  have hGD:G≠D:=by
   intro e;subst e
   have:=hcell 0 (by omega)
   simp [World.cell?,hK] at this
  refine ⟨G,0,rfl,by omega,fun i hi=>?_⟩
  have hi':i<os.length:=by simp at hi;omega
  rw [World.cell?_of_block (key G hGc hGD hb),hcell i hi']
  simp [lQ]
 ·refine ⟨by simp,some ⟨W.heap.size,0,none⟩,1,by simp [Nat.min_eq_left hkr],by simp <;> omega,by unfold maxLen;omega,fun h0=>⟨W.heap.size,0,rfl,by omega,fun i hi=>?_⟩⟩
  have hi0:i=0:=by simp at hi;omega
  subst hi0
  rw [World.cell?_of_block (pB W.heap.size (by omega))]
  simp [World.cell?,nB,lQ]
 ·have lA:Below w.heap.size w A:=by rw [hA];exact hlow.setCell (p:=⟨c,0,none⟩) hc _
  have:=hlow.size
  exact (lA.trans (lB.mono (by omega))).trans (pE _ _ _ hD)
 ·rw [lB.block D (by omega),bA D (by omega)];exact hK
theorem qy (va vb:Value) (m n:Nat) (w:World) (hn0:n≠0) (hn:n<1000000000) (Ze:n≤m) (hlen:(aI m).length≤1099511627776) (ha:dI w va (aI m)) (hb:dI w vb (aI n)) :
  CallsIn Fence.wide 9 Tryz.prog 181 #[va,vb] w (AP m n w):=by
 obtain ⟨p,c,rfl,_,hcm⟩:=ha.slice
 obtain ⟨q,d,rfl,_,hdm⟩:=hb.slice
 unfold maxLen at hcm hdm
 have hp1:=EI hn0 hn
 have hl1:(aI n).length=1:=by rw [hp1];rfl
 rw [hl1]
 have hcm:decide (ek (m:Int) (n:Int)<0)=false:=by rw [zL];simpa using Ze
 refine callsIn_of_wp_marks Tryz.func181 rfl trivial ?_ rfl
 simp only [Tryz.ntmps181,List.size_toArray,List.length_cons,List.length_nil,Nat.reduceAdd,Nat.reduceSub,Array.replicate_succ,Array.replicate_zero,List.push_toArray,List.append_toArray,List.nil_append,List.cons_append]
 gi_wp2
 obtain ⟨wA,aS⟩ : ∃ wA,wA=(w.alloc (Obj.cells #[Value.slice q 1 d] 226)).alloc (Obj.cells #[Value.slice none 0 0] 226):=⟨_,rfl⟩
 rw [←aS]
 have hT:=S9 aS
 clear aS
 rw [hl1] at hb
 refine ⟨trivial,?_⟩
 refine (callsIn_wide.2 (uq _ _ m n _ (ha.below hT.low) (hb.below hT.low))).mono ?_
 rintro e wB ⟨rfl,il⟩
 replace hT:=hT.keep il
 clear il
 obtain ⟨i0,hi,hz0,hz1,hz2⟩:=info_parts abV.info
 obtain ⟨w1,hmk,hown,hgr⟩:=run_make_full (P:=Tryz.prog) wB wB.heap.size 226 263 i0 (.int .u64 0) 1 Tryz.underlying226 hi hz0 hz1 .i64 .i64 ((aI m).length) (by rw [hz2];omega) (by unfold maxLen;omega) (Nat.le_refl _)
 rw [Ef] at hown
 have hb1:Below wB.heap.size wB w1:=(Below.refl _ _).grown hgr (Nat.le_refl _) (fun k h=>by simp at h)
 clear hgr hi hz0 hz1 hz2
 obtain ⟨c0,c1,f0,f1,hs1,ahc⟩:=hT.keep hb1
 have SK:=hid hown
 clear hown
 have cb0:=hT.1
 have HT:=hid hT
 clear hT
 generalize ek (m:Int) (n:Int)=cc at hcm ⊢
 gi_wp2
 obtain ⟨wS,qV⟩ : ∃ wS,wS=(w1.setCell ⟨w.heap.size+1,0,none⟩ (Value.slice (some ⟨wB.heap.size,0,none⟩) (aI m).length (aI m).length)).alloc (Obj.cells #[Value.int .u64 0] 263):=⟨_,rfl⟩
 rw [←qV]
 have hGs:wB.heap.size<w1.heap.size:=by
  rcases Nat.lt_or_ge wB.heap.size w1.heap.size with h | h
  ·exact h
  ·have:=SK.out.lt wB.heap.size rfl;omega
 obtain ⟨hst,I5⟩:=GJ (n:=n) (pv:=.slice p (aI m).length c) (t:=226) (HT.out.keep hb1) HT.out.2.2.2.2.1 hGs SK.out qV
 have HST:=hid hst
 clear hst qV c0 c1 f0 f1 hmk cb0 SK
 refine ⟨trivial,?_⟩
 refine (GG Fence.wide _ trivial rfl _ _ _ _).mono ?_
 rintro e w2 ⟨rfl,rfl⟩
 rw [I5]
 obtain ⟨w2,hw2⟩ : ∃ w2,w2=wS.alloc (Obj.cells #[Value.slice p (aI m).length c] 226):=⟨_,rfl⟩
 have abX:=hid (by rw [hw2];exact HST.out:yB w (.slice q 1 d) (.slice p (aI m).length c) n (aI m).length wB.heap.size w1.heap.size (w1.heap.size+1) [] w2)
 have hs2:w2.heap.size=w1.heap.size+2:=by rw [hw2];simp [I5]
 rw [←hw2]
 clear hw2 HST
 have hI2:dI w2 (.slice p (aI m).length c) (aI m):=ha.below abX.out.low
 have hfr:∀ a k c',Value.slice p (aI m).length c=.slice (some a) k c'→a.block<w.heap.size:=by
  intro a k c' he
  obtain ⟨b,off,rfl,hbb,_⟩:=ha.cells (dF (by omega))
  simp only [Value.slice.injEq,Option.some.injEq] at he
  rw [←he.1];exact hbb
 gi_wp2
 refine wpIn_rangeFunc_ownG (n:=9) rfl (by decide) (gf:=253) (lb:=#[.pointer (some ⟨w1.heap.size+1,0,none⟩)]) rfl trivial (enters_of Tryz.func253 (by kernel_rfl) rfl)
  (uW Fence.wide 8 trivial rfl (by decide) (w1.heap.size+1) w.heap.size _ (aI m) (iO m) (by omega) w2 (by omega) hfr abX.out.box hI2) iF.trans (iF.put (by omega) (by omega)) (Below.refl _ _) (fun _=>rfl)
  (yB w (.slice q 1 d) (.slice p (aI m).length c) n (aI m).length wB.heap.size w1.heap.size (w1.heap.size+1)) (fun _ _ _=>False) (Mt (by omega)) (fun _ _ _ _ _ hs _ _=>hs)
  abX.out
  ?fr ?assign ?body ?done ?stop
 case assign =>
  intro l x W K hK
  gi_wp2
  exact hK
 case body =>
  rintro l pre x W hinv hpl
  have eH:=hid hinv
  obtain ⟨hb0,hq0,hqf,hrow,hrest,BX,GH,hlow,hsz⟩:=hinv
  have hsB:=HT.out.2.2.2.2.1
  obtain ⟨hr1,hos⟩:=JO n (aI m).length (by omega) pre
  have HD:=hid (BV n (aI m).length pre x)
  generalize mR n (aI m).length pre=st at hrow hrest hr1 hos HD
  obtain ⟨r,os⟩:=st
  dsimp only at hrow hrest hr1 hos
  obtain ⟨b,off,rfl,hbb,hcell⟩:=hb.cells (by rw [hl1];decide)
  have hcn:=(hlow.cell (p:=⟨b,off+0,none⟩) hbb).trans (hcell 0 (by rw [hl1];decide))
  have hn':(aI n)[0]'(by rw [hl1];decide)=n:=by simp [hp1]
  rw [hn',Nat.add_zero] at hcn
  clear hn' hcell
  have hxi:x.i<(aI m).length:=by rcases x.hi with h | h <;> omega
  have hxv:=x.hv
  have hco:=hrow.cellAt x.i (by omega)
  have hoi:x.i<os.length:=by rw [hos.len];exact hxi
  rw [List.getElem?_map,List.getElem?_eq_getElem hoi,Option.map_some] at hco
  have hfo:=hrow.frozenAt x.i
  unfold lQ at hco
  have abY:=hid hrow
  have HOS:=hid hos
  clear hrow hos hp1
  have hz:((n:Int) == 0)=false:=by simpa using hn0
  gi_wp2
  have hRG:wB.heap.size≠w1.heap.size:=by omega
  have hRb:b≠w1.heap.size:=by omega
  have e0:=(bC W (x:=⟨w.heap.size,0,none⟩) (a:=⟨w1.heap.size,0,none⟩) (.int .u64 ((r:Int)*1000000000+(x.v:Int))) (.inl (by simp;omega))).trans hb0
  have e1:=(bC W (x:=⟨w.heap.size+1,0,none⟩) (a:=⟨w1.heap.size,0,none⟩) (.int .u64 ((r:Int)*1000000000+(x.v:Int))) (.inl (by simp;omega))).trans hq0
  have e2:=(bC W (x:=⟨b,off,none⟩) (a:=⟨w1.heap.size,0,none⟩) (.int .u64 ((r:Int)*1000000000+(x.v:Int))) (.inl hRb)).trans hcn
  have e3:=(bC W (x:=⟨wB.heap.size,x.i,none⟩) (a:=⟨w1.heap.size,0,none⟩) (.int .u64 ((r:Int)*1000000000+(x.v:Int))) (.inl hRG)).trans hco
  have e4:=World.cell?_setCell_same' W ⟨w1.heap.size,0,none⟩ (.int .u64 ((r:Int)*1000000000+(x.v:Int))) (by rw [hrest];rfl)
  have e5:(W.setCell ⟨w1.heap.size,0,none⟩ (.int .u64 ((r:Int)*1000000000+(x.v:Int)))).frozen? ⟨wB.heap.size,x.i,none⟩=false:=by rw [World.frozen?_setCell];exact hfo
  have e6:(W.setCell ⟨w1.heap.size,0,none⟩ (.int .u64 ((r:Int)*1000000000+(x.v:Int)))).frozen? ⟨w1.heap.size,0,none⟩=false:=by rw [World.frozen?_setCell];exact BX
  obtain ⟨WX,hWX⟩ : ∃ WX,WX=W.setCell ⟨w1.heap.size,0,none⟩ (.int .u64 ((r:Int)*1000000000+(x.v:Int))):=⟨_,rfl⟩
  rw [←hWX] at e0 e1 e2 e3 e4 e5 e6 ⊢
  have HWX:=hid hWX
  have hin1:(0:Int)≤(x.i:Int):=by omega
  have hin2:(x.i:Int)<((aI m).length:Int):=by omega
  clear hWX hb0 hq0 hcn hco hfo hrest BX GH hqf
  refine Bc (fun W'=>W'.cell? ⟨w.heap.size,0,none⟩=some (.slice (some ⟨b,off,none⟩) 1 d)∧W'.cell? ⟨w.heap.size+1,0,none⟩=some (.slice (some ⟨wB.heap.size,0,none⟩) (aI m).length (aI m).length)∧W'.cell? ⟨b,off,none⟩=some (.int .u64 (n:Int))∧W'.cell? ⟨w1.heap.size,0,none⟩=some (.int .u64 ((r:Int)*1000000000+(x.v:Int)))) 13 14 (by kernel_rfl) (by decide) (by kernel_rfl) (by kernel_rfl) ⟨e0,e1,e2,e4⟩ ?_
  simp only [List.take_succ_cons,List.take_zero,List.drop_succ_cons,List.drop_zero]
  iterate 13
   refine Jg ?_ rfl ?_ ?_
   rotate_left
   ·intro W' hS'
    obtain ⟨s0,s1,s2,s4⟩:=hS'
    go_simp
    try with_reducible rfl
   try simp only [Act.put,List.setIfInBounds_toArray,List.set_cons_zero,List.set_cons_succ]
  refine LP ?_
  refine aB rfl (fun K hK=>?_)
  go_simp
  have hRB:x.i<(aI m).length:=hxi
  obtain ⟨V,hV⟩ : ∃ V,V=IntKind.u64.wrap (((r:Int)*1000000000+(x.v:Int)).tdiv (n:Int)):=⟨_,rfl⟩
  rw [←hV]
  have g0:=(bC WX (x:=⟨w.heap.size,0,none⟩) (a:=⟨wB.heap.size,x.i,none⟩) (.int .u64 V) (.inl (by simp;omega))).trans e0
  have g1:=(bC WX (x:=⟨w.heap.size+1,0,none⟩) (a:=⟨wB.heap.size,x.i,none⟩) (.int .u64 V) (.inl (by simp;omega))).trans e1
  have g2:=(bC WX (x:=⟨b,off,none⟩) (a:=⟨wB.heap.size,x.i,none⟩) (.int .u64 V) (.inl (by simp;omega))).trans e2
  have g4:=(bC WX (x:=⟨w1.heap.size,0,none⟩) (a:=⟨wB.heap.size,x.i,none⟩) (.int .u64 V) (.inl (by simp;omega))).trans e4
  have g6:(WX.setCell ⟨wB.heap.size,x.i,none⟩ (.int .u64 V)).frozen? ⟨w1.heap.size,0,none⟩=false:=by rw [World.frozen?_setCell];exact e6
  refine hK _ _ ⟨⟨g0,g1,g2,g4⟩,aQ ?_⟩
  clear hK K
  obtain ⟨WY,hWY⟩ : ∃ WY,WY=WX.setCell ⟨wB.heap.size,x.i,none⟩ (.int .u64 V):=⟨_,rfl⟩
  rw [←hWY] at g0 g1 g2 g4 g6 ⊢
  have HWY:=hid hWY
  have HV:=hid hV
  clear hWY hV
  try simp only [Act.put,List.setIfInBounds_toArray,List.set_cons_zero,List.set_cons_succ]
  refine aB rfl (fun K hK=>?_)
  go_simp
  refine hK _ _ ⟨trivial,aQ ?_⟩
  clear hK K
  try simp only [Act.put,List.setIfInBounds_toArray,List.set_cons_zero,List.set_cons_succ]
  show Exit.inBlock 1 _ Exit.normal _ _
  gi_wp2
  rw [HWY.out,HWX.out]
  rw [hs2]
  refine JP (r:=r) (os:=os) eH.out hsB hGs rfl HD.out abY.out _ ?_ ?_
  ·rw [HV.out];exact Zf hr1 hxv
  ·exact Zg
 case done =>
  rintro D ys W hD rfl hinv hK
  have eH:=hid hinv
  obtain ⟨hb0,hq0,hqf,hrow,hrest,BX,GH,hlow,hsz⟩:=hinv
  obtain ⟨hr1,hr2⟩:=Qb m n (by omega)
  rw [hr1] at hrest
  obtain ⟨os,hos⟩ : ∃ os,os=(mR n (aI m).length (down (aI m) (iO m) (aI m).length)).2:=⟨_,rfl⟩
  rw [←hos] at hrow hr2
  have hown:=(JO n (aI m).length (by omega) (down (aI m) (iO m) (aI m).length)).2
  rw [←hos] at hown
  have HOWN:=hid hown
  have abY:=hid hrow
  have HR2:=hid hr2
  clear hos hr1 hr2 hrow hown GH hb0
  have hmx:Tryz.prog.follows .mixedOrders=true:=by kernel_rfl
  have hol:os.length=(aI m).length:=HOWN.out.len
  have hqU:dI W (.slice (some ⟨wB.heap.size,0,none⟩) (aI m).length (aI m).length) os:=dI.bu abY.out hol.symm
  have Zi:=hid hqU
  have HOL:=hid hol
  have hone:=dI.one W (m % n)
  have Ta:=hid hone
  have hrl:∀ y∈[m % n],y<1000000000:=by
   intro y hy
   have:y=m % n:=by simpa using hy
   have:=Nat.mod_lt m (show 0<n by omega)
   omega
  have HRL:=hid hrl
  have hsq:w.heap.size+1<W.heap.size:=by omega
  clear hrl hone hol hqU
  gi_wp2
  refine Ak ?_
  gi_region_with_o (first
   | ((first | refine ⟨trivial,?_⟩ | skip);gi_at_call_has 221 (Value.slice (some ⟨wB.heap.size,0,none⟩) (aI m).length (aI m).length);refine (callsIn_wide.2 (pz _ os (by rw [HOL.out];omega) HOWN.out.small _ (Zi.out.below ?_))).mono ?_;(repeat (first | exact Below.refl _ _ | refine Below.drew ?_ | refine Below.alloc ?_ (by simp) _));rintro e w' ⟨v',rfl,-,rfl,-,⟨_,_,kq,hvq,rfl,hkq,hpq⟩⟩;simp only [Value.slice.injEq] at hvq;obtain ⟨rfl,-,rfl⟩:=hvq)
   | ((first | refine ⟨trivial,?_⟩ | skip);gi_at_call_has 221 (Value.slice (some ⟨W.heap.size,0,none⟩) 1 1);refine (callsIn_wide.2 (pz _ [m % n] (by simp) HRL.out _ (Ta.out.below ?_))).mono ?_;(repeat (first | exact Below.refl _ _ | refine Below.drew ?_ | refine Below.alloc ?_ (by simp) _));rintro e w' ⟨v',rfl,-,rfl,-,⟨_,_,kr,eO,rfl,hkr,hpr⟩⟩;simp only [Value.slice.injEq] at eO;obtain ⟨rfl,-,rfl⟩:=eO))
  all_goals refine ag.mk ?_
  all_goals gi_wp2
  all_goals try rw [uY _ _ _ _ (by exact hsq)]
  all_goals
   obtain ⟨hE,hKF⟩:=Zh (v0:=.slice (some ⟨wB.heap.size,0,none⟩) kq (aI m).length) (R:=m % n) hlow (Nat.le_succ _) hq0 (by have:=HT.out.2.2.2.2.1;omega) (by omega) hK Zi.out HOL.out (by rw [←HOL.out];exact hkq) (by simpa using hkr)
  all_goals try simp only [Act.put,List.setIfInBounds_toArray,List.getElem_toArray,List.getElem_cons_succ,List.getElem_cons_zero,List.set_cons_zero,List.set_cons_succ]
  all_goals rw [Int.natCast_emod] at hE hKF
  all_goals
   refine ⟨by simp,.inl ⟨_,_,rfl,run_takeDeferred hKF,?_⟩⟩
   refine ⟨.tuple #[.slice (some ⟨wB.heap.size,0,none⟩) kq (aI m).length,.slice (some ⟨W.heap.size,0,none⟩) kr 1],?_,⟨_,_,rfl,?_,?_,hE.low,⟨fun a n' c' hv=>by cases hv;have:=HT.out.2.2.2.2.1;show w.heap.size≤wB.heap.size;omega,fun n' c' hv=>by cases hv⟩⟩⟩
   ·have hbx:=hE.box
    simp [results,Tryz.results181,go_sem,hbx]
   ·rw [←HR2.out,hpq];exact hE.quo
   ·have e1:val [m % n]=m % n:=by simp [val]
    rw [e1] at hpr
    rw [hpr];exact hE.rem
 case stop =>
  rintro D c pre W _ _ h _
  exact h.elim
theorem uZ (va vb:Value) (m n:Nat) (w:World) (hn0:n≠0) (hn:n<1000000000) (hlen:(aI m).length≤1099511627776) (ha:dI w va (aI m)) (hb:dI w vb (aI n)) :
  Calls Tryz.prog 181 #[va,vb] w (AP m n w):=by
 rcases Nat.lt_or_ge m n with h | h
 ·exact mQ va vb m n w h ha hb
 ·exact callsIn_wide.1 (qy va vb m n w hn0 hn h hlen ha hb)
end Go.Proofs.YtglncfkoohgdaaaGreatDoor
