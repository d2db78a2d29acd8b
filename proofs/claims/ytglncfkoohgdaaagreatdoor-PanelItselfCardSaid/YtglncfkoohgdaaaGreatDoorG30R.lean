import Derived.Test.YtglncfkoohgdaaaGreatDoorG16R
import Derived.Test.YtglncfkoohgdaaaGreatDoorHul1R
import Derived.Maps.OwnIn
import Derived.Sort.KeysCollected
import Derived.Test.YtglncfkoohgdaaaGreatDoorTxR
import Derived.Shelf.SlGeneric
import Derived.Shelf.SlSortCmp.WholeK
import Derived.Test.YtglncfkoohgdaaaGreatDoorT9R
import Derived.Test.YtglncfkoohgdaaaGreatDoorShelfZ
import Derived.Maps.RangeWalk
import Derived.Maps.StringElems
import Derived.StringKeys
import Derived.Sort.OwnSorted
set_option maxRecDepth 100000
set_option maxHeartbeats 8000000
namespace Go.Proofs.YtglncfkoohgdaaaGreatDoor
open Go.RowKit Go.Shelf
def jA (L:List (List UInt8 × Rat)) (u:List UInt8):Rat:=L.foldl (fun s x=>if x.1=u then x.2+s else s) 0
theorem Gh (L:List (List UInt8 × Rat)) (x:List UInt8 × Rat) (u:List UInt8):jA (L ++ [x]) u=if x.1=u then x.2+jA L u else jA L u:=by
 unfold jA
 rw [List.foldl_append]
 rfl
theorem Rj {u:List UInt8}:∀ {L:List (List UInt8 × Rat)},u∉L.map (·.1)→jA L u=0:=by
 have h:∀ (L:List (List UInt8 × Rat)) (s:Rat),u∉L.map (·.1)→L.foldl (fun s x=>if x.1=u then x.2+s else s) s=s:=by
  intro L
  induction L with
  | nil=>intro s _;rfl
  | cons x L ih =>
   intro s hu
   rw [List.map_cons,List.mem_cons,not_or] at hu
   rw [List.foldl_cons,if_neg (fun e=>hu.1 e.symm)]
   exact ih s hu.2
 intro L hL
 exact h L 0 hL
def txL (q:Rat):List UInt8:=(tx q).data.toList
structure MapU {H:Type} (D:DataW H) (L:List (List UInt8 × Rat)):Prop where
 map:Maps.IsMap D
 has:∀ u,Maps.has D (.string u)=decide (u∈L.map (·.1))
 at_:∀ u z,u∈L.map (·.1)→D.atKey (.string u) z=.lit (.string (txL (jA L u)))
theorem MapU.nil {H:Type}:MapU (.map []:DataW H) []:=⟨Maps.isMap_empty,fun _=>rfl,fun _ _ h=>absurd h List.not_mem_nil⟩
theorem MapU.put {H:Type} {D:DataW H} {L:List (List UInt8 × Rat)} (h:MapU D L) (x:List UInt8 × Rat):MapU (D.put (.string x.1) (.lit (.string (txL (jA (L ++ [x]) x.1))))) (L ++ [x]):=by
 refine ⟨?_,fun u=>?_,fun u z hu=>?_⟩
 ·obtain ⟨es,rfl⟩:=h.map
  exact ⟨_,rfl⟩
 ·by_cases e:u=x.1
  ·subst e
   rw [Maps.has_put_same (k:=.string x.1) h.map trivial]
   exact (decide_eq_true (by simp)).symm
  ·rw [Maps.has_put_other (fun k=>e (by cases k;rfl)),h.has]
   rw [decide_eq_decide]
   simp [e]
 ·by_cases e:u=x.1
  ·subst e
   exact Maps.atKey_put_same (k:=.string x.1) h.map trivial _ _
  ·rw [Maps.atKey_put_other (fun k=>e (by cases k;rfl))]
   rw [List.map_append,List.mem_append] at hu
   rw [h.at_ u z (hu.resolve_right (by simpa using e)),Gh,if_neg (fun k=>e k.symm)]
theorem VU (L:List (List UInt8 × Rat)) (x:List UInt8 × Rat):jA (L ++ [x]) x.1=if x.1∈L.map (·.1) then x.2+jA L x.1 else x.2:=by
 rw [Gh,if_pos rfl]
 split
 ·rfl
 ·rename_i h
  rw [Rj h,Rat.add_zero]
def dC (D:List nW):List (List UInt8 × Rat):=D.map fun b=>(b.u,jD b.pg)
structure AX (L A:List (List UInt8 × Rat)):Prop where
 I6:(A.map (·.1)).Pairwise fun x y=>bytesBefore x y=true
 mem:∀ u,u∈A.map (·.1)↔u∈L.map (·.1)
 sum:∀ a∈A,a.2=jA L a.1
theorem tL {L:List QP} (h4:L.length≤4) (hz:∀ p∈L,Q4 256 p.1∧Q4 256 p.2):(∀ k,k+2≤L.length→Fc 65536 16 (iU L k))∧Fc 65536 16 (jD L):=by
 have h:∀ k,k+2≤L.length→Fc 65536 16 (iU L k):=fun k hk =>
  (EU (B:=64) (Nx:=4) (Ny:=4) (fun p hp=>⟨kg (hz p hp).1,kg (hz p hp).2⟩) k hk).mono (by omega)
 refine ⟨h,?_⟩
 rcases Nat.lt_or_ge L.length 2 with h2 | h2
 ·unfold jD
  rw [show L.length-2=0 by omega]
  exact ⟨0,by simp,by unfold iU;simp⟩
 ·exact h _ (by omega)
structure K4 (b:nW):Prop where
 poly:Poly b.pg
 len:b.pg.length≤4
 q4:∀ p∈b.pg,Q4 256 p.1∧Q4 256 p.2
 unit:rF b.u
theorem NC {P:bQ} (hO:dm P) {k:Nat} {s:Stp} (hk:k+1<P.lg.length) (hs:s.k∈kinds) (hc:bF (ai P k) (ai P (k+1)) s.k s.i s.j=true):∀ x∈aC P k s,rF x.1.u:=by
 obtain ⟨sk,i,j⟩:=s
 unfold kinds at hs
 simp only [List.mem_cons,List.not_mem_nil,or_false] at hs
 have hl:=(hO.log k (by omega)).1.unit
 have hr:=(hO.log (k+1) hk).1.unit
 intro b hb
 rcases hs with rfl | rfl | rfl | rfl | rfl
 ·have hc1:i<(ai P k).length∧j<(ai P (k+1)).length:=by simpa [bF] using hc
  unfold aC at hb
  rw [if_pos rfl] at hb
  split at hb
  ·rw [List.mem_singleton] at hb
   rw [hb]
   exact hl i hc1.1
  ·rw [List.mem_cons,List.mem_singleton] at hb
   rcases hb with rfl | rfl
   ·exact hl i hc1.1
   ·exact hr j hc1.2
 ·have hc1:i<(ai P k).length:=by simpa [bF] using hc
  unfold aC at hb
  rw [if_neg (by simp),if_pos (by simp),List.mem_singleton] at hb
  rw [hb]
  exact hl i hc1
 ·have hc1:j<(ai P (k+1)).length:=by simpa [bF] using hc
  unfold aC at hb
  rw [if_neg (by simp),if_neg (by simp),List.mem_singleton] at hb
  rw [hb]
  exact hr j hc1
 ·have hc1:i<(ai P k).length:=by
   simp only [bF] at hc
   simp at hc
   exact hc.1
  unfold aC at hb
  rw [if_neg (by simp),if_pos (by simp),List.mem_singleton] at hb
  rw [hb]
  exact hl i hc1
 ·have hc1:j<(ai P (k+1)).length:=by
   simp only [bF] at hc
   simp at hc
   exact hc.1
  unfold aC at hb
  rw [if_neg (by simp),if_neg (by simp),List.mem_singleton] at hb
  rw [hb]
  exact hr j hc1
theorem aaC {P:bQ} (hO:dm P):∀ b∈j6 P,K4 b:=by
 intro b hb
 unfold j6 at hb
 obtain ⟨k,hk,hb⟩:=List.mem_flatMap.1 hb
 rw [List.mem_range] at hk
 have hk1:k+1<P.lg.length:=by have:=hO.n2;omega
 unfold pW at hb
 obtain ⟨s,hs,hb⟩:=List.mem_flatMap.1 hb
 obtain ⟨x,hx,rfl⟩:=List.mem_map.1 hb
 obtain ⟨i,hi,rfl⟩:=List.mem_iff_getElem.1 hs
 obtain ⟨h1,h2,h3,h4⟩:=oL hi
 rw [←jZ hi] at hx
 have hq:=Dy hO hk1 h1 h2 h3 h4 x hx
 exact ⟨CV h1 h2 (hO.I6 k hk1) (fun i hi=>((hO.log k (by omega)).1.pos i hi).2) (fun i hi=>((hO.log (k+1) hk1).1.pos i hi).2) x hx,hq.1,hq.2,NC hO hk1 h1 h2 x hx⟩
theorem DD {α β:Type} (f:α→List β) (n:Nat):∀ (L:List α),(∀ x∈L,(f x).length≤n)→(L.flatMap f).length≤n*L.length
 | [],_=>by simp
 | x :: L,h=>by
  rw [List.flatMap_cons,List.length_append,List.length_cons]
  have h1:=h x List.mem_cons_self
  have h2:=DD f n L (fun y hy=>h y (List.mem_cons_of_mem _ hy))
  rw [Nat.mul_succ]
  omega
theorem VV {P:bQ} (hO:dm P):(j6 P).length≤640:=by
 have h1:∀ k∈List.range (P.lg.length-1),(pW P k).length≤32:=fun k hk=>by
  rw [List.mem_range] at hk
  have h2:=DD (fun s=>(aC P k s).map (·.1)) 2 (aZ P k) (fun s _=>by rw [List.length_map];exact jM P k s)
  have h3:=xR hO (k:=k) (by omega)
  unfold pW
  omega
 have h2:=DD (pW P) 32 _ h1
 rw [List.length_range] at h2
 unfold j6
 have:=hO.n20
 omega
theorem aaD {u:List UInt8}:∀ {L:List (List UInt8 × Rat)},(∀ x∈L,Fc 65536 16 x.2)→Fc (65536*L.length) 16 (jA L u):=by
 have h:∀ (L:List (List UInt8 × Rat)) (s:Rat) (n:Nat),Fc n 16 s→(∀ x∈L,Fc 65536 16 x.2)→Fc (n+65536*L.length) 16 (L.foldl (fun s x=>if x.1=u then x.2+s else s) s):=by
  intro L
  induction L with
  | nil=>intro s n hs _;exact hs
  | cons x L ih =>
   intro s n hs hL
   rw [List.foldl_cons,List.length_cons]
   refine (ih _ (n+65536) ?_ (fun y hy=>hL y (List.mem_cons_of_mem _ hy))).mono (by omega)
   split
   ·exact ((hL x List.mem_cons_self).add hs).mono (by omega)
   ·exact hs.mono (by omega)
 intro L hL
 exact (h L 0 0 ⟨0,by simp,by simp⟩ hL).mono (by omega)
theorem VW {D:List nW} (h:∀ b∈D,K4 b):∀ x∈dC D,Fc 65536 16 x.2:=by
 intro x hx
 obtain ⟨b,hb,rfl⟩:=List.mem_map.1 hx
 exact (tL (h b hb).len (h b hb).q4).2
theorem IA {D:List nW} (h:∀ b∈D,K4 b) (hn:D.length≤640) (u:List UInt8):oz (jA (dC D) u):=by
 have h1:=aaD (u:=u) (VW h)
 have h2:(dC D).length=D.length:=List.length_map ..
 rw [h2] at h1
 exact (h1.mono (Nat.mul_le_mul_left _ hn)).okB (by decide) (by decide) (by decide)
end Go.Proofs.YtglncfkoohgdaaaGreatDoor
namespace Go.Proofs.YtglncfkoohgdaaaGreatDoor
open Go.Shelf
def ND:Go.Shelf.Ren:=⟨fun | 6=>64 | 15=>147 | 14=>146 | 28=>212 | 29=>213 | 20=>204 | 21=>205 | 22=>206 | 23=>207 | 24=>208 | 25=>209 | 26=>210 | 27=>211 | 46=>243 | 47=>244 | 48=>245 | 49=>246 | 50=>247 | 57=>271 | n=>n,fun | 22=>59 | 24=>64 | 25=>137 | 3=>3 | 39=>206 | 0=>0 | 53=>261 | 55=>263 | 4=>4 | 46=>255 | 45=>254 | 50=>149 | 5=>5 | 9=>9 | 66=>290 | 70=>294 | 76=>313 | 77=>190 | n=>n,fun | n=>n⟩
theorem ada:Go.Proofs.SlLaysF0.n6 Tryz.prog ND:={
 mixed:=by kernel_rfl,
 f6:=⟨Tryz.f64.name,by decide,Tryz.func64.trans (congrArg some (by kernel_rfl))⟩,
 f14:=⟨Tryz.f146.name,by decide,Tryz.func146.trans (congrArg some (by kernel_rfl))⟩,
 f15:=Tryz.func147.trans (congrArg some (by kernel_rfl)),
 f20:=⟨Tryz.f204.name,by decide,Tryz.func204.trans (congrArg some (by kernel_rfl))⟩,
 f21:=⟨Tryz.f205.name,by decide,Tryz.func205.trans (congrArg some (by kernel_rfl))⟩,
 f22:=⟨Tryz.f206.name,by decide,Tryz.func206.trans (congrArg some (by kernel_rfl))⟩,
 f23:=⟨Tryz.f207.name,by decide,Tryz.func207.trans (congrArg some (by kernel_rfl))⟩,
 f24:=⟨Tryz.f208.name,by decide,Tryz.func208.trans (congrArg some (by kernel_rfl))⟩,
 f25:=⟨Tryz.f209.name,by decide,Tryz.func209.trans (congrArg some (by kernel_rfl))⟩,
 f26:=⟨Tryz.f210.name,by decide,Tryz.func210.trans (congrArg some (by kernel_rfl))⟩,
 f27:=⟨Tryz.f211.name,by decide,Tryz.func211.trans (congrArg some (by kernel_rfl))⟩,
 f28:=Tryz.func212.trans (congrArg some (by kernel_rfl)),
 f29:=Tryz.func213.trans (congrArg some (by kernel_rfl)),
 f46:=⟨Tryz.f243.name,by decide,Tryz.func243.trans (congrArg some (by kernel_rfl))⟩,
 f47:=Tryz.func244.trans (congrArg some (by kernel_rfl)),
 f48:=Tryz.func245.trans (congrArg some (by kernel_rfl)),
 f49:=⟨Tryz.f246.name,by decide,Tryz.func246.trans (congrArg some (by kernel_rfl))⟩,
 f50:=⟨Tryz.f247.name,by decide,Tryz.func247.trans (congrArg some (by kernel_rfl))⟩,
 f57:=⟨Tryz.f271.name,by decide,Tryz.func271.trans (congrArg some (by kernel_rfl))⟩,
 t0:=Tryz.underlying0,
 a0:=Tryz.isAgg0,
 z0:=Tryz.sizeOf0,
 v0:=Tryz.zeroValue0,
 t3:=Tryz.underlying3,
 a3:=Tryz.isAgg3,
 z3:=Tryz.sizeOf3,
 v3:=Tryz.zeroValue3,
 t4:=Tryz.underlying4,
 a4:=Tryz.isAgg4,
 z4:=Tryz.sizeOf4,
 v4:=Tryz.zeroValue4,
 t5:=Tryz.underlying5,
 a5:=Tryz.isAgg5,
 z5:=Tryz.sizeOf5,
 v5:=Tryz.zeroValue5,
 t9:=Tryz.underlying9,
 a9:=Tryz.isAgg9,
 z9:=Tryz.sizeOf9,
 v9:=Tryz.zeroValue9,
 t22:=Tryz.underlying59,
 a22:=Tryz.isAgg59,
 z22:=Tryz.sizeOf59,
 v22:=Tryz.zeroValue59,
 t25:=Tryz.underlying137,
 a25:=Tryz.isAgg137,
 z25:=Tryz.sizeOf137,
 v25:=Tryz.zeroValue137,
 t39:=Tryz.underlying206,
 a39:=Tryz.isAgg206,
 z39:=Tryz.sizeOf206,
 v39:=Tryz.zeroValue206,
 t45:=Tryz.underlying254,
 a45:=Tryz.isAgg254,
 z45:=Tryz.sizeOf254,
 v45:=Tryz.zeroValue254,
 t46:=Tryz.underlying255,
 a46:=Tryz.isAgg255,
 z46:=Tryz.sizeOf255,
 v46:=Tryz.zeroValue255,
 t50:=Tryz.underlying149,
 a50:=Tryz.isAgg149,
 z50:=Tryz.sizeOf149,
 v50:=Tryz.zeroValue149,
 t53:=Tryz.underlying261,
 a53:=Tryz.isAgg261,
 z53:=Tryz.sizeOf261,
 v53:=Tryz.zeroValue261,
 t55:=Tryz.underlying263,
 a55:=Tryz.isAgg263,
 z55:=Tryz.sizeOf263,
 v55:=Tryz.zeroValue263,
 t66:=Tryz.underlying290,
 a66:=Tryz.isAgg290,
 z66:=Tryz.sizeOf290,
 v66:=Tryz.zeroValue290,
 t70:=Tryz.underlying294,
 a70:=Tryz.isAgg294,
 z70:=Tryz.sizeOf294,
 v70:=Tryz.zeroValue294,
 t76:=Tryz.underlying313,
 a76:=Tryz.isAgg313,
 z76:=Tryz.sizeOf313,
 v76:=Tryz.zeroValue313,
 t77:=Tryz.underlying190,
 a77:=Tryz.isAgg190,
 z77:=Tryz.sizeOf190,
 v77:=Tryz.zeroValue190 }
end Go.Proofs.YtglncfkoohgdaaaGreatDoor
namespace Go.Proofs.YtglncfkoohgdaaaGreatDoor
open Go.RowKit Go.Shelf Go.Sort Go.Lib Go.WideAt Go.WideShapes
open Go.Lib (decDigits itoa nDigits)
open Go.Lib (hid)
theorem Pk:∀ (a b:List UInt8),Lib.compareBytes a b<0↔bytesBefore a b=true
 | [],[]=>by simp [Lib.compareBytes,bytesBefore]
 | [],_ :: _=>by simp [Lib.compareBytes,bytesBefore]
 | _ :: _,[]=>by simp [Lib.compareBytes,bytesBefore]
 | x :: a,y :: b=>by
  unfold Lib.compareBytes bytesBefore
  by_cases h1:x<y
  ·simp [h1]
  ·rw [if_neg h1]
   by_cases h2:y<x
   ·have hne:x≠y:=fun e=>by subst e;exact UInt8.lt_irrefl _ h2
    simp [h1,h2,hne]
   ·have e:x=y:=UInt8.le_antisymm (UInt8.not_lt.1 h2) (UInt8.not_lt.1 h1)
    subst e
    rw [if_neg h2,Pk a b]
    simp
abbrev SH:=List UInt8 × Rat
instance:Inhabited SH:=⟨([],0)⟩
def encS (x:SH):List Value:=[.string (us x.1),.string (tx x.2)]
def cfS (x y:SH):Int:=Lib.compareBytes x.1 y.1
theorem ltS (x y:SH):ltOf cfS x y=bytesBefore x.1 y.1:=by
 rw [Bool.eq_iff_iff,←Pk]
 unfold ltOf cfS
 rw [decide_eq_true_eq]
theorem agx:SWO (ltOf cfS) where
 irrefl x:=by rw [ltS];exact bytes_irrefl _
 trans x y z h1 h2:=by rw [ltS] at *; exact bytes_trans _ _ _ h1 h2
 ntrans x y z h1 h2:=by
  rw [ltS] at *
  cases h3:bytesBefore x.1 z.1 with
  | false=>rfl
  | true =>
   by_cases e:x.1=y.1
   ·rw [e,h2] at h3;cases h3
   ·rcases bytes_total _ _ e with h | h
    ·rw [h] at h1;cases h1
    ·have:=bytes_trans _ _ _ h h3
     rw [h2] at this
     cases this
theorem Pm (u:List UInt8):(us u).data.toList=u:=by unfold us;rfl
theorem Rk (x y:SH) (w:World):Calls Tryz.prog 65 #[.agg #[.string (us x.1),.string (tx x.2)],.agg #[.string (us y.1),.string (tx y.2)]] w fun e w'=>e=.returned (.int .i64 (cfS x y))∧Below w.heap.size w w':=by
 obtain ⟨wA,aS⟩ : ∃ wA,wA=(w.alloc (Obj.cells #[.string (us x.1),.string (tx x.2)] 64)).alloc (Obj.cells #[.string (us y.1),.string (tx y.2)] 64):=⟨_,rfl⟩
 have SN:Below w.heap.size w wA:=by rw [aS];exact (ae _ _).trans ((ae _ _).mono (by simp))
 have HC:=hid (Tryz.strings_Compare (us x.1) (us y.1))
 rw [Pm,Pm] at HC
 generalize us x.1=u1 at *
 generalize us y.1=u2 at *
 generalize tx x.2=t1 at *
 generalize tx y.2=t2 at *
 go_enter Tryz.func65,Tryz.ntmps65
 go_wp2_with fail
 rw [←aS]
 clear aS
 refine (HC.out _).mono ?_
 rintro e w1 ⟨rfl,rfl⟩
 go_wp2
 go_ret
 exact ⟨rfl,SN⟩
theorem K5 (blk off cap:Nat) (d:Array SH) (w:World) (hblk:blk<w.heap.size) (hH:HoldsK encS 2 w blk off d) (hsz:d.size<4611686018427387904) :
  Calls Tryz.prog 64 #[.slice (some ⟨blk,off,none⟩) d.size cap,.func (.func 65) #[] #[]] w fun e w' =>
   e=.returned (.tuple #[])∧∃ d':Array SH,d'.size=d.size∧d'.toList.Perm d.toList∧(∀ i j,i<j→j<d'.size→bytesBefore d'[j]!.1 d'[i]!.1=false)∧HoldsK encS 2 w' blk off d'∧Below blk w w':=by
 have eg:∀ args w,(callFunc 65 args).run Tryz.prog w=.ok (.enter 65 args) w:=enters_of Tryz.func65 (by kernel_rfl) rfl
 have hcmp:CmpLays Tryz.prog 65 #[] encS 2 cfS blk off d.size w:=by
  intro m os dk hdk x y
  exact (Ac (Rk x y _) (fun e w' h=>⟨⟨_,h.1⟩,h.2⟩)).mono fun e w' h=>⟨h.1.1,h.2⟩
 have hcon:=AnyQ.slices_SortFunc ada 2 Tryz.isAgg64 Tryz.sizeOf64 encS (fun _=>rfl) (fun x v hv=>by simp [encS] at hv;rcases hv with rfl | rfl <;> rfl) cfS agx 65 #[] blk off cap d w eg hcmp hH hblk hsz
 refine Calls.mono hcon ?_
 rintro e w' ⟨he,d',n,os,hp,hs,rfl⟩
 refine ⟨he,d',hp.1,?_,?_,holdsK_sortWorldK encS 2 w blk off n d d' os hblk hH hp.1,ik encS 2 w blk off n d' os hblk⟩
 ·have h3:=hp.2.2
  have e1:(d'.extract 0 d.size)=d':=by rw [←hp.1];simp
  have e2:(d.extract 0 d.size)=d:=by simp
  rw [e1,e2] at h3
  exact h3
 ·intro i j hij hj
  have:=hs i j (Nat.zero_le _) hij (by rw [←hp.1];exact hj)
  rw [ltS] at this
  exact this
def Sd (x:SH):jh:=(us x.1,tx x.2)
theorem NF {w:World} {base g n cap:Nat} {L:List SH} (h:w.ownsRow base 64 2 (.slice (some ⟨g,0,none⟩) n cap) n (cellsS (L.map Sd))):HoldsK encS 2 w g 0 L.toArray:=by
 intro j hj
 rw [size_flatK] at hj
 have hj':j<L.length*2:=by simpa using hj
 have hi:j/2<L.length:=by omega
 have hi':j/2<(L.map Sd).length:=by simpa using hi
 have hm:j % 2<2:=Nat.mod_lt _ (by decide)
 have g0:=eQ (L.map Sd) (j/2) hi' (j % 2) hm
 obtain ⟨a1,a2,_⟩:=dH h rfl g0
 rw [get_flatK _ _ _ _ hj,Nat.zero_add]
 rw [show j/2*2+j % 2=j by omega] at a1 a2
 refine ⟨?_,a2⟩
 rw [a1]
 have e:L.toArray[j/2]! = L[j/2]:=by simp [hi]
 rw [e]
 rcases Nat.mod_two_eq_zero_or_one j with hm | hm
 ·simp [hm,encS,Sd]
 ·simp [hm,encS,Sd]
theorem Rl {w:World} {g n cap:Nat} {d:Array SH} (h:HoldsK encS 2 w g 0 d) (hn:n=d.size) (hc:n≤cap) (hm:cap≤maxLen) (hg:g<w.heap.size):jC w (.slice (some ⟨g,0,none⟩) n cap) (d.toList.map Sd):=by
 subst hn
 refine ⟨_,cap,by simp,by simpa using hc,hm,fun _=>⟨g,0,rfl,hg,fun i hi=>?_⟩⟩
 have hi':i<d.size:=by simpa using hi
 have h0:=h.cell hi' (show 0<2 by decide)
 have h1:=h.cell hi' (show 1<2 by decide)
 rw [Nat.zero_add] at h0 h1 ⊢
 have e:d[i]! = d[i]:=getElem!_pos d i hi'
 rw [e] at h0 h1
 simp only [List.getElem_map,Array.getElem_toList,Sd]
 exact ⟨h0.1,h1.1⟩
theorem aaE (f:Value) (w:World):Calls Tryz.prog 204 #[.slice none 0 0,.int .i64 0,.int .i64 0,f] w fun e w'=>e=.returned (.tuple #[])∧w'=w:=by
 go_enter Tryz.func204,Tryz.ntmps204
 go_wp2
 refine wp_loop_rounds 1 ?_
 rw [rounds_succ]
 go_wp2
 go_end0
 exact ⟨rfl,rfl⟩
theorem aaF (f:Value) (w:World):Calls Tryz.prog 146 #[.slice none 0 0,.int .i64 0,.int .i64 0,.int .i64 0,f] w fun e w'=>e=.returned (.tuple #[])∧w'=w:=by
 go_enter Tryz.func146,Tryz.ntmps146
 go_wp2
 refine wp_loop_rounds 1 ?_
 rw [rounds_succ]
 go_wp2_with fail
 refine (aaE f w).mono ?_
 rintro e w' ⟨rfl,rfl⟩
 go_wp2
 refine bodyPost_ret (results_none rfl _ _ _) rfl ?_
 exact ⟨rfl,rfl⟩
theorem Rm (f:Value) (w:World):Calls Tryz.prog 64 #[.slice none 0 0,f] w fun e w'=>e=.returned (.tuple #[])∧w'=w:=by
 go_enter Tryz.func64,Tryz.ntmps64
 go_wp2_with fail
 refine (Tryz.bits_Len 0 w (by decide) (by decide)).mono ?_
 rintro e w' ⟨rfl,rfl⟩
 go_wp2_with fail
 refine (aaF f w').mono ?_
 rintro e w2 ⟨rfl,rfl⟩
 go_wp2
 go_end0
 exact ⟨rfl,rfl⟩
end Go.Proofs.YtglncfkoohgdaaaGreatDoor
namespace Go.Proofs.YtglncfkoohgdaaaGreatDoor
open Go.RowKit Go.Shelf Go.Sort Go.Maps Go.WideMaps
open Go.Lib (decDigits itoa nDigits)
open Go.Lib (hid)
attribute [local go_sem] Oper.semAt_some
theorem ku {H:Type} {P:Program} (w:World) {ops:Array Oper} {rest:List Oper} {o:Oper} {a:Act} {Q:Exit→Act→World→Prop}
  (hg:o.guard=none) (m x:Operand) (t:TypeId) (hop:o.op=Op.lookup t m x true)
  (k e:TypeId) (K:Keyed P k) (ht:P.underlying t=some (.map k e)) (he:P.underlying e=some .string) (hz:(zeroValue e).run P w=.ok (.string ⟨#[]⟩) w) (b n:Nat) (D:DataW H)
  (hm:a.eval m=.map (some b)) (hown:w.ownsMap P k (plainElem P e) b n D) (key:Value) (kl:Lit) (hx:a.eval x=key) (hkey:keyOf P k key=some kl) (s:ByteArray) (hat:D.atKey kl (.lit (.string []))=.lit (.string s.data.toList))
  (hK:wpList P ops Q rest (a.put o.dst (.tuple #[.string s,.bool (Maps.has D kl)])) w) :
  wpList P ops Q (o :: rest) a w:=
 wpList_lookup_own_ok w hg m x t hop k e K ht (plainElem P e) hz (.lit (.string [])) [] (plainElem_string he (by decide)) b n D hm hown key kl hx hkey (fun v ps hv=>by
  obtain ⟨c,rfl,hc,_⟩:=plainElem_string_inv he hv
  have h1:=congrArg Prod.fst hc
  dsimp only at h1
  rw [hat] at h1
  simp only [DataW.lit.injEq,Lit.string.injEq] at h1
  obtain rfl:s=c:=by
   cases s;cases c
   simp only [ByteArray.mk.injEq]
   exact Array.toList_inj.1 h1
  exact hK)
theorem Ip.slice {w:World} {v:Value} {D:List (nW × Value)} (h:Ip w v D):∃ p c,v=.slice p D.length c∧D.length≤c∧c≤maxLen:=by
 obtain ⟨⟨p,c,h1,h2,h3,_⟩,_⟩:=h
 exact ⟨p,c,h1,h2,h3⟩
theorem Ip.at {w:World} {p:Option Addr} {n c:Nat} {D:List (nW × Value)} (h:Ip w (.slice p n c) D) {i:Nat} {x:nW × Value} (hx:D[i]?=some x):∃ b off,p=some ⟨b,off,none⟩∧b<w.heap.size ∧
  w.cell? ⟨b,off+i*3,none⟩=some (.int .i64 (x.1.k:Int))∧w.cell? ⟨b,off+i*3+1,none⟩=some (.string (us x.1.u))∧w.cell? ⟨b,off+i*3+2,none⟩=some x.2∧qC w x.2 x.1.pg:=by
 obtain ⟨hi,rfl⟩:=List.getElem?_eq_some_iff.1 hx
 obtain ⟨⟨p',c',h1,h2,h3,h4⟩,h5⟩:=h
 cases h1
 obtain ⟨b,off,k1,k2,k3⟩:=h4 (by omega)
 obtain ⟨m1,m2,m3⟩:=k3 i hi
 exact ⟨b,off,k1,k2,m1,m2,m3,h5 _ (List.getElem_mem hi)⟩
theorem NG {D:List (nW × Value)} {k:Nat} {x:nW × Value} (h:D[k]?=some x):dC ((D.take (k+1)).map (·.1))=dC ((D.take k).map (·.1)) ++ [(x.1.u,jD x.1.pg)]:=by
 unfold dC
 rw [List.take_add_one,h]
 simp
theorem aaG:SliceOf 59 64 (.agg #[.string ⟨#[]⟩,.string ⟨#[]⟩]) 2 32:=⟨Tryz.underlying59,by kernel_rfl,rfl,by decide⟩
theorem VX:Tryz.prog.underlying 132=some (.map 9 33):=Tryz.underlying132
theorem Pn (w:World):(zeroValue 33).run Tryz.prog w=.ok (.string ⟨#[]⟩) w:=by kernel_rfl
theorem VY {u:List UInt8} (h:rF u):(us u).size≤maxLen:=by
 rcases h with rfl | ⟨c,rfl,_⟩
 ·decide
 ·show 1≤maxLen
  decide
theorem aaH {u:List UInt8} (h:rF u):keyOf Tryz.prog 9 (.string (us u))=some (.string u):=keyOf_string_mk Tryz.underlying9 (VY h)
theorem NH (O:List SH) (x:SH):cellsS ((O ++ [x]).map Sd)=cellsS (O.map Sd) ++ [.string (us x.1),.string (tx x.2)]:=by
 rw [List.map_append,List.map_singleton,zQ]
 rfl
theorem Ag {H:Type} {D:DataW H} {left:Lit→Bool} {LL O A:List SH} (hC:Collected D left (O.map (·.1))) (hl:∀ kl,left kl=false) (hmu:MapU D LL) (hsum:∀ x∈O,x.2=jA LL x.1) (hp:A.Perm O)
  (hs:∀ i j,i<j→j<A.length→bytesBefore A[j]!.1 A[i]!.1=false):AX LL A:=by
 have hnd:(A.map (·.1)).Nodup:=(hp.map (·.1)).nodup_iff.2 hC.1
 refine ⟨?_,fun u=>?_,fun a ha=>hsum a (hp.mem_iff.1 ha)⟩
 ·rw [List.pairwise_iff_getElem]
  intro i j hi hj hij
  rw [List.length_map] at hi hj
  have h1:=hs i j hij hj
  rw [getElem!_pos A j hj,getElem!_pos A i hi] at h1
  rw [List.getElem_map,List.getElem_map]
  have hne:A[i].1≠A[j].1:=fun e=>by
   have:=(List.pairwise_iff_getElem.1 hnd) i j (by rw [List.length_map];exact hi) (by rw [List.length_map];exact hj) hij
   rw [List.getElem_map,List.getElem_map] at this
   exact this e
  rcases WideAt.bytes_total _ _ hne with h | h
  ·exact h
  ·rw [h1] at h;cases h
 ·rw [(hp.map (·.1)).mem_iff,hC.2 u,hmu.has,hl]
  simp
theorem aaI (x:ByteArray):us x.data.toList=x:=by cases x;rfl
theorem cell_two_new (w:World) (a b:Value) (t:TypeId):∀ (j:Nat) (u:Value),[a,b][j]?=some u→(w.alloc (.cells #[a,b] t)).cell? ((⟨w.heap.size,0,none⟩ : Addr).add j)=some u:=by
 intro j u hj
 rw [sO,World.cell?_alloc_new]
 simpa using hj
theorem VZ {w:World} (vg va vt:Value) (P:bQ) (hO:dm P) (hP:l9 w vg va vt P) (hw:Good w) :
  Calls Tryz.prog 21 #[iX vg va vt P.cs] w fun e w'=>∃ v A,e=.returned (.tuple #[v,.int .i64 0])∧AX (dC (j6 P)) A∧jC w' v (A.map Sd)∧Below w.heap.size w w':=by
 have uE:=hid (fun W' (hb:Below w.heap.size w W')=>Q8 vg va vt P hO (hP.below hb) (hw.below hb))
 have N7:=hid (aaC hO)
 have Eu:=hid (VV hO)
 generalize j6 P=BQ at *
 obtain ⟨pg,cg,rfl,hcg,jK⟩:=hP.g.slice
 obtain ⟨pa,ca,rfl,ET,ma⟩:=hP.a.slice
 obtain ⟨oQ,ct,rfl,hct,mf⟩:=hP.t.slice
 have xE:=hO.n20
 unfold maxLen at jK ma mf
 unfold iX at *
 clear hO hP
 generalize tx P.cs.ch=t1 at *
 generalize tx P.cs.mi=t2 at *
 generalize tx P.cs.ga=t3 at *
 generalize tx P.cs.re=t4 at *
 generalize (P.xs.map tx).length=na at *
 generalize (P.tp.map tx).length=nt at *
 generalize P.lg.length=ng at *
 have hmm:=@run_makeMap Tryz.prog
 go_enter Tryz.func21,Tryz.ntmps21
 go_upto_region 1 with fail
 obtain ⟨wP,bX⟩ : ∃ wP,wP=w.alloc (Obj.cells #[.slice pg ng cg,.slice pa na ca,.slice oQ nt ct,.string t1,.string t2,.string t3,.string t4] 37):=⟨_,rfl⟩
 have eT:Below w.heap.size w wP:=by rw [bX];exact ae _ _
 have hpq:wP.heap[w.heap.size]?=some (.cells #[.slice pg ng cg,.slice pa na ca,.slice oQ nt ct,.string t1,.string t2,.string t3,.string t4] 37 (0,0)):=by rw [bX];exact World.alloc_heap_new _ _
 rw [←bX]
 clear bX
 obtain ⟨p0,p1,p2,p3,p4,p5,p6⟩:=au hpq
 have uH:=hid eT
 clear hpq eT
 go_wp2_with fail
 refine (uE.out wP uH.out).mono ?_
 rintro e w1 ⟨v,D,rfl,hD,gU,hb1⟩
 have HB1:=hid (uH.out.trans (hb1.mono uH.out.size))
 obtain ⟨pl,cl,rfl,hcl,gZ⟩:=gU.slice
 unfold maxLen at gZ
 have HL1:=hid gU
 have hDn:D.length≤640:=by have:=Eu.out;rw [←hD,List.length_map] at this;exact this
 have HDM:=hid (show ∀ x∈D,K4 x.1 from fun x hx=>N7.out _ (by rw [←hD];exact List.mem_map_of_mem hx))
 have HDQ:=hid hD
 generalize hn:D.length=n at *
 have HN:=hid hn
 clear gU hb1 p0 p1 p2 p3 p4 p5 p6 uE N7 Eu hD hn
 go_wp2_with fail
 have HG1:=hid (hw.below HB1.out)
 have HG0:=hid (ae w1 (.map #[] 0))
 go_loopw [2,3,8,9,10,11,12,29] (fun r2 r3 _ _ _ _ _ iv wr=>∃ (k:Nat) (Dm:DataW Unit),k≤n∧iv=.int .i64 (k:Int)∧r2=.slice none 0 0∧r3=.int .i64 0∧wr.ownsMap Tryz.prog 9 (plainElem Tryz.prog 33) w1.heap.size k Dm∧MapU Dm (dC ((D.take k).map (·.1)))∧Below w1.heap.size w1 wr) (fun _ _ _ _ _ _ _ iv _=>n-(intOf iv).toNat)
 case atStart=>exact ⟨0,.map [],Nat.zero_le _,rfl,rfl,rfl,World.ownsMap_made _ _ _ _,MapU.nil,HG0.out⟩
 case round =>
  obtain ⟨k,Dm,hkn,rfl,rfl,rfl,hown,hmu,hbr⟩:=hrel
  by_cases hk:k<n
  ·have kn:decide ((k:Int)<(n:Int))=true:=decide_eq_true (by omega)
   have Jc:decide (k<n)=true:=decide_eq_true hk
   have i1:(0:Int)≤(k:Int):=by omega
   have i2:(k:Int)<(n:Int):=by omega
   have w5:IntKind.i64.wrap ((k:Int)+1)=(k:Int)+1:=IntWalk.i64_in _ (by omega)
   obtain ⟨⟨bd,vx⟩,hx⟩ : ∃ x,D[k]?=some x:=⟨_,List.getElem?_eq_getElem (by rw [HN.out];exact hk)⟩
   obtain ⟨b,off,rfl,hbl,c0,c1,c2,aaJ⟩:=(HL1.out.below hbr).at hx
   dsimp only at c0 c1 c2 aaJ
   have hok:K4 bd:=HDM.out (bd,vx) (List.mem_of_getElem? hx)
   have HSU:=hid (NG hx)
   dsimp only at HSU
   obtain ⟨R8,R9,rfl,aar,KV⟩:=aaJ.1.slice
   unfold maxLen at KV
   obtain ⟨wB,iy⟩ : ∃ wB,wB=wr.alloc (Obj.cells #[.int .i64 (bd.k:Int),.string (us bd.u),.slice R8 bd.pg.length R9] 46):=⟨_,rfl⟩
   obtain ⟨il,lB,b0,b1,b2⟩:=aY iy
   have hcB:wB.heap[wr.heap.size]?=some (.cells #[.int .i64 (bd.k:Int),.string (us bd.u),.slice R8 bd.pg.length R9] 46 (0,0)):=by rw [iy];exact World.alloc_heap_new _ _
   have xJ:=hid iy
   have dY:=hid il
   have HCB:=hid hcB
   have HAR:=hid (aac (.slice R8 bd.pg.length R9) bd.pg hok.poly (Nat.le_trans hok.len (by decide)) (fun p hp=>⟨kg (hok.q4 p hp).1,kg (hok.q4 p hp).2⟩) (fun j hj=>(((tL hok.len hok.q4).1 j hj).okB (by decide) (by decide) (by decide)).sz.mono (by decide)) ((tL hok.len hok.q4).2.okB (by decide) (by decide) (by decide)) wB (HG1.out.below (hbr.trans (il.mono hbr.size))) (jC.below aaJ.1 il))
   have Mi:=hid (show oz (jD bd.pg) from (tL hok.len hok.q4).2.okB (by decide) (by decide) (by decide))
   have mF:=hid (show ∀ u,oz (jA (dC ((D.take k).map (·.1))) u) from fun u=>IA (fun b hb=>by
    obtain ⟨x,hx,rfl⟩:=List.mem_map.1 hb
    exact HDM.out x (List.mem_of_mem_take hx)) (by rw [List.length_map,List.length_take];have:=HN.out;omega) u)
   have hkey:=aaH hok.unit
   have HMU:=hid (show MapU (Dm.put (.string bd.u) (.lit (.string (txL (jA (dC ((D.take k).map (·.1)) ++ [(bd.u,jD bd.pg)]) bd.u))))) (dC ((D.take k).map (·.1)) ++ [(bd.u,jD bd.pg)]) from hmu.put (bd.u,jD bd.pg))
   have Rc:=hid (VU (dC ((D.take k).map (·.1))) (bd.u,jD bd.pg))
   have HSV:=hid (show (tx (jA (dC ((D.take k).map (·.1)) ++ [(bd.u,jD bd.pg)]) bd.u)).size≤maxLen by
    have h1:=HSU.out
    rw [←h1]
    have h2:=(IA (D:=(D.take (k+1)).map (·.1)) (fun b hb=>by
     obtain ⟨x,hx,rfl⟩:=List.mem_map.1 hb
     exact HDM.out x (List.mem_of_mem_take hx)) (by rw [List.length_map,List.length_take];have:=HN.out;omega) bd.u).siz (n:=402)
    exact Nat.le_trans h2 (by decide))
   dsimp only at Rc
   have HB0:=hid hbr
   have HOW:=hid hown
   have Sg:=hid hmu
   have hmax:k<maxLen:=by unfold maxLen;omega
   generalize dC ((D.take k).map (·.1))=LL at *
   generalize DF:bd.pg.length=npl at *
   generalize jD bd.pg=ar at *
   generalize bd.u=u at *
   generalize hus:us u=su at *
   generalize RH:tx ar=ta at *
   have HTA:=hid RH
   unfold RV at HAR
   clear aaJ hok hx iy il hcB hbr hown hmu DF hus RH
   go_upto_region 8 with fail
   rw [←xJ.out]
   clear c0 c1 c2
   go_wp2_with fail
   refine HAR.out.mono ?_
   rintro e w5 ⟨rfl,hb5⟩
   have hc5:=(hb5.block _ (aa HCB.out)).trans HCB.out
   obtain ⟨b0,b1,b2⟩:=az hc5
   have HC5:=hid hc5
   have ze:=hid (HB0.out.trans ((dY.out.trans (hb5.mono dY.out.size)).mono HB0.out.size))
   have HO5:=hid (HOW.out.kept (jd none (dY.out.trans (hb5.mono dY.out.size))) (by simp))
   clear hb5 hc5 lB
   by_cases hu:u∈LL.map (·.1)
   ·have hhas:Maps.has Dm (.string u)=true:=by rw [Sg.out.has];exact decide_eq_true hu
    have HAD:=hid (fun w' (hg:Good w')=>uz ar (jA LL u) (Mi.out.sz.mono (by decide)) ((mF.out u).sz.mono (by decide)) w' hg)
    rw [HTA.out] at HAD
    unfold RV at HAD
    have HQ:=Rc.out
    rw [if_pos hu] at HQ
    rw [HQ] at HSV HMU
    obtain ⟨told,hto⟩ : ∃ t,t=tx (jA LL u):=⟨_,rfl⟩
    obtain ⟨agy,htn⟩ : ∃ t,t=tx (ar+jA LL u):=⟨_,rfl⟩
    have hat:Dm.atKey (.string u) (.lit (.string []))=.lit (.string told.data.toList):=by rw [hto];exact Sg.out.at_ u _ hu
    have HTN:=hid (show agy.data.toList=txL (ar+jA LL u) by rw [htn];rfl)
    rw [←htn] at HAD HSV
    rw [←hto] at HAD
    clear HQ hto htn
    go_wp2_with (at_lookup;refine ku _ rfl _ _ 132 rfl 9 33 (string_keyed Tryz.underlying9) VX Tryz.underlying33 (Pn _) w1.heap.size k Dm rfl HO5.out _ _ rfl hkey told hat ?_)
    refine (HAD.out w5 (HG1.out.below ze.out)).mono ?_
    rintro e w6 ⟨rfl,hb6⟩
    have hc6:=(hb6.block _ (aa HC5.out)).trans HC5.out
    obtain ⟨d0,d1,d2⟩:=az hc6
    have Nz:=hid (ze.out.trans (hb6.mono ze.out.size))
    have HO6:=hid (HO5.out.kept (jd none hb6) (by simp))
    clear hb6 hc6 b0 b1 b2
    go_wp2_with (at_mapUpdate;refine wpList_mapUpdate_own _ rfl _ _ _ 132 rfl 9 33 (string_keyed Tryz.underlying9) VX _ w1.heap.size k Dm rfl HO6.out hmax _ _ _ rfl rfl hkey _ [] (plainElem_string Tryz.underlying33 HSV.out) ?_;intro w7 Ad hg7)
    refine ⟨⟨k+1,_,hk,aA k,rfl,rfl,Ad,by rw [HSU.out,HTN.out];exact HMU.out,Nz.out.grown hg7 Nz.out.size (fun j hj=>by cases hj;exact Nat.le_refl _)⟩,?_⟩
    show n-((k:Int)+1).toNat<n-((k:Int)).toNat
    omega
   ·have hhas:Maps.has Dm (.string u)=false:=by rw [Sg.out.has];exact decide_eq_false hu
    have hat:Dm.atKey (.string u) (.lit (.string []))=.lit (.string (⟨#[]⟩ : ByteArray).data.toList):=atKey_of_not_has hhas _
    have HQ:=Rc.out
    rw [if_neg hu] at HQ
    rw [HQ] at HSV HMU
    rw [HTA.out] at HSV
    have HTN:=hid (show ta.data.toList=txL ar by rw [←HTA.out];rfl)
    clear HQ
    go_wp2_with (first | (at_lookup;refine ku _ rfl _ _ 132 rfl 9 33 (string_keyed Tryz.underlying9) VX Tryz.underlying33 (Pn _) w1.heap.size k Dm rfl HO5.out _ _ rfl hkey ⟨#[]⟩ hat ?_) | (at_mapUpdate;refine wpList_mapUpdate_own _ rfl _ _ _ 132 rfl 9 33 (string_keyed Tryz.underlying9) VX _ w1.heap.size k Dm rfl HO5.out hmax _ _ _ rfl rfl hkey _ [] (plainElem_string Tryz.underlying33 HSV.out) ?_;intro w7 Ad hg7))
    refine ⟨⟨k+1,_,hk,aA k,rfl,rfl,Ad,by rw [HSU.out,HTN.out];exact HMU.out,ze.out.grown hg7 ze.out.size (fun j hj=>by cases hj;exact Nat.le_refl _)⟩,?_⟩
    show n-((k:Int)+1).toNat<n-((k:Int)).toNat
    omega
  ·obtain rfl:k=n:=by omega
   have hLL:dC ((D.take k).map (·.1))=dC BQ:=by rw [←HN.out,List.take_length,HDQ.out]
   rw [hLL] at hmu
   have Sg:=hid hmu
   have mF:=hid (show ∀ u,oz (jA (dC BQ) u) from fun u=>by
    rw [←HDQ.out]
    exact IA (fun b hb=>by
     obtain ⟨x,hx,rfl⟩:=List.mem_map.1 hb
     exact HDM.out x hx) (by rw [List.length_map,HN.out];exact hDn) u)
   have HSL:=hid hown.size_le
   have HDN:=hid hDn
   have sZ:=hid hbr
   have HOW:=hid hown
   generalize hLQ:dC BQ=LL at *
   have HLQ:=hid hLQ
   clear hLQ
   clear hLL hmu hbr hown
   have kn:decide ((k:Int)<(k:Int))=false:=decide_eq_false (by omega)
   generalize wr=wO at *
   go_wp2_with (at_range;refine wpList_range_own _ rfl _ 132 rfl 9 33 (string_keyed Tryz.underlying9) VX _ w1.heap.size k Dm rfl HOW.out ?_;intro w2 hrg0 hg0 hs0)
   have HR0:=hid hrg0
   have HB2:=hid ((Below.refl wO.heap.size wO).grown hg0 (Nat.le_refl _) (fun j hj=>by cases hj))
   have HLT:=hid (show w1.heap.size<wO.heap.size from HOW.out.lt)
   clear hrg0 hg0 hs0
   go_frame
   go_loopw [2,3,13,14,15,16,17] (fun r2 r3 o _ _ _ _ wq=>∃ (left:Lit→Bool) (cnt:Nat) (O:List SH),r2=.slice none 0 0∧r3=.int .i64 0∧wq.ranges Tryz.prog 9 (plainElem Tryz.prog 33) w1.heap.size wO.heap.size k Dm left cnt∧O.length+cnt≤k∧wq.ownsRow wO.heap.size 64 2 o O.length (cellsS (O.map Sd))∧Collected Dm left (O.map (·.1))∧(∀ x∈O,x.2=jA LL x.1)∧Below wO.heap.size wO wq) (fun _ _ _ _ _ _ _ wq=>wq.rangeLeft w1.heap.size wO.heap.size)
   case atStart=>exact ⟨_,_,[],rfl,rfl,HR0.out,by simpa using HSL.out,World.ownsRow_nil _ _ _ _,Collected.start Dm,fun x hx=>absurd hx List.not_mem_nil,HB2.out⟩
   case round =>
    obtain ⟨left,cnt,O,rfl,rfl,hrg,hcn,hrow,hC,hsum,hbq⟩:=hrel
    have HC:=hid hC
    have adb:=hid hsum
    have R7:=hid hbq
    have HRW:=hid hrow
    have HRG:=hid hrg
    clear hC hsum hbq
    go_wp2_with (at_next;refine wpList_next_ranges _ rfl _ rfl 9 (string_keyed Tryz.underlying9) (plainElem Tryz.prog 33) Value.string Value.string (fun key kl hk=>Maps.keyOf_string_inv Tryz.underlying9 hk) (fun v y hv=>by obtain ⟨c,rfl,_⟩:=plainElem_string_inv Tryz.underlying33 hv;exact ⟨c,rfl⟩) w1.heap.size wO.heap.size k _ _ _ rfl hrg ?_ ?_)
    ·intro hc0 hl0
     have HL0:=hid hl0
     rcases hrow.2 with ⟨rfl,h0⟩ | ⟨g,cap,cur,rfl,hbase,hbk,h1,h2,h3,h4⟩
     ·have hO:O=[]:=List.length_eq_zero_iff.1 h0
      subst hO
      go_wp2_with fail
      refine (Rm _ _).mono ?_
      rintro e w4 ⟨rfl,rfl⟩
      go_wp2
      refine bodyPost_ret (v:=.tuple #[.slice none 0 0,.int .i64 0]) (by simp [results,Tryz.results21,go_sem]) rfl ?_
      exact ⟨_,[],rfl,by rw [HLQ.out];exact Ag HC.out HL0.out Sg.out adb.out (List.Perm.refl _) (fun i j hij hj=>absurd hj (Nat.not_lt_zero _)),⟨none,0,rfl,Nat.le_refl _,Nat.zero_le _,fun h=>absurd h (Nat.lt_irrefl _)⟩,HB1.out.trans ((sZ.out.trans (R7.out.mono sZ.out.size)).mono HB1.out.size)⟩
     ·have hgl:=aa hbk
      have U2:=hid (K5 g 0 cap O.toArray wr hgl (NF hrow) (by have:=HDN.out;simp;omega))
      rw [List.size_toArray] at U2
      generalize hno:O.length=no at *
      have Qc:=hid hno
      unfold maxLen at h2
      clear hno h3 h4 hrow hrg
      go_wp2_with fail
      refine U2.out.mono ?_
      rintro e w4 ⟨rfl,d,hd1,hd2,hd3,hd4,hb4⟩
      have FB:=hid (Rl (n:=no) (cap:=cap) hd4 hd1.symm h1 h2 (Nat.lt_of_lt_of_le hgl hb4.size))
      have Po:=hid (R7.out.trans (hb4.mono hbase))
      have HPE:=hid (And.intro hd2 hd3)
      clear hd1 hd2 hd3 hd4 hb4
      go_wp2
      refine bodyPost_ret (v:=.tuple #[.slice (some ⟨g,0,none⟩) no cap,.int .i64 0]) (by simp [results,Tryz.results21,go_sem]) rfl ?_
      refine ⟨_,d.toList,rfl,HLQ.out.symm ▸ Ag HC.out HL0.out Sg.out adb.out (by simpa using HPE.out.1) (fun i j hij hj=>?_),FB.out,HB1.out.trans ((sZ.out.trans (Po.out.mono sZ.out.size)).mono HB1.out.size)⟩
      have hj':j<d.size:=by simpa using hj
      have:=HPE.out.2 i j hij hj'
      rw [getElem!_pos d j hj',getElem!_pos d i (by omega)] at this
      rw [getElem!_pos d.toList j hj,getElem!_pos d.toList i (by omega),Array.getElem_toList,Array.getElem_toList]
      exact this
    ·intro x c kl yd yp w3 cnt3 hkey hlk hv hat hrg3 hlt hg3 hs3 hen
     have hkl:kl=.string x.data.toList:=by
      obtain ⟨s,e1,e2,_⟩:=string_of_keyOf Tryz.underlying9 hkey
      cases e1
      exact e2
     have hyd:yd=.lit (.string c.data.toList):=by
      obtain ⟨s,e1,e2,_⟩:=plainElem_string_inv Tryz.underlying33 hv
      cases e1
      exact congrArg Prod.fst e2
     have hhas:=has_true_of_atKey hat
     rw [hkl] at hhas hat hlk
     rw [hyd] at hat
     rw [Sg.out.has] at hhas
     have hu:=of_decide_eq_true hhas
     have hc:c.data.toList=txL (jA LL x.data.toList):=by
      have h1:=(hat .nil).symm.trans (Sg.out.at_ x.data.toList .nil hu)
      simpa using h1
     have hc2:c=tx (jA LL x.data.toList):=by
      unfold txL at hc
      cases c
      exact congrArg ByteArray.mk (Array.toList_inj.1 hc)
     have HNU:=hid (fun w' (hg:Good w')=>FD (jA LL x.data.toList) (mF.out _) w' hg)
     unfold RV at HNU
     rw [←hc2] at HNU
     have YZ:=hid (HC.out.step hlk hat)
     have HSH:=hid (show [Value.string x,.string c]=[.string (us x.data.toList),.string (tx (jA LL x.data.toList))] by rw [aaI,←hc2])
     have HKL:=hid hkl
     have hb3:Below wO.heap.size wO w3:=R7.out.grown hg3 R7.out.size (fun j hj=>by cases hj;exact Nat.le_refl _)
     have hrow3:=hrow.kept hg3 (.inr (row_ne_iter hrow hrg).symm)
     have hne1:=row_ne_low hrow HLT.out
     have hne2:=row_ne_iter hrow hrg
     have HB3:=hid hb3
     have agz:=hid hrow3
     have agA:=hid hrg3
     have agB:=hid hlt
     generalize hno:O.length=no at *
     have Qc:=hid hno
     clear hkl hyd hhas hu hc hc2 hkey hlk hv hat hg3 hs3 hb3 hrow3 hrow hrg hrg3 hno
     obtain ⟨i0,hii,hz0,hz1,hz2⟩:=info_parts aaG.info
     go_wp2_with fail
     refine (HNU.out w3 (HG1.out.below (sZ.out.trans (HB3.out.mono sZ.out.size)))).mono ?_
     rintro e w4 ⟨rfl,hb4⟩
     have hrow4:=lZ agz.out hb4
     have Po:=hid (HB3.out.trans (hb4.mono HB3.out.size))
     have hs4:=Po.out.size
     have agC:=hid (agA.out.kept (jd none hb4) (by simp) (by simp))
     clear hb4
     go_wp2_with (at_builtin;refine wpList_append_own _ rfl _ _ 59 rfl wO.heap.size 64 i0 (.agg #[.string ⟨#[]⟩,.string ⟨#[]⟩]) 2 32 aaG.ht hii hz0 hz1 hz2 aaG.hzs aaG.hsz _ no _ rfl (hrow4.alloc _) ⟨w4.heap.size,0,none⟩ 1 1 [.string x,.string c] rfl rfl (cell_two_new _ _ _ _) (by simp [Value.oneCell']) (by unfold maxLen;omega) (by omega) (by simpa using Nat.le_succ_of_le hs4) ?_;intro v6 w6 hown6 hg6 aeO;have agD:=hid hown6;have HG6:=hid hg6;clear hown6 hg6 aeO)
     have aeP:=(agC.out.alloc _).kept HG6.out hne1 hne2
     refine ⟨⟨_,cnt3,O ++ [(x.data.toList,jA LL x.data.toList)],rfl,rfl,HKL.out ▸ aeP,by rw [List.length_append,Qc.out];simp;omega,?_,?_,?_,?_⟩,?_⟩
     ·rw [List.length_append,Qc.out,NH]
      dsimp only
      rw [←HSH.out]
      exact agD.out
     ·rw [List.map_append]
      exact YZ.out
     ·intro y hy
      rcases List.mem_append.1 hy with hy | hy
      ·exact adb.out y hy
      ·rw [List.mem_singleton] at hy
       rw [hy]
     ·have h7:=Po.out.trans ((ae w4 (Obj.cells #[.string x,.string c] 64)).mono Po.out.size)
      exact h7.grown HG6.out h7.size (fun j hj=>(hrow4.lt j hj).1)
     ·rw [aeP.left_eq,HRG.out.left_eq]
      exact agB.out
end Go.Proofs.YtglncfkoohgdaaaGreatDoor
