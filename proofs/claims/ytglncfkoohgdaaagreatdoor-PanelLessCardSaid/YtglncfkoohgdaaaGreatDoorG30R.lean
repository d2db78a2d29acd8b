import Derived.Test.YtglncfkoohgdaaaGreatDoorG16R
import Derived.Test.YtglncfkoohgdaaaGreatDoorHul1R
import Derived.Maps.OwnIn
import Derived.Sort.KeysCollected
import Derived.Test.YtglncfkoohgdaaaGreatDoorTxR
import Derived.Shelf.SlGeneric
import Derived.Shelf.SlSortCmp.WholeK
import Derived.Test.YtglncfkoohgdaaaGreatDoorT9R
import Derived.Test.YtglncfkoohgdaaaGreatDoorShelfZ
import Derived.Maps.RangeWalk
import Derived.Maps.StringElems
import Derived.StringKeys
import Derived.Sort.OwnSorted
set_option maxRecDepth 100000
set_option maxHeartbeats 8000000
namespace Go.Proofs.YtglncfkoohgdaaaGreatDoor
open Go.RowKit Go.Shelf
def jA (L:List (List UInt8 × Rat)) (u:List UInt8):Rat:=L.foldl (fun s x=>if x.1=u then x.2+s else s) 0
theorem FY (L:List (List UInt8 × Rat)) (x:List UInt8 × Rat) (u:List UInt8):jA (L ++ [x]) u=if x.1=u then x.2+jA L u else jA L u:=by
 unfold jA
 rw [List.foldl_append]
 rfl
theorem Q9 {u:List UInt8}:∀ {L:List (List UInt8 × Rat)},u∉L.map (·.1)→jA L u=0:=by
 have h:∀ (L:List (List UInt8 × Rat)) (s:Rat),u∉L.map (·.1)→L.foldl (fun s x=>if x.1=u then x.2+s else s) s=s:=by
  intro L
  induction L with
  | nil=>intro s _;rfl
  | cons x L ih =>
   intro s hu
   rw [List.map_cons,List.mem_cons,not_or] at hu
   rw [List.foldl_cons,if_neg (fun e=>hu.1 e.symm)]
   exact ih s hu.2
 intro L hL
 exact h L 0 hL
def txL (q:Rat):List UInt8:=(tx q).data.toList
structure MapU {H:Type} (D:DataW H) (L:List (List UInt8 × Rat)):Prop where
 map:Maps.IsMap D
 has:∀ u,Maps.has D (.string u)=decide (u∈L.map (·.1))
 at_:∀ u z,u∈L.map (·.1)→D.atKey (.string u) z=.lit (.string (txL (jA L u)))
theorem MapU.nil {H:Type}:MapU (.map []:DataW H) []:=⟨Maps.isMap_empty,fun _=>rfl,fun _ _ h=>absurd h List.not_mem_nil⟩
theorem MapU.put {H:Type} {D:DataW H} {L:List (List UInt8 × Rat)} (h:MapU D L) (x:List UInt8 × Rat):MapU (D.put (.string x.1) (.lit (.string (txL (jA (L ++ [x]) x.1))))) (L ++ [x]):=by
 refine ⟨?_,fun u=>?_,fun u z hu=>?_⟩
 ·obtain ⟨es,rfl⟩:=h.map
  exact ⟨_,rfl⟩
 ·by_cases e:u=x.1
  ·subst e
   rw [Maps.has_put_same (k:=.string x.1) h.map trivial]
   exact (decide_eq_true (by simp)).symm
  ·rw [Maps.has_put_other (fun k=>e (by cases k;rfl)),h.has]
   rw [decide_eq_decide]
   simp [e]
 ·by_cases e:u=x.1
  ·subst e
   exact Maps.atKey_put_same (k:=.string x.1) h.map trivial _ _
  ·rw [Maps.atKey_put_other (fun k=>e (by cases k;rfl))]
   rw [List.map_append,List.mem_append] at hu
   rw [h.at_ u z (hu.resolve_right (by simpa using e)),FY,if_neg (fun k=>e k.symm)]
theorem VE (L:List (List UInt8 × Rat)) (x:List UInt8 × Rat):jA (L ++ [x]) x.1=if x.1∈L.map (·.1) then x.2+jA L x.1 else x.2:=by
 rw [FY,if_pos rfl]
 split
 ·rfl
 ·rename_i h
  rw [Q9 h,Rat.add_zero]
def dA (D:List lH):List (List UInt8 × Rat):=D.map fun b=>(b.u,jC b.pg)
structure AR (L A:List (List UInt8 × Rat)):Prop where
 GG:(A.map (·.1)).Pairwise fun x y=>bytesBefore x y=true
 mem:∀ u,u∈A.map (·.1)↔u∈L.map (·.1)
 sum:∀ a∈A,a.2=jA L a.1
theorem sQ {L:List QP} (h4:L.length≤4) (hz:∀ p∈L,Q4 256 p.1∧Q4 256 p.2):(∀ k,k+2≤L.length→Fc 65536 16 (iT L k))∧Fc 65536 16 (jC L):=by
 have h:∀ k,k+2≤L.length→Fc 65536 16 (iT L k):=fun k hk =>
  (EJ (B:=64) (Nx:=4) (Ny:=4) (fun p hp=>⟨jZ (hz p hp).1,jZ (hz p hp).2⟩) k hk).mono (by omega)
 refine ⟨h,?_⟩
 rcases Nat.lt_or_ge L.length 2 with h2 | h2
 ·unfold jC
  rw [show L.length-2=0 by omega]
  exact ⟨0,by simp,by unfold iT;simp⟩
 ·exact h _ (by omega)
structure KO (b:lH):Prop where
 poly:Poly b.pg
 len:b.pg.length≤4
 q4:∀ p∈b.pg,Q4 256 p.1∧Q4 256 p.2
 unit:qZ b.u
theorem Nw {P:dB} (hO:dw P) {k:Nat} {s:Stp} (hk:k+1<P.lg.length) (hs:s.k∈kinds) (hc:bG (ai P k) (ai P (k+1)) s.k s.i s.j=true):∀ x∈aA P k s,qZ x.1.u:=by
 obtain ⟨sk,i,j⟩:=s
 unfold kinds at hs
 simp only [List.mem_cons,List.not_mem_nil,or_false] at hs
 have hl:=(hO.log k (by omega)).1.unit
 have hr:=(hO.log (k+1) hk).1.unit
 intro b hb
 rcases hs with rfl | rfl | rfl | rfl | rfl
 ·have hc1:i<(ai P k).length∧j<(ai P (k+1)).length:=by simpa [bG] using hc
  unfold aA at hb
  rw [if_pos rfl] at hb
  split at hb
  ·rw [List.mem_singleton] at hb
   rw [hb]
   exact hl i hc1.1
  ·rw [List.mem_cons,List.mem_singleton] at hb
   rcases hb with rfl | rfl
   ·exact hl i hc1.1
   ·exact hr j hc1.2
 ·have hc1:i<(ai P k).length:=by simpa [bG] using hc
  unfold aA at hb
  rw [if_neg (by simp),if_pos (by simp),List.mem_singleton] at hb
  rw [hb]
  exact hl i hc1
 ·have hc1:j<(ai P (k+1)).length:=by simpa [bG] using hc
  unfold aA at hb
  rw [if_neg (by simp),if_neg (by simp),List.mem_singleton] at hb
  rw [hb]
  exact hr j hc1
 ·have hc1:i<(ai P k).length:=by
   simp only [bG] at hc
   simp at hc
   exact hc.1
  unfold aA at hb
  rw [if_neg (by simp),if_pos (by simp),List.mem_singleton] at hb
  rw [hb]
  exact hl i hc1
 ·have hc1:j<(ai P (k+1)).length:=by
   simp only [bG] at hc
   simp at hc
   exact hc.1
  unfold aA at hb
  rw [if_neg (by simp),if_neg (by simp),List.mem_singleton] at hb
  rw [hb]
  exact hr j hc1
theorem Z0 {P:dB} (hO:dw P):∀ b∈gD P,KO b:=by
 intro b hb
 unfold gD at hb
 obtain ⟨k,hk,hb⟩:=List.mem_flatMap.1 hb
 rw [List.mem_range] at hk
 have hk1:k+1<P.lg.length:=by have:=hO.n2;omega
 unfold iq at hb
 obtain ⟨s,hs,hb⟩:=List.mem_flatMap.1 hb
 obtain ⟨x,hx,rfl⟩:=List.mem_map.1 hb
 obtain ⟨i,hi,rfl⟩:=List.mem_iff_getElem.1 hs
 obtain ⟨h1,h2,h3,h4⟩:=oK hi
 rw [←lZ hi] at hx
 have hq:=Dp hO hk1 h1 h2 h3 h4 x hx
 exact ⟨CL h1 h2 (hO.GG k hk1) (fun i hi=>((hO.log k (by omega)).1.pos i hi).2) (fun i hi=>((hO.log (k+1) hk1).1.pos i hi).2) x hx,hq.1,hq.2,Nw hO hk1 h1 h2 x hx⟩
theorem Dq {α β:Type} (f:α→List β) (n:Nat):∀ (L:List α),(∀ x∈L,(f x).length≤n)→(L.flatMap f).length≤n*L.length
 | [],_=>by simp
 | x :: L,h=>by
  rw [List.flatMap_cons,List.length_append,List.length_cons]
  have h1:=h x List.mem_cons_self
  have h2:=Dq f n L (fun y hy=>h y (List.mem_cons_of_mem _ hy))
  rw [Nat.mul_succ]
  omega
theorem KP {P:dB} (hO:dw P):(gD P).length≤640:=by
 have h1:∀ k∈List.range (P.lg.length-1),(iq P k).length≤32:=fun k hk=>by
  rw [List.mem_range] at hk
  have h2:=Dq (fun s=>(aA P k s).map (·.1)) 2 (bD P k) (fun s _=>by rw [List.length_map];exact jO P k s)
  have h3:=xC hO (k:=k) (by omega)
  unfold iq
  omega
 have h2:=Dq (iq P) 32 _ h1
 rw [List.length_range] at h2
 unfold gD
 have:=hO.n20
 omega
theorem Z4 {u:List UInt8}:∀ {L:List (List UInt8 × Rat)},(∀ x∈L,Fc 65536 16 x.2)→Fc (65536*L.length) 16 (jA L u):=by
 have h:∀ (L:List (List UInt8 × Rat)) (s:Rat) (n:Nat),Fc n 16 s→(∀ x∈L,Fc 65536 16 x.2)→Fc (n+65536*L.length) 16 (L.foldl (fun s x=>if x.1=u then x.2+s else s) s):=by
  intro L
  induction L with
  | nil=>intro s n hs _;exact hs
  | cons x L ih =>
   intro s n hs hL
   rw [List.foldl_cons,List.length_cons]
   refine (ih _ (n+65536) ?_ (fun y hy=>hL y (List.mem_cons_of_mem _ hy))).mono (by omega)
   split
   ·exact ((hL x List.mem_cons_self).add hs).mono (by omega)
   ·exact hs.mono (by omega)
 intro L hL
 exact (h L 0 0 ⟨0,by simp,by simp⟩ hL).mono (by omega)
theorem VF {D:List lH} (h:∀ b∈D,KO b):∀ x∈dA D,Fc 65536 16 x.2:=by
 intro x hx
 obtain ⟨b,hb,rfl⟩:=List.mem_map.1 hx
 exact (sQ (h b hb).len (h b hb).q4).2
theorem Ic {D:List lH} (h:∀ b∈D,KO b) (hn:D.length≤640) (u:List UInt8):om (jA (dA D) u):=by
 have h1:=Z4 (u:=u) (VF h)
 have h2:(dA D).length=D.length:=List.length_map ..
 rw [h2] at h1
 exact (h1.mono (Nat.mul_le_mul_left _ hn)).okB (by decide) (by decide) (by decide)
end Go.Proofs.YtglncfkoohgdaaaGreatDoor
namespace Go.Proofs.YtglncfkoohgdaaaGreatDoor
open Go.Shelf
def Nz:Go.Shelf.Ren:=⟨fun | 6=>64 | 15=>147 | 14=>146 | 28=>212 | 29=>213 | 20=>204 | 21=>205 | 22=>206 | 23=>207 | 24=>208 | 25=>209 | 26=>210 | 27=>211 | 46=>243 | 47=>244 | 48=>245 | 49=>246 | 50=>247 | 57=>271 | n=>n,fun | 22=>59 | 24=>64 | 25=>137 | 3=>3 | 39=>206 | 0=>0 | 53=>261 | 55=>263 | 4=>4 | 46=>255 | 45=>254 | 50=>149 | 5=>5 | 9=>9 | 66=>290 | 70=>294 | 76=>313 | 77=>190 | n=>n,fun | n=>n⟩
theorem acM:Go.Proofs.SlLaysF0.n6 Tryz.prog Nz:={
 mixed:=by kernel_rfl,
 f6:=⟨Tryz.f64.name,by decide,Tryz.func64.trans (congrArg some (by kernel_rfl))⟩,
 f14:=⟨Tryz.f146.name,by decide,Tryz.func146.trans (congrArg some (by kernel_rfl))⟩,
 f15:=Tryz.func147.trans (congrArg some (by kernel_rfl)),
 f20:=⟨Tryz.f204.name,by decide,Tryz.func204.trans (congrArg some (by kernel_rfl))⟩,
 f21:=⟨Tryz.f205.name,by decide,Tryz.func205.trans (congrArg some (by kernel_rfl))⟩,
 f22:=⟨Tryz.f206.name,by decide,Tryz.func206.trans (congrArg some (by kernel_rfl))⟩,
 f23:=⟨Tryz.f207.name,by decide,Tryz.func207.trans (congrArg some (by kernel_rfl))⟩,
 f24:=⟨Tryz.f208.name,by decide,Tryz.func208.trans (congrArg some (by kernel_rfl))⟩,
 f25:=⟨Tryz.f209.name,by decide,Tryz.func209.trans (congrArg some (by kernel_rfl))⟩,
 f26:=⟨Tryz.f210.name,by decide,Tryz.func210.trans (congrArg some (by kernel_rfl))⟩,
 f27:=⟨Tryz.f211.name,by decide,Tryz.func211.trans (congrArg some (by kernel_rfl))⟩,
 f28:=Tryz.func212.trans (congrArg some (by kernel_rfl)),
 f29:=Tryz.func213.trans (congrArg some (by kernel_rfl)),
 f46:=⟨Tryz.f243.name,by decide,Tryz.func243.trans (congrArg some (by kernel_rfl))⟩,
 f47:=Tryz.func244.trans (congrArg some (by kernel_rfl)),
 f48:=Tryz.func245.trans (congrArg some (by kernel_rfl)),
 f49:=⟨Tryz.f246.name,by decide,Tryz.func246.trans (congrArg some (by kernel_rfl))⟩,
 f50:=⟨Tryz.f247.name,by decide,Tryz.func247.trans (congrArg some (by kernel_rfl))⟩,
 f57:=⟨Tryz.f271.name,by decide,Tryz.func271.trans (congrArg some (by kernel_rfl))⟩,
 t0:=Tryz.underlying0,
 a0:=Tryz.isAgg0,
 z0:=Tryz.sizeOf0,
 v0:=Tryz.zeroValue0,
 t3:=Tryz.underlying3,
 a3:=Tryz.isAgg3,
 z3:=Tryz.sizeOf3,
 v3:=Tryz.zeroValue3,
 t4:=Tryz.underlying4,
 a4:=Tryz.isAgg4,
 z4:=Tryz.sizeOf4,
 v4:=Tryz.zeroValue4,
 t5:=Tryz.underlying5,
 a5:=Tryz.isAgg5,
 z5:=Tryz.sizeOf5,
 v5:=Tryz.zeroValue5,
 t9:=Tryz.underlying9,
 a9:=Tryz.isAgg9,
 z9:=Tryz.sizeOf9,
 v9:=Tryz.zeroValue9,
 t22:=Tryz.underlying59,
 a22:=Tryz.isAgg59,
 z22:=Tryz.sizeOf59,
 v22:=Tryz.zeroValue59,
 t25:=Tryz.underlying137,
 a25:=Tryz.isAgg137,
 z25:=Tryz.sizeOf137,
 v25:=Tryz.zeroValue137,
 t39:=Tryz.underlying206,
 a39:=Tryz.isAgg206,
 z39:=Tryz.sizeOf206,
 v39:=Tryz.zeroValue206,
 t45:=Tryz.underlying254,
 a45:=Tryz.isAgg254,
 z45:=Tryz.sizeOf254,
 v45:=Tryz.zeroValue254,
 t46:=Tryz.underlying255,
 a46:=Tryz.isAgg255,
 z46:=Tryz.sizeOf255,
 v46:=Tryz.zeroValue255,
 t50:=Tryz.underlying149,
 a50:=Tryz.isAgg149,
 z50:=Tryz.sizeOf149,
 v50:=Tryz.zeroValue149,
 t53:=Tryz.underlying261,
 a53:=Tryz.isAgg261,
 z53:=Tryz.sizeOf261,
 v53:=Tryz.zeroValue261,
 t55:=Tryz.underlying263,
 a55:=Tryz.isAgg263,
 z55:=Tryz.sizeOf263,
 v55:=Tryz.zeroValue263,
 t66:=Tryz.underlying290,
 a66:=Tryz.isAgg290,
 z66:=Tryz.sizeOf290,
 v66:=Tryz.zeroValue290,
 t70:=Tryz.underlying294,
 a70:=Tryz.isAgg294,
 z70:=Tryz.sizeOf294,
 v70:=Tryz.zeroValue294,
 t76:=Tryz.underlying313,
 a76:=Tryz.isAgg313,
 z76:=Tryz.sizeOf313,
 v76:=Tryz.zeroValue313,
 t77:=Tryz.underlying190,
 a77:=Tryz.isAgg190,
 z77:=Tryz.sizeOf190,
 v77:=Tryz.zeroValue190 }
end Go.Proofs.YtglncfkoohgdaaaGreatDoor
namespace Go.Proofs.YtglncfkoohgdaaaGreatDoor
open Go.RowKit Go.Shelf Go.Sort Go.Lib Go.WideAt Go.WideShapes
open Go.Lib (decDigits itoa nDigits)
open Go.Lib (hid)
theorem Pg:∀ (a b:List UInt8),Lib.compareBytes a b<0↔bytesBefore a b=true
 | [],[]=>by simp [Lib.compareBytes,bytesBefore]
 | [],_ :: _=>by simp [Lib.compareBytes,bytesBefore]
 | _ :: _,[]=>by simp [Lib.compareBytes,bytesBefore]
 | x :: a,y :: b=>by
  unfold Lib.compareBytes bytesBefore
  by_cases h1:x<y
  ·simp [h1]
  ·rw [if_neg h1]
   by_cases h2:y<x
   ·have hne:x≠y:=fun e=>by subst e;exact UInt8.lt_irrefl _ h2
    simp [h1,h2,hne]
   ·have e:x=y:=UInt8.le_antisymm (UInt8.not_lt.1 h2) (UInt8.not_lt.1 h1)
    subst e
    rw [if_neg h2,Pg a b]
    simp
abbrev SH:=List UInt8 × Rat
instance:Inhabited SH:=⟨([],0)⟩
def encS (x:SH):List Value:=[.string (us x.1),.string (tx x.2)]
def cfS (x y:SH):Int:=Lib.compareBytes x.1 y.1
theorem ltS (x y:SH):ltOf cfS x y=bytesBefore x.1 y.1:=by
 rw [Bool.eq_iff_iff,←Pg]
 unfold ltOf cfS
 rw [decide_eq_true_eq]
theorem af5:SWO (ltOf cfS) where
 irrefl x:=by rw [ltS];exact bytes_irrefl _
 trans x y z h1 h2:=by rw [ltS] at *; exact bytes_trans _ _ _ h1 h2
 ntrans x y z h1 h2:=by
  rw [ltS] at *
  cases h3:bytesBefore x.1 z.1 with
  | false=>rfl
  | true =>
   by_cases e:x.1=y.1
   ·rw [e,h2] at h3;cases h3
   ·rcases bytes_total _ _ e with h | h
    ·rw [h] at h1;cases h1
    ·have:=bytes_trans _ _ _ h h3
     rw [h2] at this
     cases this
theorem Ph (u:List UInt8):(us u).data.toList=u:=by unfold us;rfl
theorem Ra (x y:SH) (w:World):Calls Tryz.prog 65 #[.agg #[.string (us x.1),.string (tx x.2)],.agg #[.string (us y.1),.string (tx y.2)]] w fun e w'=>e=.returned (.int .i64 (cfS x y))∧Below w.heap.size w w':=by
 obtain ⟨wA,aX⟩ : ∃ wA,wA=(w.alloc (Obj.cells #[.string (us x.1),.string (tx x.2)] 64)).alloc (Obj.cells #[.string (us y.1),.string (tx y.2)] 64):=⟨_,rfl⟩
 have P8:Below w.heap.size w wA:=by rw [aX];exact (ae _ _).trans ((ae _ _).mono (by simp))
 have HC:=hid (Tryz.strings_Compare (us x.1) (us y.1))
 rw [Ph,Ph] at HC
 generalize us x.1=u1 at *
 generalize us y.1=u2 at *
 generalize tx x.2=t1 at *
 generalize tx y.2=t2 at *
 go_enter Tryz.func65,Tryz.ntmps65
 go_wp2_with fail
 rw [←aX]
 clear aX
 refine (HC.out _).mono ?_
 rintro e w1 ⟨rfl,rfl⟩
 go_wp2
 go_ret
 exact ⟨rfl,P8⟩
theorem KQ (blk off cap:Nat) (d:Array SH) (w:World) (hblk:blk<w.heap.size) (hH:HoldsK encS 2 w blk off d) (hsz:d.size<4611686018427387904) :
  Calls Tryz.prog 64 #[.slice (some ⟨blk,off,none⟩) d.size cap,.func (.func 65) #[] #[]] w fun e w' =>
   e=.returned (.tuple #[])∧∃ d':Array SH,d'.size=d.size∧d'.toList.Perm d.toList∧(∀ i j,i<j→j<d'.size→bytesBefore d'[j]!.1 d'[i]!.1=false)∧HoldsK encS 2 w' blk off d'∧Below blk w w':=by
 have eg:∀ args w,(callFunc 65 args).run Tryz.prog w=.ok (.enter 65 args) w:=enters_of Tryz.func65 (by kernel_rfl) rfl
 have hcmp:CmpLays Tryz.prog 65 #[] encS 2 cfS blk off d.size w:=by
  intro m os dk hdk x y
  exact (zT (Ra x y _) (fun e w' h=>⟨⟨_,h.1⟩,h.2⟩)).mono fun e w' h=>⟨h.1.1,h.2⟩
 have hcon:=AnyQ.slices_SortFunc acM 2 Tryz.isAgg64 Tryz.sizeOf64 encS (fun _=>rfl) (fun x v hv=>by simp [encS] at hv;rcases hv with rfl | rfl <;> rfl) cfS af5 65 #[] blk off cap d w eg hcmp hH hblk hsz
 refine Calls.mono hcon ?_
 rintro e w' ⟨he,d',n,os,hp,hs,rfl⟩
 refine ⟨he,d',hp.1,?_,?_,holdsK_sortWorldK encS 2 w blk off n d d' os hblk hH hp.1,ic encS 2 w blk off n d' os hblk⟩
 ·have h3:=hp.2.2
  have e1:(d'.extract 0 d.size)=d':=by rw [←hp.1];simp
  have e2:(d.extract 0 d.size)=d:=by simp
  rw [e1,e2] at h3
  exact h3
 ·intro i j hij hj
  have:=hs i j (Nat.zero_le _) hij (by rw [←hp.1];exact hj)
  rw [ltS] at this
  exact this
def R4 (x:SH):gM:=(us x.1,tx x.2)
theorem NA {w:World} {base g n cap:Nat} {L:List SH} (h:w.ownsRow base 64 2 (.slice (some ⟨g,0,none⟩) n cap) n (cellsS (L.map R4))):HoldsK encS 2 w g 0 L.toArray:=by
 intro j hj
 rw [size_flatK] at hj
 have hj':j<L.length*2:=by simpa using hj
 have hi:j/2<L.length:=by omega
 have hi':j/2<(L.map R4).length:=by simpa using hi
 have hm:j % 2<2:=Nat.mod_lt _ (by decide)
 have g0:=eU (L.map R4) (j/2) hi' (j % 2) hm
 obtain ⟨a1,a2,_⟩:=dG h rfl g0
 rw [get_flatK _ _ _ _ hj,Nat.zero_add]
 rw [show j/2*2+j % 2=j by omega] at a1 a2
 refine ⟨?_,a2⟩
 rw [a1]
 have e:L.toArray[j/2]! = L[j/2]:=by simp [hi]
 rw [e]
 rcases Nat.mod_two_eq_zero_or_one j with hm | hm
 ·simp [hm,encS,R4]
 ·simp [hm,encS,R4]
theorem Rc {w:World} {g n cap:Nat} {d:Array SH} (h:HoldsK encS 2 w g 0 d) (hn:n=d.size) (hc:n≤cap) (hm:cap≤maxLen) (hg:g<w.heap.size):ik w (.slice (some ⟨g,0,none⟩) n cap) (d.toList.map R4):=by
 subst hn
 refine ⟨_,cap,by simp,by simpa using hc,hm,fun _=>⟨g,0,rfl,hg,fun i hi=>?_⟩⟩
 have hi':i<d.size:=by simpa using hi
 have h0:=h.cell hi' (show 0<2 by decide)
 have h1:=h.cell hi' (show 1<2 by decide)
 rw [Nat.zero_add] at h0 h1 ⊢
 have e:d[i]! = d[i]:=getElem!_pos d i hi'
 rw [e] at h0 h1
 simp only [List.getElem_map,Array.getElem_toList,R4]
 exact ⟨h0.1,h1.1⟩
theorem Z5 (f:Value) (w:World):Calls Tryz.prog 204 #[.slice none 0 0,.int .i64 0,.int .i64 0,f] w fun e w'=>e=.returned (.tuple #[])∧w'=w:=by
 go_enter Tryz.func204,Tryz.ntmps204
 go_wp2
 refine wp_loop_rounds 1 ?_
 rw [rounds_succ]
 go_wp2
 go_end0
 exact ⟨rfl,rfl⟩
theorem Z6 (f:Value) (w:World):Calls Tryz.prog 146 #[.slice none 0 0,.int .i64 0,.int .i64 0,.int .i64 0,f] w fun e w'=>e=.returned (.tuple #[])∧w'=w:=by
 go_enter Tryz.func146,Tryz.ntmps146
 go_wp2
 refine wp_loop_rounds 1 ?_
 rw [rounds_succ]
 go_wp2_with fail
 refine (Z5 f w).mono ?_
 rintro e w' ⟨rfl,rfl⟩
 go_wp2
 refine bodyPost_ret (results_none rfl _ _ _) rfl ?_
 exact ⟨rfl,rfl⟩
theorem Re (f:Value) (w:World):Calls Tryz.prog 64 #[.slice none 0 0,f] w fun e w'=>e=.returned (.tuple #[])∧w'=w:=by
 go_enter Tryz.func64,Tryz.ntmps64
 go_wp2_with fail
 refine (Tryz.bits_Len 0 w (by decide) (by decide)).mono ?_
 rintro e w' ⟨rfl,rfl⟩
 go_wp2_with fail
 refine (Z6 f w').mono ?_
 rintro e w2 ⟨rfl,rfl⟩
 go_wp2
 go_end0
 exact ⟨rfl,rfl⟩
end Go.Proofs.YtglncfkoohgdaaaGreatDoor
namespace Go.Proofs.YtglncfkoohgdaaaGreatDoor
open Go.RowKit Go.Shelf Go.Sort Go.Maps Go.WideMaps
open Go.Lib (decDigits itoa nDigits)
open Go.Lib (hid)
attribute [local go_sem] Oper.semAt_some
theorem ko {H:Type} {P:Program} (w:World) {ops:Array Oper} {rest:List Oper} {o:Oper} {a:Act} {Q:Exit→Act→World→Prop}
  (hg:o.guard=none) (m x:Operand) (t:TypeId) (hop:o.op=Op.lookup t m x true)
  (k e:TypeId) (K:Keyed P k) (ht:P.underlying t=some (.map k e)) (he:P.underlying e=some .string) (hz:(zeroValue e).run P w=.ok (.string ⟨#[]⟩) w) (b n:Nat) (D:DataW H)
  (hm:a.eval m=.map (some b)) (hown:w.ownsMap P k (plainElem P e) b n D) (key:Value) (kl:Lit) (hx:a.eval x=key) (hkey:keyOf P k key=some kl) (s:ByteArray) (hat:D.atKey kl (.lit (.string []))=.lit (.string s.data.toList))
  (hK:wpList P ops Q rest (a.put o.dst (.tuple #[.string s,.bool (Maps.has D kl)])) w) :
  wpList P ops Q (o :: rest) a w:=
 wpList_lookup_own_ok w hg m x t hop k e K ht (plainElem P e) hz (.lit (.string [])) [] (plainElem_string he (by decide)) b n D hm hown key kl hx hkey (fun v ps hv=>by
  obtain ⟨c,rfl,hc,_⟩:=plainElem_string_inv he hv
  have h1:=congrArg Prod.fst hc
  dsimp only at h1
  rw [hat] at h1
  simp only [DataW.lit.injEq,Lit.string.injEq] at h1
  obtain rfl:s=c:=by
   cases s;cases c
   simp only [ByteArray.mk.injEq]
   exact Array.toList_inj.1 h1
  exact hK)
theorem tJ.slice {w:World} {v:Value} {D:List (lH × Value)} (h:tJ w v D):∃ p c,v=.slice p D.length c∧D.length≤c∧c≤maxLen:=by
 obtain ⟨⟨p,c,h1,h2,h3,_⟩,_⟩:=h
 exact ⟨p,c,h1,h2,h3⟩
theorem tJ.at {w:World} {p:Option Addr} {n c:Nat} {D:List (lH × Value)} (h:tJ w (.slice p n c) D) {i:Nat} {x:lH × Value} (hx:D[i]?=some x):∃ b off,p=some ⟨b,off,none⟩∧b<w.heap.size ∧
  w.cell? ⟨b,off+i*3,none⟩=some (.int .i64 (x.1.k:Int))∧w.cell? ⟨b,off+i*3+1,none⟩=some (.string (us x.1.u))∧w.cell? ⟨b,off+i*3+2,none⟩=some x.2∧qp w x.2 x.1.pg:=by
 obtain ⟨hi,rfl⟩:=List.getElem?_eq_some_iff.1 hx
 obtain ⟨⟨p',c',h1,h2,h3,h4⟩,h5⟩:=h
 cases h1
 obtain ⟨b,off,k1,k2,k3⟩:=h4 (by omega)
 obtain ⟨m1,m2,m3⟩:=k3 i hi
 exact ⟨b,off,k1,k2,m1,m2,m3,h5 _ (List.getElem_mem hi)⟩
theorem NB {D:List (lH × Value)} {k:Nat} {x:lH × Value} (h:D[k]?=some x):dA ((D.take (k+1)).map (·.1))=dA ((D.take k).map (·.1)) ++ [(x.1.u,jC x.1.pg)]:=by
 unfold dA
 rw [List.take_add_one,h]
 simp
theorem Z7:SliceOf 59 64 (.agg #[.string ⟨#[]⟩,.string ⟨#[]⟩]) 2 32:=⟨Tryz.underlying59,by kernel_rfl,rfl,by decide⟩
theorem VG:Tryz.prog.underlying 132=some (.map 9 33):=Tryz.underlying132
theorem Pj (w:World):(zeroValue 33).run Tryz.prog w=.ok (.string ⟨#[]⟩) w:=by kernel_rfl
theorem VH {u:List UInt8} (h:qZ u):(us u).size≤maxLen:=by
 rcases h with rfl | ⟨c,rfl,_⟩
 ·decide
 ·show 1≤maxLen
  decide
theorem Z8 {u:List UInt8} (h:qZ u):keyOf Tryz.prog 9 (.string (us u))=some (.string u):=keyOf_string_mk Tryz.underlying9 (VH h)
theorem NC (O:List SH) (x:SH):cellsS ((O ++ [x]).map R4)=cellsS (O.map R4) ++ [.string (us x.1),.string (tx x.2)]:=by
 rw [List.map_append,List.map_singleton,zy]
 rfl
theorem zW {H:Type} {D:DataW H} {left:Lit→Bool} {LL O A:List SH} (hC:Collected D left (O.map (·.1))) (hl:∀ kl,left kl=false) (hmu:MapU D LL) (hsum:∀ x∈O,x.2=jA LL x.1) (hp:A.Perm O)
  (hs:∀ i j,i<j→j<A.length→bytesBefore A[j]!.1 A[i]!.1=false):AR LL A:=by
 have hnd:(A.map (·.1)).Nodup:=(hp.map (·.1)).nodup_iff.2 hC.1
 refine ⟨?_,fun u=>?_,fun a ha=>hsum a (hp.mem_iff.1 ha)⟩
 ·rw [List.pairwise_iff_getElem]
  intro i j hi hj hij
  rw [List.length_map] at hi hj
  have h1:=hs i j hij hj
  rw [getElem!_pos A j hj,getElem!_pos A i hi] at h1
  rw [List.getElem_map,List.getElem_map]
  have hne:A[i].1≠A[j].1:=fun e=>by
   have:=(List.pairwise_iff_getElem.1 hnd) i j (by rw [List.length_map];exact hi) (by rw [List.length_map];exact hj) hij
   rw [List.getElem_map,List.getElem_map] at this
   exact this e
  rcases WideAt.bytes_total _ _ hne with h | h
  ·exact h
  ·rw [h1] at h;cases h
 ·rw [(hp.map (·.1)).mem_iff,hC.2 u,hmu.has,hl]
  simp
theorem Z9 (x:ByteArray):us x.data.toList=x:=by cases x;rfl
theorem cell_two_new (w:World) (a b:Value) (t:TypeId):∀ (j:Nat) (u:Value),[a,b][j]?=some u→(w.alloc (.cells #[a,b] t)).cell? ((⟨w.heap.size,0,none⟩ : Addr).add j)=some u:=by
 intro j u hj
 rw [rY,World.cell?_alloc_new]
 simpa using hj
theorem VI {w:World} (vg va vt:Value) (P:dB) (hO:dw P) (hP:ma w vg va vt P) (hw:Good w) :
  Calls Tryz.prog 21 #[j6 vg va vt P.cs] w fun e w'=>∃ v A,e=.returned (.tuple #[v,.int .i64 0])∧AR (dA (gD P)) A∧ik w' v (A.map R4)∧Below w.heap.size w w':=by
 have IU:=hid (fun W' (hb:Below w.heap.size w W')=>yS vg va vt P hO (hP.below hb) (hw.below hb))
 have Md:=hid (Z0 hO)
 have Kc:=hid (KP hO)
 generalize gD P=BQ at *
 obtain ⟨pg,cg,rfl,hcg,mf⟩:=hP.g.slice
 obtain ⟨pa,ca,rfl,IK,oD⟩:=hP.a.slice
 obtain ⟨xm,ct,rfl,hct,oF⟩:=hP.t.slice
 have Aq:=hO.n20
 unfold maxLen at mf oD oF
 unfold j6 at *
 clear hO hP
 generalize tx P.cs.ch=t1 at *
 generalize tx P.cs.mi=t2 at *
 generalize tx P.cs.ga=t3 at *
 generalize tx P.cs.re=t4 at *
 generalize (P.xs.map tx).length=na at *
 generalize (P.tp.map tx).length=nt at *
 generalize P.lg.length=ng at *
 have hmm:=@run_makeMap Tryz.prog
 go_enter Tryz.func21,Tryz.ntmps21
 go_upto_region 1 with fail
 obtain ⟨wP,dI⟩ : ∃ wP,wP=w.alloc (Obj.cells #[.slice pg ng cg,.slice pa na ca,.slice xm nt ct,.string t1,.string t2,.string t3,.string t4] 37):=⟨_,rfl⟩
 have gG:Below w.heap.size w wP:=by rw [dI];exact ae _ _
 have hpq:wP.heap[w.heap.size]?=some (.cells #[.slice pg ng cg,.slice pa na ca,.slice xm nt ct,.string t1,.string t2,.string t3,.string t4] 37 (0,0)):=by rw [dI];exact World.alloc_heap_new _ _
 rw [←dI]
 clear dI
 obtain ⟨p0,p1,p2,p3,p4,p5,p6⟩:=au hpq
 have IY:=hid gG
 clear hpq gG
 go_wp2_with fail
 refine (IU.out wP IY.out).mono ?_
 rintro e w1 ⟨v,D,rfl,hD,iy,hb1⟩
 have HB1:=hid (IY.out.trans (hb1.mono IY.out.size))
 obtain ⟨pl,cl,rfl,hcl,gZ⟩:=iy.slice
 unfold maxLen at gZ
 have HL1:=hid iy
 have hDn:D.length≤640:=by have:=Kc.out;rw [←hD,List.length_map] at this;exact this
 have HDM:=hid (show ∀ x∈D,KO x.1 from fun x hx=>Md.out _ (by rw [←hD];exact List.mem_map_of_mem hx))
 have HDQ:=hid hD
 generalize hn:D.length=n at *
 have HN:=hid hn
 clear iy hb1 p0 p1 p2 p3 p4 p5 p6 IU Md Kc hD hn
 go_wp2_with fail
 have HG1:=hid (hw.below HB1.out)
 have HG0:=hid (ae w1 (.map #[] 0))
 go_loopw [2,3,8,9,10,11,12,29] (fun r2 r3 _ _ _ _ _ iv wr=>∃ (k:Nat) (Dm:DataW Unit),k≤n∧iv=.int .i64 (k:Int)∧r2=.slice none 0 0∧r3=.int .i64 0∧wr.ownsMap Tryz.prog 9 (plainElem Tryz.prog 33) w1.heap.size k Dm∧MapU Dm (dA ((D.take k).map (·.1)))∧Below w1.heap.size w1 wr) (fun _ _ _ _ _ _ _ iv _=>n-(intOf iv).toNat)
 case atStart=>exact ⟨0,.map [],Nat.zero_le _,rfl,rfl,rfl,World.ownsMap_made _ _ _ _,MapU.nil,HG0.out⟩
 case round =>
  obtain ⟨k,Dm,hkn,rfl,rfl,rfl,hown,hmu,hbr⟩:=hrel
  by_cases hk:k<n
  ·have kn:decide ((k:Int)<(n:Int))=true:=decide_eq_true (by omega)
   have IX:decide (k<n)=true:=decide_eq_true hk
   have i1:(0:Int)≤(k:Int):=by omega
   have i2:(k:Int)<(n:Int):=by omega
   have w5:IntKind.i64.wrap ((k:Int)+1)=(k:Int)+1:=IntWalk.i64_in _ (by omega)
   obtain ⟨⟨bd,vx⟩,hx⟩ : ∃ x,D[k]?=some x:=⟨_,List.getElem?_eq_getElem (by rw [HN.out];exact hk)⟩
   obtain ⟨b,off,rfl,hbl,c0,c1,c2,aaa⟩:=(HL1.out.below hbr).at hx
   dsimp only at c0 c1 c2 aaa
   have hok:KO bd:=HDM.out (bd,vx) (List.mem_of_getElem? hx)
   have HSU:=hid (NB hx)
   dsimp only at HSU
   obtain ⟨RX,RY,rfl,ZZ,KM⟩:=aaa.1.slice
   unfold maxLen at KM
   obtain ⟨wB,jD⟩ : ∃ wB,wB=wr.alloc (Obj.cells #[.int .i64 (bd.k:Int),.string (us bd.u),.slice RX bd.pg.length RY] 46):=⟨_,rfl⟩
   obtain ⟨ja,lB,b0,b1,b2⟩:=bn jD
   have hcB:wB.heap[wr.heap.size]?=some (.cells #[.int .i64 (bd.k:Int),.string (us bd.u),.slice RX bd.pg.length RY] 46 (0,0)):=by rw [jD];exact World.alloc_heap_new _ _
   have yF:=hid jD
   have eZ:=hid ja
   have HCB:=hid hcB
   have ZC:=hid (ZE (.slice RX bd.pg.length RY) bd.pg hok.poly (Nat.le_trans hok.len (by decide)) (fun p hp=>⟨jZ (hok.q4 p hp).1,jZ (hok.q4 p hp).2⟩) (fun j hj=>(((sQ hok.len hok.q4).1 j hj).okB (by decide) (by decide) (by decide)).sz.mono (by decide)) ((sQ hok.len hok.q4).2.okB (by decide) (by decide) (by decide)) wB (HG1.out.below (hbr.trans (ja.mono hbr.size))) (ik.below aaa.1 ja))
   have N9:=hid (show om (jC bd.pg) from (sQ hok.len hok.q4).2.okB (by decide) (by decide) (by decide))
   have mH:=hid (show ∀ u,om (jA (dA ((D.take k).map (·.1))) u) from fun u=>Ic (fun b hb=>by
    obtain ⟨x,hx,rfl⟩:=List.mem_map.1 hb
    exact HDM.out x (List.mem_of_mem_take hx)) (by rw [List.length_map,List.length_take];have:=HN.out;omega) u)
   have hkey:=Z8 hok.unit
   have HMU:=hid (show MapU (Dm.put (.string bd.u) (.lit (.string (txL (jA (dA ((D.take k).map (·.1)) ++ [(bd.u,jC bd.pg)]) bd.u))))) (dA ((D.take k).map (·.1)) ++ [(bd.u,jC bd.pg)]) from hmu.put (bd.u,jC bd.pg))
   have Rf:=hid (VE (dA ((D.take k).map (·.1))) (bd.u,jC bd.pg))
   have HSV:=hid (show (tx (jA (dA ((D.take k).map (·.1)) ++ [(bd.u,jC bd.pg)]) bd.u)).size≤maxLen by
    have h1:=HSU.out
    rw [←h1]
    have h2:=(Ic (D:=(D.take (k+1)).map (·.1)) (fun b hb=>by
     obtain ⟨x,hx,rfl⟩:=List.mem_map.1 hb
     exact HDM.out x (List.mem_of_mem_take hx)) (by rw [List.length_map,List.length_take];have:=HN.out;omega) bd.u).siz (n:=402)
    exact Nat.le_trans h2 (by decide))
   dsimp only at Rf
   have HB0:=hid hbr
   have HOW:=hid hown
   have R5:=hid hmu
   have hmax:k<maxLen:=by unfold maxLen;omega
   generalize dA ((D.take k).map (·.1))=LL at *
   generalize Ie:bd.pg.length=npl at *
   generalize jC bd.pg=ar at *
   generalize bd.u=u at *
   generalize hus:us u=su at *
   generalize Ry:tx ar=ta at *
   have HTA:=hid Ry
   unfold RV at ZC
   clear aaa hok hx jD ja hcB hbr hown hmu Ie hus Ry
   go_upto_region 8 with fail
   rw [←yF.out]
   clear c0 c1 c2
   go_wp2_with fail
   refine ZC.out.mono ?_
   rintro e w5 ⟨rfl,hb5⟩
   have hc5:=(hb5.block _ (aa HCB.out)).trans HCB.out
   obtain ⟨b0,b1,b2⟩:=av hc5
   have HC5:=hid hc5
   have Av:=hid (HB0.out.trans ((eZ.out.trans (hb5.mono eZ.out.size)).mono HB0.out.size))
   have HO5:=hid (HOW.out.kept (je none (eZ.out.trans (hb5.mono eZ.out.size))) (by simp))
   clear hb5 hc5 lB
   by_cases hu:u∈LL.map (·.1)
   ·have hhas:Maps.has Dm (.string u)=true:=by rw [R5.out.has];exact decide_eq_true hu
    have HAD:=hid (fun w' (hg:Good w')=>uj ar (jA LL u) (N9.out.sz.mono (by decide)) ((mH.out u).sz.mono (by decide)) w' hg)
    rw [HTA.out] at HAD
    unfold RV at HAD
    have HQ:=Rf.out
    rw [if_pos hu] at HQ
    rw [HQ] at HSV HMU
    obtain ⟨told,hto⟩ : ∃ t,t=tx (jA LL u):=⟨_,rfl⟩
    obtain ⟨af6,htn⟩ : ∃ t,t=tx (ar+jA LL u):=⟨_,rfl⟩
    have hat:Dm.atKey (.string u) (.lit (.string []))=.lit (.string told.data.toList):=by rw [hto];exact R5.out.at_ u _ hu
    have HTN:=hid (show af6.data.toList=txL (ar+jA LL u) by rw [htn];rfl)
    rw [←htn] at HAD HSV
    rw [←hto] at HAD
    clear HQ hto htn
    go_wp2_with (at_lookup;refine ko _ rfl _ _ 132 rfl 9 33 (string_keyed Tryz.underlying9) VG Tryz.underlying33 (Pj _) w1.heap.size k Dm rfl HO5.out _ _ rfl hkey told hat ?_)
    refine (HAD.out w5 (HG1.out.below Av.out)).mono ?_
    rintro e w6 ⟨rfl,hb6⟩
    have hc6:=(hb6.block _ (aa HC5.out)).trans HC5.out
    obtain ⟨d0,d1,d2⟩:=av hc6
    have LF:=hid (Av.out.trans (hb6.mono Av.out.size))
    have HO6:=hid (HO5.out.kept (je none hb6) (by simp))
    clear hb6 hc6 b0 b1 b2
    go_wp2_with (at_mapUpdate;refine wpList_mapUpdate_own _ rfl _ _ _ 132 rfl 9 33 (string_keyed Tryz.underlying9) VG _ w1.heap.size k Dm rfl HO6.out hmax _ _ _ rfl rfl hkey _ [] (plainElem_string Tryz.underlying33 HSV.out) ?_;intro w7 zU hg7)
    refine ⟨⟨k+1,_,hk,aH k,rfl,rfl,zU,by rw [HSU.out,HTN.out];exact HMU.out,LF.out.grown hg7 LF.out.size (fun j hj=>by cases hj;exact Nat.le_refl _)⟩,?_⟩
    show n-((k:Int)+1).toNat<n-((k:Int)).toNat
    omega
   ·have hhas:Maps.has Dm (.string u)=false:=by rw [R5.out.has];exact decide_eq_false hu
    have hat:Dm.atKey (.string u) (.lit (.string []))=.lit (.string (⟨#[]⟩ : ByteArray).data.toList):=atKey_of_not_has hhas _
    have HQ:=Rf.out
    rw [if_neg hu] at HQ
    rw [HQ] at HSV HMU
    rw [HTA.out] at HSV
    have HTN:=hid (show ta.data.toList=txL ar by rw [←HTA.out];rfl)
    clear HQ
    go_wp2_with (first | (at_lookup;refine ko _ rfl _ _ 132 rfl 9 33 (string_keyed Tryz.underlying9) VG Tryz.underlying33 (Pj _) w1.heap.size k Dm rfl HO5.out _ _ rfl hkey ⟨#[]⟩ hat ?_) | (at_mapUpdate;refine wpList_mapUpdate_own _ rfl _ _ _ 132 rfl 9 33 (string_keyed Tryz.underlying9) VG _ w1.heap.size k Dm rfl HO5.out hmax _ _ _ rfl rfl hkey _ [] (plainElem_string Tryz.underlying33 HSV.out) ?_;intro w7 zU hg7))
    refine ⟨⟨k+1,_,hk,aH k,rfl,rfl,zU,by rw [HSU.out,HTN.out];exact HMU.out,Av.out.grown hg7 Av.out.size (fun j hj=>by cases hj;exact Nat.le_refl _)⟩,?_⟩
    show n-((k:Int)+1).toNat<n-((k:Int)).toNat
    omega
  ·obtain rfl:k=n:=by omega
   have hLL:dA ((D.take k).map (·.1))=dA BQ:=by rw [←HN.out,List.take_length,HDQ.out]
   rw [hLL] at hmu
   have R5:=hid hmu
   have mH:=hid (show ∀ u,om (jA (dA BQ) u) from fun u=>by
    rw [←HDQ.out]
    exact Ic (fun b hb=>by
     obtain ⟨x,hx,rfl⟩:=List.mem_map.1 hb
     exact HDM.out x hx) (by rw [List.length_map,HN.out];exact hDn) u)
   have HSL:=hid hown.size_le
   have HDN:=hid hDn
   have tu:=hid hbr
   have HOW:=hid hown
   generalize hLQ:dA BQ=LL at *
   have HLQ:=hid hLQ
   clear hLQ
   clear hLL hmu hbr hown
   have kn:decide ((k:Int)<(k:Int))=false:=decide_eq_false (by omega)
   generalize wr=wO at *
   go_wp2_with (at_range;refine wpList_range_own _ rfl _ 132 rfl 9 33 (string_keyed Tryz.underlying9) VG _ w1.heap.size k Dm rfl HOW.out ?_;intro w2 hrg0 hg0 hs0)
   have HR0:=hid hrg0
   have HB2:=hid ((Below.refl wO.heap.size wO).grown hg0 (Nat.le_refl _) (fun j hj=>by cases hj))
   have HLT:=hid (show w1.heap.size<wO.heap.size from HOW.out.lt)
   clear hrg0 hg0 hs0
   go_frame
   go_loopw [2,3,13,14,15,16,17] (fun r2 r3 o _ _ _ _ wq=>∃ (left:Lit→Bool) (cnt:Nat) (O:List SH),r2=.slice none 0 0∧r3=.int .i64 0∧wq.ranges Tryz.prog 9 (plainElem Tryz.prog 33) w1.heap.size wO.heap.size k Dm left cnt∧O.length+cnt≤k∧wq.ownsRow wO.heap.size 64 2 o O.length (cellsS (O.map R4))∧Collected Dm left (O.map (·.1))∧(∀ x∈O,x.2=jA LL x.1)∧Below wO.heap.size wO wq) (fun _ _ _ _ _ _ _ wq=>wq.rangeLeft w1.heap.size wO.heap.size)
   case atStart=>exact ⟨_,_,[],rfl,rfl,HR0.out,by simpa using HSL.out,World.ownsRow_nil _ _ _ _,Collected.start Dm,fun x hx=>absurd hx List.not_mem_nil,HB2.out⟩
   case round =>
    obtain ⟨left,cnt,O,rfl,rfl,hrg,hcn,hrow,hC,hsum,hbq⟩:=hrel
    have HC:=hid hC
    have acN:=hid hsum
    have RU:=hid hbq
    have HRW:=hid hrow
    have HRG:=hid hrg
    clear hC hsum hbq
    go_wp2_with (at_next;refine wpList_next_ranges _ rfl _ rfl 9 (string_keyed Tryz.underlying9) (plainElem Tryz.prog 33) Value.string Value.string (fun key kl hk=>Maps.keyOf_string_inv Tryz.underlying9 hk) (fun v y hv=>by obtain ⟨c,rfl,_⟩:=plainElem_string_inv Tryz.underlying33 hv;exact ⟨c,rfl⟩) w1.heap.size wO.heap.size k _ _ _ rfl hrg ?_ ?_)
    ·intro hc0 hl0
     have HL0:=hid hl0
     rcases hrow.2 with ⟨rfl,h0⟩ | ⟨g,cap,cur,rfl,hbase,hbk,h1,h2,h3,h4⟩
     ·have hO:O=[]:=List.length_eq_zero_iff.1 h0
      subst hO
      go_wp2_with fail
      refine (Re _ _).mono ?_
      rintro e w4 ⟨rfl,rfl⟩
      go_wp2
      refine bodyPost_ret (v:=.tuple #[.slice none 0 0,.int .i64 0]) (by simp [results,Tryz.results21,go_sem]) rfl ?_
      exact ⟨_,[],rfl,by rw [HLQ.out];exact zW HC.out HL0.out R5.out acN.out (List.Perm.refl _) (fun i j hij hj=>absurd hj (Nat.not_lt_zero _)),⟨none,0,rfl,Nat.le_refl _,Nat.zero_le _,fun h=>absurd h (Nat.lt_irrefl _)⟩,HB1.out.trans ((tu.out.trans (RU.out.mono tu.out.size)).mono HB1.out.size)⟩
     ·have hgl:=aa hbk
      have UR:=hid (KQ g 0 cap O.toArray wr hgl (NA hrow) (by have:=HDN.out;simp;omega))
      rw [List.size_toArray] at UR
      generalize hno:O.length=no at *
      have Qc:=hid hno
      unfold maxLen at h2
      clear hno h3 h4 hrow hrg
      go_wp2_with fail
      refine UR.out.mono ?_
      rintro e w4 ⟨rfl,d,hd1,hd2,hd3,hd4,hb4⟩
      have RO:=hid (Rc (n:=no) (cap:=cap) hd4 hd1.symm h1 h2 (Nat.lt_of_lt_of_le hgl hb4.size))
      have YH:=hid (RU.out.trans (hb4.mono hbase))
      have HPE:=hid (And.intro hd2 hd3)
      clear hd1 hd2 hd3 hd4 hb4
      go_wp2
      refine bodyPost_ret (v:=.tuple #[.slice (some ⟨g,0,none⟩) no cap,.int .i64 0]) (by simp [results,Tryz.results21,go_sem]) rfl ?_
      refine ⟨_,d.toList,rfl,HLQ.out.symm ▸ zW HC.out HL0.out R5.out acN.out (by simpa using HPE.out.1) (fun i j hij hj=>?_),RO.out,HB1.out.trans ((tu.out.trans (YH.out.mono tu.out.size)).mono HB1.out.size)⟩
      have hj':j<d.size:=by simpa using hj
      have:=HPE.out.2 i j hij hj'
      rw [getElem!_pos d j hj',getElem!_pos d i (by omega)] at this
      rw [getElem!_pos d.toList j hj,getElem!_pos d.toList i (by omega),Array.getElem_toList,Array.getElem_toList]
      exact this
    ·intro x c kl yd yp w3 cnt3 hkey hlk hv hat hrg3 hlt hg3 hs3 hen
     have hkl:kl=.string x.data.toList:=by
      obtain ⟨s,e1,e2,_⟩:=string_of_keyOf Tryz.underlying9 hkey
      cases e1
      exact e2
     have hyd:yd=.lit (.string c.data.toList):=by
      obtain ⟨s,e1,e2,_⟩:=plainElem_string_inv Tryz.underlying33 hv
      cases e1
      exact congrArg Prod.fst e2
     have hhas:=has_true_of_atKey hat
     rw [hkl] at hhas hat hlk
     rw [hyd] at hat
     rw [R5.out.has] at hhas
     have hu:=of_decide_eq_true hhas
     have hc:c.data.toList=txL (jA LL x.data.toList):=by
      have h1:=(hat .nil).symm.trans (R5.out.at_ x.data.toList .nil hu)
      simpa using h1
     have hc2:c=tx (jA LL x.data.toList):=by
      unfold txL at hc
      cases c
      exact congrArg ByteArray.mk (Array.toList_inj.1 hc)
     have HNU:=hid (fun w' (hg:Good w')=>Fj (jA LL x.data.toList) (mH.out _) w' hg)
     unfold RV at HNU
     rw [←hc2] at HNU
     have Yv:=hid (HC.out.step hlk hat)
     have HSH:=hid (show [Value.string x,.string c]=[.string (us x.data.toList),.string (tx (jA LL x.data.toList))] by rw [Z9,←hc2])
     have HKL:=hid hkl
     have hb3:Below wO.heap.size wO w3:=RU.out.grown hg3 RU.out.size (fun j hj=>by cases hj;exact Nat.le_refl _)
     have hrow3:=hrow.kept hg3 (.inr (row_ne_iter hrow hrg).symm)
     have hne1:=row_ne_low hrow HLT.out
     have hne2:=row_ne_iter hrow hrg
     have HB3:=hid hb3
     have af7:=hid hrow3
     have af8:=hid hrg3
     have af9:=hid hlt
     generalize hno:O.length=no at *
     have Qc:=hid hno
     clear hkl hyd hhas hu hc hc2 hkey hlk hv hat hg3 hs3 hb3 hrow3 hrow hrg hrg3 hno
     obtain ⟨i0,hii,hz0,hz1,hz2⟩:=info_parts Z7.info
     go_wp2_with fail
     refine (HNU.out w3 (HG1.out.below (tu.out.trans (HB3.out.mono tu.out.size)))).mono ?_
     rintro e w4 ⟨rfl,hb4⟩
     have hrow4:=l5 af7.out hb4
     have YH:=hid (HB3.out.trans (hb4.mono HB3.out.size))
     have hs4:=YH.out.size
     have aga:=hid (af8.out.kept (je none hb4) (by simp) (by simp))
     clear hb4
     go_wp2_with (at_builtin;refine wpList_append_own _ rfl _ _ 59 rfl wO.heap.size 64 i0 (.agg #[.string ⟨#[]⟩,.string ⟨#[]⟩]) 2 32 Z7.ht hii hz0 hz1 hz2 Z7.hzs Z7.hsz _ no _ rfl (hrow4.alloc _) ⟨w4.heap.size,0,none⟩ 1 1 [.string x,.string c] rfl rfl (cell_two_new _ _ _ _) (by simp [Value.oneCell']) (by unfold maxLen;omega) (by omega) (by simpa using Nat.le_succ_of_le hs4) ?_;intro v6 w6 hown6 hg6 aer;have agb:=hid hown6;have HG6:=hid hg6;clear hown6 hg6 aer)
     have aes:=(aga.out.alloc _).kept HG6.out hne1 hne2
     refine ⟨⟨_,cnt3,O ++ [(x.data.toList,jA LL x.data.toList)],rfl,rfl,HKL.out ▸ aes,by rw [List.length_append,Qc.out];simp;omega,?_,?_,?_,?_⟩,?_⟩
     ·rw [List.length_append,Qc.out,NC]
      dsimp only
      rw [←HSH.out]
      exact agb.out
     ·rw [List.map_append]
      exact Yv.out
     ·intro y hy
      rcases List.mem_append.1 hy with hy | hy
      ·exact acN.out y hy
      ·rw [List.mem_singleton] at hy
       rw [hy]
     ·have h7:=YH.out.trans ((ae w4 (Obj.cells #[.string x,.string c] 64)).mono YH.out.size)
      exact h7.grown HG6.out h7.size (fun j hj=>(hrow4.lt j hj).1)
     ·rw [aes.left_eq,HRG.out.left_eq]
      exact af9.out
end Go.Proofs.YtglncfkoohgdaaaGreatDoor
