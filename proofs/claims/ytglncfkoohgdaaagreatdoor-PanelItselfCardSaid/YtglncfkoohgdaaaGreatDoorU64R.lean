import Derived.Test.YtglncfkoohgdaaaGreatDoorBaseR
import Derived.Handy
import Derived.BigQuiet
import Derived.Deep.QuietTactic
import Derived.RangeFuncNested
import Derived.RangeFuncBound
import Derived.RangeFuncCalls
import Derived.RangeFuncBox
import Derived.RangeFuncLeaves
import Derived.Shelf.Abstract
import Derived.Shelf.RegionOpen
import Derived.WalkKit
import Derived.OwnWalkIn
import Derived.TacticsInMore
import Derived.LoopNIn
import Derived.LoopIn
import Derived.Test.YtglncfkoohgdaaaGreatDoorShelfZ
import Derived.Lib.Builder
import Derived.Lib.AppendStr
import Derived.Lib.UnsafeStr
import Derived.Lib.OthersKept
import Derived.Lib.Walk
import Derived.Lib.ItoaMem
import Derived.BigCall
import Derived.BigGuard
set_option maxRecDepth 100000
set_option maxHeartbeats 6400000
namespace Go.Proofs.YtglncfkoohgdaaaGreatDoor
open Go.RowKit
open Go.Lib (hid)
def lQ (n:Nat):Value:=.int .u64 (n:Int)
def dI (w:World) (v:Value) (xs:List Nat):Prop:=Reads w 1 v xs.length (xs.map lQ)
theorem dI.below {w w':World} {v:Value} {xs:List Nat} (h:dI w v xs) (hb:Below w.heap.size w w'):dI w' v xs:=Reads.below h hb
theorem dI.slice {w:World} {v:Value} {xs:List Nat} (h:dI w v xs):∃ p c,v=.slice p xs.length c∧xs.length≤c∧c≤maxLen:=by
 obtain ⟨_,p,c,hv,hc,hm,_⟩:=h
 exact ⟨p,c,hv,hc,hm⟩
theorem dI.cells {w:World} {p:Option Addr} {n c:Nat} {xs:List Nat} (h:dI w (.slice p n c) xs) (h0:0<xs.length) :
  ∃ b off,p=some ⟨b,off,none⟩∧b<w.heap.size∧∀ i (h:i<xs.length),w.cell? ⟨b,off+i,none⟩=some (.int .u64 (xs[i]:Int)):=by
 obtain ⟨_,p',c',hv,hc,hm,hx⟩:=h
 simp only [Value.slice.injEq] at hv
 obtain ⟨rfl,rfl,rfl⟩:=hv
 obtain ⟨b,off,hp,hb,hcell⟩:=hx h0
 refine ⟨b,off,hp,hb,fun i hi=>?_⟩
 rw [hcell i (by simpa using hi)]
 simp [lQ]
theorem dI.take {w:World} {p:Option Addr} {c k:Nat} {xs:List Nat} (h:dI w (.slice p xs.length c) xs) (hk:k≤xs.length):dI w (.slice p k c) (xs.take k):=by
 have:=Reads.take (k:=k) h hk
 unfold dI
 rw [Nat.mul_one] at this
 rw [List.map_take,show (xs.take k).length=k by simp;omega]
 exact this
theorem dI.bu {w:World} {base n:Nat} {v:Value} {xs:List Nat} (h:w.ownsRow base 263 1 v n (xs.map lQ)) (hn:n=xs.length):dI w v xs:=by
 subst hn;exact Reads.bu h
theorem JA {k:IntKind} {z:Int}:∀ u∈(#[Value.int k z]).toList,u.oneCell'=true:=by
 intro u hu;simp at hu;subst hu;rfl
theorem SA {os:List Nat} {X:Int} {y:Nat} (h:X=y):os.map lQ++(#[Value.int .u64 X]).toList=(os ++ [y]).map lQ:=by
 subst h;simp [lQ]
theorem abV:SliceOf 226 263 (.int .u64 0) 1 8:=⟨Tryz.underlying226,by kernel_rfl,rfl,by decide⟩
theorem Ee {xs:List Nat} {k:Nat} (h:k<xs.length):val (xs.take (k+1))=val (xs.take k)+1000000000 ^ k*xs[k]:=by
 rw [List.take_succ_eq_append_getElem h,Bv]
 rw [List.length_take,Nat.min_eq_left (by omega)]
theorem wU {xs:List Nat} {k:Nat} (hx:∀ x∈xs,x<1000000000) (hk:k<xs.length) (h0:xs[k]≠0):aI (val (xs.take (k+1)))=xs.take (k+1):=by
 refine Y9 _ (fun x h=>hx x (List.mem_of_mem_take h)) ?_
 intro h
 rw [List.getLast_eq_getElem]
 simp only [List.getElem_take]
 have:(xs.take (k+1)).length-1=k:=by simp;omega
 simp only [this]
 exact h0
def From (B:Nat) (v:Value):Prop:=∀ a n c,v=.slice (some a) n c→B≤a.block
theorem From.bu {w:World} {base:Nat} {e:TypeId} {size n:Nat} {v:Value} {xs:List Value} (h:w.ownsRow base e size v n xs):From base v:=by
 intro a m c hv
 subst hv
 exact (h.lt a.block rfl).1
theorem From.cut {B:Nat} {p:Option Addr} {n c k d:Nat} (h:From B (.slice p n c)):From B (.slice p k d):=by
 intro a m c' hv
 simp only [Value.slice.injEq] at hv
 obtain ⟨rfl,rfl,rfl⟩:=hv
 exact h a n c rfl
theorem dI.setCell {w:World} {B:Nat} {v:Value} {xs:List Nat} (h:dI w v xs) (hf:From B v) {a:Addr} (ha:a.block<B) (u:Value):dI (w.setCell a u) v xs:=by
 obtain ⟨hl,p,c,rfl,hc,hm,hx⟩:=h
 refine ⟨hl,p,c,rfl,hc,hm,fun h0=>?_⟩
 obtain ⟨b,off,rfl,hb,hcell⟩:=hx h0
 have hB:=hf _ _ _ rfl
 refine ⟨b,off,rfl,by simpa [World.setCell] using hb,fun i hi=>?_⟩
 rw [World.cell?_of_block (Below.heap_setCell w a u b (by simp at hB;omega))]
 exact hcell i hi
def adN (v v':Value) (xs:List Nat):Prop:=∃ p c k,v=.slice p xs.length c∧v'=.slice p k c∧k≤xs.length∧aI (val xs)=xs.take k
def N8 (B:Nat) (v:Value):Prop:=From B v∧∀ n c,v=.slice none n c→n=0∧c=0
theorem N8.none (B:Nat):N8 B (.slice none 0 0):=⟨fun a n c h=>by simp at h,fun n c h=>by simp at h;omega⟩
theorem pz (v:Value) (xs:List Nat) (_hlen:xs.length≤4398046511104) (hx:∀ x∈xs,x<1000000000) (w:World) (hv:dI w v xs) :
  Calls Tryz.prog 221 #[v] w fun e w'=>∃ v',e=.returned v'∧dI w v' (aI (val xs))∧w=w'∧(∀ B,From B v→From B v')∧adN v v' xs:=by
 obtain ⟨p,c,rfl,hc,hm⟩:=hv.slice
 have HX:=hid hx
 clear hx
 unfold maxLen at hm
 go_enter Tryz.func221,Tryz.ntmps221
 go_wp2
 go_loop [0] (fun q=>∃ k:Nat,k≤xs.length∧q=.slice p k c∧val (xs.take k)=val xs) (fun q=>lenOf q)
 case atStart=>exact ⟨xs.length,Nat.le_refl _,rfl,by rw [List.take_length]⟩
 case round =>
  obtain ⟨k,hk,rfl,hval⟩:=hrel
  have SB:=hid hval
  clear hval
  cases k with
  | zero =>
   go_wp2
   go_ret
   refine ⟨_,rfl,?_,rfl,fun B hB=>hB.cut,⟨_,_,0,rfl,rfl,by omega,by rw [←SB.out];simp [eG]⟩⟩
   have:=hv.take (k:=0) (by omega)
   rw [←SB.out]
   simpa [eG] using this
  | succ k =>
   obtain ⟨b,off,rfl,hb,hcell⟩:=hv.cells (by omega)
   have hcl:=hcell k (by omega)
   have Hv:=hid hv
   clear hcell hv
   have h1:((↑(k+1):Int)-1).toNat=k:=by omega
   go_wp2
   ·go_round
    case rel =>
     refine ⟨k,by omega,rfl,?_⟩
     have h0:(↑xs[k] == (0:Int))=true:=by assumption
     have h0':xs[k]=0:=by simpa using h0
     rw [←SB.out,Ee (by omega),h0']
     simp
    case measure=>simp [lenOf]
   ·go_ret
    refine ⟨_,rfl,?_,rfl,fun B hB=>hB.cut,⟨_,_,k+1,rfl,rfl,by omega,?_⟩⟩
    rotate_left
    ·have h0:(↑xs[k] == (0:Int))=false:=by assumption
     have h0':xs[k]≠0:=by simpa using h0
     rw [←SB.out,wU HX.out (by omega) h0']
    have h0:(↑xs[k] == (0:Int))=false:=by assumption
    have h0':xs[k]≠0:=by simpa using h0
    rw [←SB.out,wU HX.out (by omega) h0']
    exact Hv.out.take (by omega)
theorem JB {m n:Nat} (h:(aI m).length≠(aI n).length):(if (aI m).length<(aI n).length then (-1:Int) else 1)=ek m n:=by
 unfold ek
 by_cases hl:(aI m).length<(aI n).length
 ·have:=vT hl
  rw [if_pos hl,if_pos (by omega)]
 ·have:=vT (show (aI n).length<(aI m).length by omega)
  rw [if_neg hl,if_neg (by omega),if_neg (by omega)]
theorem JC {m n:Nat} (hl:(aI m).length=(aI n).length) {i:Nat} (hi:i<(aI m).length) (hi':i<(aI n).length) (heq:(aI m).drop (i+1)=(aI n).drop (i+1)) (hne:(aI m)[i]≠(aI n)[i]) :
  (if (aI m)[i]<(aI n)[i] then (-1:Int) else 1)=ek m n:=by
 have key:∀ {a b:Nat} (hl:(aI a).length=(aI b).length) (ha:i<(aI a).length) (hb:i<(aI b).length),(aI a).drop (i+1)=(aI b).drop (i+1)→(aI a)[i]<(aI b)[i]→a<b:=by
  intro a b hl ha hb he hlt
  have:=D8 hl (iO a) i ha hlt (fun j hj hij=>by
   have e1:(aI a)[j]=((aI a).drop (i+1))[j-(i+1)]'(by simp;omega):=by simp;congr 1;omega
   have e2:(aI b)[j]'(by omega)=((aI b).drop (i+1))[j-(i+1)]'(by simp;omega):=by simp;congr 1;omega
   rw [e1,e2];simp only [he])
  rwa [gX,gX] at this
 unfold ek
 by_cases h:(aI m)[i]<(aI n)[i]
 ·have:=key hl hi hi' heq h
  rw [if_pos h,if_pos (by omega)]
 ·have:=key hl.symm hi' hi heq.symm (by omega)
  rw [if_neg h,if_neg (by omega),if_neg (by omega)]
theorem P7 (n:Int):ek n n=0:=by unfold ek;simp
theorem JD {m n:Nat} (h:(aI m).drop 0=(aI n).drop 0):0=ek m n:=by
 simp at h;rw [Y8 h,P7]
def Mf (l m:List Nat) (k:Nat):Prop:=l.drop k=m.drop k
theorem uq (va vb:Value) (m n:Nat) (w:World) (ha:dI w va (aI m)) (hb:dI w vb (aI n)) :
  Calls Tryz.prog 194 #[va,vb] w fun e w'=>e=.returned (.int .i64 (ek m n))∧Below w.heap.size w w':=by
 obtain ⟨p,c,rfl,hc,hm⟩:=ha.slice
 obtain ⟨q,d,rfl,hd,hm'⟩:=hb.slice
 unfold maxLen at hm hm'
 by_cases hl:(aI m).length=(aI n).length
 ·have h1:((((aI m).length:Int)) != ((aI n).length:Int))=false:=by simp [hl]
  have h2:((((aI m).length)) != ((aI n).length))=false:=by simp [hl]
  have HL:=hid hl
  clear hl
  go_enter Tryz.func194,Tryz.ntmps194
  go_wp2
  go_loopw [5] (fun i wr=>∃ k:Nat,k≤(aI m).length∧i=.int .i64 ((k:Int)-1)∧Mf (aI m) (aI n) k∧Below w.heap.size w wr) (fun i _=>((intOf i)+1).toNat)
  case atStart=>exact ⟨_,Nat.le_refl _,rfl,by unfold Mf;rw [List.drop_eq_nil_of_le (Nat.le_refl _),List.drop_eq_nil_of_le (by rw [HL.out];exact Nat.le_refl _)],Below.refl _ _⟩
  case round =>
   obtain ⟨k,hk,rfl,hde,hbw⟩:=hrel
   have HDE:=hid hde
   clear hde
   cases k with
   | zero =>
    go_wp2
    go_ret
    exact ⟨dJ (JD HDE.out),hbw⟩
   | succ k =>
    obtain ⟨b,off,rfl,hbb,hcell⟩:=(ha.below hbw).cells (by omega)
    obtain ⟨b',off',rfl,ahb,hcell'⟩:=(hb.below hbw).cells (by rw [←HL.out];omega)
    have hk':k<(aI n).length:=by rw [←HL.out];omega
    have hcl:=hcell k (by omega)
    have hcl':=hcell' k hk'
    clear hcell hcell'
    have h3:((↑(k+1):Int)-1)=k:=by omega
    rw [h3]
    by_cases hne:(aI m)[k]=(aI n)[k]
    ·have hn1:(((aI m)[k]:Int) != ((aI n)[k]:Int))=false:=by simp [hne]
     have hn2:((aI m)[k] != (aI n)[k])=false:=by simp [hne]
     have tQ:=hid hne
     clear hne
     go_wp2
     go_quiet (fail)
     go_wp2
     go_roundw
     case rel=>exact ⟨k,by omega,by simp,by
      have:=HDE.out
      unfold Mf at this ⊢
      rw [List.drop_eq_getElem_cons (by omega),List.drop_eq_getElem_cons hk',this,tQ.out],below_drewN hbw _⟩
     case measure=>simp [intOf]
    ·have hn1:(((aI m)[k]:Int) != ((aI n)[k]:Int))=true:=by simp;omega
     have hn2:((aI m)[k] != (aI n)[k])=true:=by simpa using hne
     have tQ:=hid (JC HL.out (by omega) hk' HDE.out hne)
     clear hne
     go_wp2
     go_quiet (fail)
     go_wp2
     go_quiet (fail)
     go_wp2
     ·go_ret
      have hlt:(aI m)[k]<(aI n)[k]:=by assumption
      have:=tQ.out
      rw [if_pos hlt] at this
      exact ⟨dJ this,below_drewN (below_drewN hbw _) _⟩
     ·go_ret
      have hlt:¬ (aI m)[k]<(aI n)[k]:=by assumption
      have:=tQ.out
      rw [if_neg hlt] at this
      exact ⟨dJ this,below_drewN (below_drewN hbw _) _⟩
 ·have HL:=hid (JB hl)
  have h1:((((aI m).length:Int)) != ((aI n).length:Int))=true:=by simp;omega
  have h2:((((aI m).length)) != ((aI n).length))=true:=by simpa using hl
  clear hl
  go_enter Tryz.func194,Tryz.ntmps194
  go_wp2
  ·go_ret
   have hlt:(aI m).length<(aI n).length:=by assumption
   have:=HL.out
   rw [if_pos hlt] at this
   exact ⟨dJ this,Below.refl _ _⟩
  ·go_ret
   have hlt:¬ (aI m).length<(aI n).length:=by assumption
   have:=HL.out
   rw [if_neg hlt] at this
   exact ⟨dJ this,Below.refl _ _⟩
structure N9 (m n k t:Nat) (os:List Nat):Prop where
 len:os.length=k
 small:∀ x∈os,x<1000000000
 eq:val os+1000000000 ^ k*t=val ((aI m).take k)+val ((aI n).take k)
theorem N9.fin {m n t:Nat} {os:List Nat} (h:N9 m n (aI m).length t os) (hnm:(aI n).length≤(aI m).length) (ht:t≤1):(os ++ [t]).length=(aI m).length+1∧(∀ x∈os ++ [t],x<1000000000)∧val (os ++ [t])=m+n:=by
 obtain ⟨h1,h2,h3⟩:=h
 refine ⟨by simp [h1],?_,?_⟩
 ·intro z hz
  rcases List.mem_append.1 hz with hz | hz
  ·exact h2 z hz
  ·simp at hz;omega
 ·rw [Bv,h1,h3,List.take_length,List.take_of_length_le hnm,gX,gX]
structure JE (m n k t:Nat) (os:List Nat):Prop where
 len:os.length=k
 small:∀ x∈os,x<1000000000
 eq:val os+val ((aI n).take k)=val ((aI m).take k)+1000000000 ^ k*t
theorem JE.fin {m n t:Nat} {os:List Nat} (h:JE m n (aI m).length t os) (hnm:n≤m):os.length=(aI m).length∧(∀ x∈os,x<1000000000)∧val os=m-n:=by
 obtain ⟨h1,h2,h3⟩:=h
 refine ⟨h1,h2,?_⟩
 rw [List.take_length,List.take_of_length_le (kU hnm),gX,gX] at h3
 have hlt:=LX h2
 rw [h1] at hlt
 cases t with
 | zero=>omega
 | succ t =>
  rw [Nat.mul_add] at h3
  omega
theorem P8 {os:List Nat} (h:∀ x∈os,x<1000000000) (j v:Nat) (hv:v<1000000000):∀ x∈os.set j v,x<1000000000:=by
 intro x hx
 rcases List.mem_or_eq_of_mem_set hx with h' | h'
 ·exact h x h'
 ·omega
structure Own (L:Nat) (os:List Nat):Prop where
 len:os.length=L
 small:∀ x∈os,x<1000000000
theorem Own.set {L:Nat} {os:List Nat} (h:Own L os) (j v:Nat) (hv:v<1000000000):Own L (os.set j v):=⟨by simp [h.len],P8 h.small j v hv⟩
theorem SC (L:Nat):Own L (List.replicate L 0):=⟨by simp,by intro x hx;rw [List.mem_replicate] at hx;omega⟩
theorem Zd {ps:List Nat} {j:Nat} {X:Int} {y:Nat} (h:X=y):(ps.map lQ).set j (Value.int .u64 X)=(ps.set j y).map lQ:=by
 subst h;rw [List.map_set];rfl
theorem Mg {w:World} {base g n cap:Nat} {ps:List Nat} (h:w.ownsRow base 263 1 (.slice (some ⟨g,0,none⟩) n cap) n (ps.map lQ)) (j:Nat) {X:Int} {y:Nat} (hX:X=y) :
  (w.setCell ⟨g,j,none⟩ (.int .u64 X)).ownsRow base 263 1 (.slice (some ⟨g,0,none⟩) n cap) n ((ps.set j y).map lQ):=by
 rw [←Zd hX];exact (h.stored j _).1
theorem Ef (L:Nat):(madeCells (Value.int IntKind.u64 0).cells (L*1)).toList=(List.replicate L 0).map lQ:=by
 show (madeCells #[Value.int IntKind.u64 0] (L*1)).toList=_
 rw [Nat.mul_one,toList_madeCells_one]
 simp [lQ]
end Go.Proofs.YtglncfkoohgdaaaGreatDoor
namespace Go.Proofs.YtglncfkoohgdaaaGreatDoor
open Go.RowKit Go.Shelf
open Go.Lib (hid)
attribute [local go_sem] Oper.semAt_some
structure Pc (len:Nat) where
 i:Nat
 v:Nat
 hi:i<len∨len=0
 hv:v<1000000000
def P9 (xs:List Nat) (hx:∀ x∈xs,x<1000000000) (j:Nat):Pc xs.length:=
 if h:j<xs.length then ⟨j,xs[j],.inl h,hx _ (List.getElem_mem h)⟩ else ⟨0,0,by omega,by decide⟩
theorem qQ {xs:List Nat} {hx:∀ x∈xs,x<1000000000} {j:Nat} (h:j<xs.length):(P9 xs hx j).i=j∧(P9 xs hx j).v=xs[j]:=by
 unfold P9;rw [dif_pos h];exact ⟨rfl,rfl⟩
def down (xs:List Nat) (hx:∀ x∈xs,x<1000000000) (k:Nat):List (Pc xs.length):=(List.range k).map fun j=>P9 xs hx (xs.length-1-j)
theorem sP (xs:List Nat) (hx:∀ x∈xs,x<1000000000) (k:Nat):down xs hx (k+1)=down xs hx k ++ [P9 xs hx (xs.length-1-k)]:=by simp [down,List.range_succ]
theorem JF (xs:List Nat) (hx:∀ x∈xs,x<1000000000) (k:Nat):(down xs hx k).length=k:=by simp [down]
def iF (n₀ Bs:Nat) (W W':World):Prop:=∀ k,(k<n₀∨k=Bs)→W'.heap[k]?=W.heap[k]?
theorem iF.refl (n₀ Bs:Nat) (W:World):iF n₀ Bs W W:=fun _ _=>rfl
theorem iF.trans {n₀ Bs:Nat} {A B C:World} (h:iF n₀ Bs A B) (k:iF n₀ Bs B C):iF n₀ Bs A C:=fun i hi=>(k i hi).trans (h i hi)
theorem iF.cell {n₀ Bs:Nat} {A B:World} (h:iF n₀ Bs A B) {a:Addr} (ha:a.block<n₀∨a.block=Bs):B.cell? a=A.cell? a:=World.cell?_of_block (h a.block ha)
theorem iF.put {n₀ Bs:Nat} {w:World} (h1:n₀≤w.heap.size) (h2:Bs<w.heap.size) (W:World) (l:Nat) (o o':Obj) (hl:w.heap.size≤l) (_:W.heap[l]?=some o) (_:o.isCells=false) (_:o.isWalk=false):iF n₀ Bs W (W.putObj l o'):=fun k hk=>by
 simp only [World.putObj]
 rw [Array.getElem?_setIfInBounds,if_neg (by omega)]
theorem SE (F:Fence) (n:Nat) (hf:F.fn 253) (hro:F.round=none) (_hn:1≤n) (l Bs n₀:Nat) (sv:Value) (xs:List Nat) (hx:∀ x∈xs,x<1000000000) (hlen:xs.length≤4398046511104) (J Jx:List (Pc xs.length)→World→Prop)
  (hY:∀ pre (x:Pc xs.length) W,J pre W→pre.length<xs.length→YieldAt F (n-1) Tryz.prog l #[.int .i64 (x.i:Int),.int .u64 (x.v:Int)] W fun e W' =>
   (e=.returned (.bool true)∧J (pre ++ [x]) W'∧iF n₀ Bs W W')∨(e=.returned (.bool false)∧Jx (pre ++ [x]) W'))
  (W:World) (hBs:W.cell? ⟨Bs,0,none⟩=some sv) (hfr:∀ a k c,sv=.slice (some a) k c→a.block<n₀) (hI:dI W sv xs) (h0:J [] W) :
  CallsIn F n Tryz.prog 253 #[.func (.yield l) #[] #[],.pointer (some ⟨Bs,0,none⟩)] W fun e W'=>(∃ v,e=.returned v) ∧
   ((∃ ys,ys=down xs hx xs.length∧J ys W')∨(∃ pre,(∃ k,k≤xs.length∧pre=down xs hx k)∧Jx pre W')):=by
 obtain ⟨p,c,rfl,hc,hm⟩:=hI.slice
 unfold maxLen at hm
 have HFR:=hid hfr
 clear hfr
 refine callsIn_of_wp Tryz.func253 rfl hf ?_ hro
 simp only [Tryz.ntmps253,List.size_toArray,List.length_cons,List.length_nil,Nat.reduceAdd,Nat.reduceSub,Array.replicate_succ,Array.replicate_zero,List.push_toArray,List.append_toArray,List.nil_append,List.cons_append]
 gi_wp2
 gi_loopw [3] (fun i wr=>∃ k:Nat,k≤xs.length∧i=.int .i64 ((xs.length:Int)-1-k)∧J (down xs hx k) wr∧iF n₀ Bs W wr)
  (fun i _=>(intOf i+1).toNat)
 case atStart=>exact ⟨0,Nat.zero_le _,by simp,h0,iF.refl _ _ _⟩
 case round =>
  obtain ⟨k,hk,rfl,hJs,hnx⟩:=hrel
  by_cases hlt:k<xs.length
  ·obtain ⟨b,off,rfl,hbb,hcell⟩:=hI.cells (by omega)
   have hbn:b<n₀:=HFR.out _ _ _ rfl
   have hcx:=(hnx.cell (a:=⟨b,off+(xs.length-1-k),none⟩) (.inl hbn)).trans (hcell (xs.length-1-k) (by omega))
   have hcb:=(hnx.cell (a:=⟨Bs,0,none⟩) (.inr rfl)).trans hBs
   obtain ⟨fn,tmps,assign,body,hy,hR⟩:=hY _ (P9 xs hx (xs.length-1-k)) wr hJs (by rw [JF];exact hlt)
   rw [(qQ (by omega)).1,(qQ (by omega)).2] at hy
   have hi:((xs.length:Int)-1-(k:Int))=((xs.length-1-k:Nat):Int):=by omega
   rw [hi]
   clear hcell
   have HD:=hid (sP xs hx k)
   gi_wp2
   refine hR.mono ?_
   rintro e W3 (⟨rfl,hJ3,hk3⟩ | ⟨rfl,hJx3⟩)
   ·gi_wp2
    go_roundw
    case rel=>exact ⟨k+1,by omega,congrArg _ (by omega),by rw [HD.out];exact hJ3,hnx.trans hk3⟩
    case measure=>simp [intOf]
   ·gi_wp2
    refine bodyPost_ret (results_none rfl _ _ _) rfl ?_
    exact ⟨⟨_,rfl⟩,.inr ⟨_,⟨k+1,by omega,HD.out.symm⟩,hJx3⟩⟩
  ·obtain rfl:k=xs.length:=by omega
   have hi:((xs.length:Int)-1-(xs.length:Int)) = -1:=by omega
   rw [hi]
   gi_wp2
   go_end0
   exact ⟨⟨_,rfl⟩,.inl ⟨_,rfl,hJs⟩⟩
theorem GG (F:Fence) (n:Nat) (hf:F.fn 222) (hro:F.round=none) (a:Option Addr) (len cap:Nat) (w:World) :
  CallsIn F n Tryz.prog 222 #[.slice a len cap] w fun e w'=>e=.returned (.func (.func 253) #[] #[.pointer (some ⟨w.heap.size,0,none⟩)])∧w'=w.alloc (.cells #[.slice a len cap] 226):=by
 refine callsIn_of_wp Tryz.func222 rfl hf ?_ hro
 simp only [Tryz.ntmps222,List.size_toArray,List.length_cons,List.length_nil,Nat.reduceAdd,Nat.reduceSub,Array.replicate_succ,Array.replicate_zero,List.push_toArray,List.append_toArray,List.nil_append,List.cons_append]
 gi_wp2
 go_ret
 exact ⟨rfl,rfl⟩
theorem uW (F:Fence) (n:Nat) (hf:F.fn 253) (hro:F.round=none) (hn:1≤n) (Bs n₀:Nat) (sv:Value) (xs:List Nat) (hx:∀ x∈xs,x<1000000000) (hlen:xs.length≤4398046511104) (w:World) (hBs:Bs<w.heap.size)
  (hfr:∀ a k c,sv=.slice (some a) k c→a.block<n₀) (hc:w.cell? ⟨Bs,0,none⟩=some sv) (hI:dI w sv xs) :
  SeqStopsK F n Tryz.prog 253 #[.pointer (some ⟨Bs,0,none⟩)] (fun x:Pc xs.length=>#[Value.int .i64 (x.i:Int),Value.int .u64 (x.v:Int)]) (iF n₀ Bs) (fun ys=>ys=down xs hx xs.length)
   (fun pre=>∃ k,k≤xs.length∧pre=down xs hx k) xs.length w:=fun l J Jx W hW _ _ hY h0=>by
 have hc':=(hW.cell (p:=⟨Bs,0,none⟩) hBs).trans hc
 exact SE F n hf hro hn l Bs n₀ sv xs hx hlen J Jx hY W hc' hfr (hI.below hW) h0
end Go.Proofs.YtglncfkoohgdaaaGreatDoor
namespace Go.Proofs.YtglncfkoohgdaaaGreatDoor
open Go.RowKit
theorem JG:(Tryz.prog.info? 274).map (·.size)=some 2:=by kernel_rfl
theorem SF:liesAt Tryz.prog Tryz.prog.depth 274 (2/Tryz.prog.cellsOf 274) 0 274 1=true:=by kernel_rfl
theorem JH:(Tryz.prog.info? 5).map (fun i=>(i.zero,i.size,i.bytes))=some (some (.int .u8 0),1,1):=by kernel_rfl
theorem BN (b:Nat) (w:World) (h0:w.cell? ⟨b,0,none⟩=some (.pointer (some ⟨b,0,none⟩))) :
  Calls Tryz.prog 254 #[.pointer (some ⟨b,0,none⟩)] w fun e w'=>e=.returned (.tuple #[])∧w'=w:=by
 obtain ⟨j,hj,_⟩:=Option.map_eq_some_iff.1 JG
 go_enter Tryz.func254,Tryz.ntmps254
 go_wp2
 rw [Lib.run_neq_ptr_same w _ Tryz.underlying272 hj]
 go_wp2
 go_end0
 exact ⟨rfl,rfl⟩
theorem Aq (b:Nat) (w:World) (h0:w.cell? ⟨b,0,none⟩=some (.pointer none)) (hsh:w.shape? b=some (274,2)) (hfz:w.frozen? ⟨b,0,none⟩=false) :
  Calls Tryz.prog 254 #[.pointer (some ⟨b,0,none⟩)] w fun e w'=>e=.returned (.tuple #[])∧w'=w.setCell ⟨b,0,none⟩ (.pointer (some ⟨b,0,none⟩)):=by
 obtain ⟨j,hj,hjs⟩:=Option.map_eq_some_iff.1 JG
 go_enter Tryz.func254,Tryz.ntmps254
 go_wp2
 rw [Lib.run_to_unsafe w ⟨b,0,none⟩ Tryz.underlying272 Tryz.underlying318 hj (by rw [hjs];decide) hsh (Nat.zero_lt_succ 1)]
 simp only [Result.andThen]
 rw [Oper.upon_value]
 go_wp2
 rw [run_callFunc_extern Tryz.func275 (by kernel_rfl) (by kernel_rfl) (by kernel_rfl) (e:=Extern.AbiNoEscape.same) (by kernel_rfl)]
 rw [Lib.run_noEscape]
 simp only [Result.andThen]
 rw [Oper.upon_value]
 go_wp2
 rw [Lib.run_from_unsafe w ⟨b,0,none⟩ Tryz.underlying318 Tryz.underlying272 hj hsh SF]
 simp only [Result.andThen]
 rw [Oper.upon_value]
 go_wp2
 go_end0
 exact ⟨rfl,rfl⟩
theorem JI {w:World} {B:Nat} {e:TypeId} {v:Value} {n:Nat} {xs:List Value} (h:w.ownsRow B e 1 v n xs):∀ g,v.ownBlock=some g→∃ c fz,w.heap[g]?=some (.cells c e fz):=by
 intro g hg
 rcases h.2 with ⟨rfl,_⟩ | ⟨g',cap,cur,rfl,_,hgg,_⟩
 ·simp [Value.ownBlock] at hg
 ·simp [Value.ownBlock] at hg
  subst hg
  exact ⟨cur,(0,0),hgg⟩
abbrev JJ (b:Nat) (w w':World):Prop:=Lib.OthersKept 5 (some b) w w'
abbrev BAt (B b:Nat) (p:Value) (bs:List Value) (w:World):Prop:=Lib.BuilderAt 274 5 B b p bs w
abbrev RI (B b:Nat) (bs:List Value) (w:World):Prop:=Lib.IsBuilder 274 5 B b bs w
theorem uu (B b:Nat) (bs:List Value) (w:World) (h:RI B b bs w) :
  Calls Tryz.prog 254 #[.pointer (some ⟨b,0,none⟩)] w fun e w'=>e=.returned (.tuple #[])∧BAt B b (.pointer (some ⟨b,0,none⟩)) bs w'∧Below B w w'∧JJ b w w':=by
 rcases h with h | h
 ·refine (Aq b w h.cell0 h.shape h.frozen0).mono ?_
  rintro e w' ⟨rfl,rfl⟩
  exact ⟨rfl,h.used _,(Below.refl B w).setCell (p:=⟨b,0,none⟩) h.1 _,(Lib.OthersKept.refl _ _ w).setCell ⟨b,0,none⟩ rfl _⟩
 ·refine (BN b w h.cell0).mono ?_
  rintro e w' ⟨rfl,rfl⟩
  exact ⟨rfl,h,Below.refl B _,Lib.OthersKept.refl _ _ _⟩
theorem wV (B b:Nat) (bs:List Value) (c:Int) (w:World) (h:RI B b bs w) (hlen:bs.length+1≤140737488355328) (hBw:B≤w.heap.size) :
  Calls Tryz.prog 224 #[.pointer (some ⟨b,0,none⟩),.int .u8 c] w fun e w'=>e=.returned .nilIface∧BAt B b (.pointer (some ⟨b,0,none⟩)) (bs ++ [.int .u8 c]) w'∧Below B w w'∧JJ b w w':=by
 obtain ⟨i0,hi,hz0,hz1,hz2⟩:=info_parts JH
 go_enter Tryz.func224,Tryz.ntmps224
 go_wp2_with (go_at_call 254;refine (uu B b bs _ h).mono ?_)
 rintro e w1 ⟨rfl,h1,hb1,hk1⟩
 obtain ⟨hB,v,hbk,hown,hne⟩:=h1
 have c0:w1.cell? ⟨b,0,none⟩=some (.pointer (some ⟨b,0,none⟩)):=by rw [Lib.cell_of_heap hbk];rfl
 have c1:w1.cell? ⟨b,1,none⟩=some v:=by rw [Lib.cell_of_heap hbk];rfl
 go_wp2_with (at_builtin;refine wpList_append_own _ rfl _ _ 216 rfl B 5 i0 (.int .u8 0) 1 1 Tryz.underlying216 hi hz0 hz1 hz2 rfl (by decide) _ _ _ rfl (hown.alloc _) ⟨w1.heap.size,0,none⟩ 1 1 [.int .u8 c] rfl rfl ?c1 ?c2 ?c3 ?c4 ?c5 ?_)
 case c1 =>
  intro j u hj
  match j,hj with
  | 0,hj=>simp at hj;subst hj;simp [Addr.add]
 case c2=>intro u hu;simp at hu;subst hu;rfl
 case c3=>unfold maxLen;omega
 case c4=>omega
 case c5=>have:=hb1.size;simp;omega
 intro v' w2 hown' hgrow _
 have hlt:b<w1.heap.size:=by
  rcases Nat.lt_or_ge b w1.heap.size with h' | h'
  ·exact h'
  ·simp [Array.getElem?_eq_none h'] at hbk
 have hb2:w2.heap[b]?=some (.cells #[.pointer (some ⟨b,0,none⟩),v] 274 (0,0)):=by
  rw [hgrow.block b (by simp;omega) (fun e=>hne e.symm),Lib.alloc_old w1 _ b hlt]
  exact hbk
 have d0:w2.cell? ⟨b,0,none⟩=some (.pointer (some ⟨b,0,none⟩)):=by rw [Lib.cell_of_heap hb2];rfl
 have d1:w2.cell? ⟨b,1,none⟩=some v:=by rw [Lib.cell_of_heap hb2];rfl
 have f1:w2.frozen? ⟨b,1,none⟩=false:=Lib.frozen_of_heap hb2 1
 obtain ⟨g,cap,rfl⟩ : ∃ g cap,v'=.slice (some ⟨g,0,none⟩) (bs.length+1) cap:=by
  rcases hown'.2 with ⟨_,h0⟩ | ⟨g,cap,cur,hv,_⟩
  ·omega
  ·exact ⟨g,cap,hv⟩
 go_wp2
 go_ret
 refine ⟨rfl,?_,?_,?_⟩
 ·exact Lib.BuilderAt.put (T:=274) (e:=5) hB hb2 (bs':=bs ++ [.int .u8 c]) (by simpa using hown') (by decide)
 ·exact ((hb1.alloc (by have:=hb1.size;omega) _).grown hgrow (by have:=hb1.size;simp;omega) (fun k hk=>(hown.lt k hk).1)).setCell (p:=⟨b,1,none⟩) hB _
 ·exact ((hk1.alloc _).grown hgrow (JI (hown.alloc _))).setCell ⟨b,1,none⟩ rfl _
theorem dw (B b:Nat) (bs:List Value) (s:ByteArray) (w:World) (h:RI B b bs w) (hlen:bs.length+s.size≤140737488355328) (hBw:B≤w.heap.size) :
  Calls Tryz.prog 226 #[.pointer (some ⟨b,0,none⟩),.string s] w fun e w'=>e=.returned (.tuple #[.int .i64 s.size,.nilIface])∧BAt B b (.pointer (some ⟨b,0,none⟩)) (bs++Lib.strCells s) w'∧Below B w w'∧JJ b w w':=by
 obtain ⟨i0,hi,hz0,hz1,hz2⟩:=info_parts JH
 go_enter Tryz.func226,Tryz.ntmps226
 go_wp2_with (go_at_call 254;refine (uu B b bs _ h).mono ?_)
 rintro e w1 ⟨rfl,h1,hb1,hk1⟩
 obtain ⟨hB,v,hbk,hown,hne⟩:=h1
 have c0:w1.cell? ⟨b,0,none⟩=some (.pointer (some ⟨b,0,none⟩)):=by rw [Lib.cell_of_heap hbk];rfl
 have c1:w1.cell? ⟨b,1,none⟩=some v:=by rw [Lib.cell_of_heap hbk];rfl
 go_wp2_with (at_builtin;refine Lib.wpList_append_own_string _ rfl _ _ 216 9 rfl B 5 i0 Tryz.underlying216 Tryz.underlying9 hi hz0 hz1 hz2 _ _ _ rfl hown s rfl ?c3 ?c4 ?c5 ?_)
 case c3=>unfold maxLen;omega
 case c4=>omega
 case c5=>have:=hb1.size;omega
 intro v' w2 hown' hgrow _
 have hlt:b<w1.heap.size:=by
  rcases Nat.lt_or_ge b w1.heap.size with h' | h'
  ·exact h'
  ·simp [Array.getElem?_eq_none h'] at hbk
 have hb2:w2.heap[b]?=some (.cells #[.pointer (some ⟨b,0,none⟩),v] 274 (0,0)):=by
  rw [hgrow.block b hlt (fun e=>hne e.symm)]
  exact hbk
 have d0:w2.cell? ⟨b,0,none⟩=some (.pointer (some ⟨b,0,none⟩)):=by rw [Lib.cell_of_heap hb2];rfl
 have d1:w2.cell? ⟨b,1,none⟩=some v:=by rw [Lib.cell_of_heap hb2];rfl
 have f1:w2.frozen? ⟨b,1,none⟩=false:=Lib.frozen_of_heap hb2 1
 obtain ⟨ao,n',cap,rfl⟩ : ∃ ao n' cap,v'=.slice ao n' cap:=by
  rcases hown'.2 with ⟨hv,_⟩ | ⟨g,cap,cur,hv,_⟩
  ·exact ⟨_,_,_,hv⟩
  ·exact ⟨_,_,_,hv⟩
 go_wp2
 go_ret2
 refine ⟨rfl,?_,?_,?_⟩
 ·exact Lib.BuilderAt.put (T:=274) (e:=5) hB hb2 (bs':=bs++Lib.strCells s) (by simpa [Lib.strCells_length] using hown') (by decide)
 ·exact (hb1.grown hgrow (by have:=hb1.size;omega) (fun k hk=>(hown.lt k hk).1)).setCell (p:=⟨b,1,none⟩) hB _
 ·exact (hk1.grown hgrow (JI hown)).setCell ⟨b,1,none⟩ rfl _
end Go.Proofs.YtglncfkoohgdaaaGreatDoor
namespace Go.Proofs.YtglncfkoohgdaaaGreatDoor
open Go.RowKit Go.Sort
open Go.Lib (hid)
theorem holds_zero0 (w:World) (T:TypeId) (nd:Nat) (hs:nd≤24):Holds (fun (b:UInt8)=>Value.int .u8 (b.toNat:Int)) (w.alloc (.cells Lib.zeros24 T)) w.heap.size 0 (Array.replicate nd (0:UInt8)):=fun j hj=>by
 have hj':j<nd:=by simpa using hj
 refine ⟨?_,World.frozen?_alloc_new _ _ _ _⟩
 rw [World.cell?_alloc_new,Lib.zeros24_at _ (by omega),getElem!_pos _ j hj]
 simp
theorem SG (w:World) (o:Obj) (dk:Array UInt8) (k:Nat):Below w.heap.size w ((putRow (fun (b:UInt8)=>Value.int .u8 (b.toNat:Int)) (w.alloc o) w.heap.size 0 dk).drewN k):=by
 rw [alloc_eq_grow]
 obtain ⟨os',_,e⟩:=putRow_grow_new (fun (b:UInt8)=>Value.int .u8 (b.toNat:Int)) w #[o] w.heap.size 0 dk (Nat.le_refl _)
 rw [e]
 exact ⟨rfl,rfl,rfl,by simp [grow,World.drewN],fun i hi=>by simp [grow,World.drewN,Array.getElem?_append,hi]⟩
theorem Eg (u:Nat) (hu64:u<18446744073709551616) (w:World) (hw:Good w) :
  Calls Tryz.prog 255 #[.int .u64 u,.int .i64 10] w fun e w'=>e=.returned (.string ⟨(Lib.decDigits u).toArray⟩)∧Below w.heap.size w w':=by
 by_cases hs:u<100
 ·have hs':(u:Int)<100:=by omega
  go_enter Tryz.func255,Tryz.ntmps255
  go_wp2_with (go_at_call 262;refine (Tryz.internal_strconv_small u hs _).mono ?_;rintro e w' ⟨rfl,rfl⟩)
  go_ret
  exact ⟨rfl,Below.refl _ _⟩
 ·have hu1:1≤u:=by omega
  have hs':decide (u<100)=false:=by simpa using hs
  have hs2:decide ((u:Int)<100)=false:=by simp;omega
  have hnd20:Lib.nDigits u≤20:=by have:=Lib.numDigits_eq u hu1 hu64;split at this <;> omega
  have hb3:Lib.nDigits u≤23:=by omega
  have hal:Tryz.prog.arrayLen 303=24:=by simp [Program.arrayLen,Tryz.underlying303]
  have hsl1:∀ W,(Instr.sliceAt 303 (.pointer (some ⟨w.heap.size,0,none⟩)) none (some (.int .i64 (Lib.nDigits u:Int))) none).run Tryz.prog W=.ok (.slice (some ⟨w.heap.size,0,none⟩) (Lib.nDigits u) 24) W:=fun W=>by
   rw [run_sliceAt_array_h W 303 ⟨w.heap.size,0,none⟩ (by simp [Program.arrayLen,Program.elem,Tryz.underlying303]) .i64 (Lib.nDigits u:Int) (by omega) (by rw [hal];omega)]
   go_simp
  have hH0:=holds_zero0 w 303 (Lib.nDigits u) (by omega)
  have hfmt:=Tryz.internal_strconv_formatBase10 w.heap.size 0 24 u (Array.replicate (Lib.nDigits u) 0) (w.alloc (.cells Lib.zeros24 303)) hH0 (by rw [Array.size_replicate];exact Lib.lt_pow_nDigits u) hu64 (by rw [Array.size_replicate];omega)
  rw [Array.size_replicate] at hfmt
  have HH0:=hid hH0
  clear hH0 hal
  go_enter Tryz.func255,Tryz.ntmps255
  go_wp2_with (first
   | (go_at_call 263;refine (Tryz.internal_strconv_numDigits u hu1 hu64 _ (Lib.tabIs_alloc hw.pow _)).mono ?_;rintro e w' ⟨rfl,rfl⟩))
  go_at_call 264
  refine hfmt.mono ?_
  rintro e w' ⟨rfl,k,v',dk,rfl,hF⟩
  have hcv:(convert 216 9 (.slice (some ⟨w.heap.size,0,none⟩) (Lib.nDigits u) 24)).run Tryz.prog ((putRow (fun (b:UInt8)=>Value.int .u8 (b.toNat:Int)) (w.alloc (.cells Lib.zeros24 303)) w.heap.size 0 dk).drewN k)=.ok (.string ⟨(Lib.decDigits u).toArray⟩) ((putRow (fun (b:UInt8)=>Value.int .u8 (b.toNat:Int)) (w.alloc (.cells Lib.zeros24 303)) w.heap.size 0 dk).drewN k):=by
   have h:=run_convert_bytes_back (P:=Tryz.prog) ((putRow (fun (b:UInt8)=>Value.int .u8 (b.toNat:Int)) (w.alloc (.cells Lib.zeros24 303)) w.heap.size 0 dk).drewN k) 216 9 5 ⟨w.heap.size,0,none⟩ 24 (Lib.decDigits u) Tryz.underlying216 Tryz.underlying5 Tryz.underlying9 (fun j hj=>by
    rw [Lib.row_is_numeral hF j hj,Lib.add_plain,World.cell?_drewN]
    exact cell?_putRow (fun (b:UInt8)=>Value.int .u8 (b.toNat:Int)) _ w.heap.size 0 _ dk HH0.out (by rw [hF.size,Array.size_replicate]) j (by rw [hF.size];rw [Lib.decDigits_length] at hj;exact hj))
   rw [Lib.decDigits_length] at h
   exact h
  go_wp2
  go_ret
  exact ⟨rfl,SG w _ dk k⟩
theorem Eh (u:Nat) (hu64:u<18446744073709551616) (w:World) (hw:Good w) :
  Calls Tryz.prog 225 #[.int .u64 u,.int .i64 10] w fun e w'=>e=.returned (.string ⟨(Lib.decDigits u).toArray⟩)∧Below w.heap.size w w':=by
 go_enter Tryz.func225,Tryz.ntmps225
 go_wp2_with (go_at_call 255;refine (Eg u hu64 _ hw).mono ?_;rintro e w' ⟨rfl,hb⟩)
 go_ret
 exact ⟨rfl,hb⟩
theorem qm (u:Nat) (hu64:u<18446744073709551616) (w:World) (hw:Good w) :
  Calls Tryz.prog 225 #[.int .u64 u,.int .i64 10] w fun e w'=>∃ s:ByteArray,e=.returned (.string s)∧s.data.toList=Lib.decDigits u∧Below w.heap.size w w':=
 (Eh u hu64 w hw).mono fun _ _ h=>⟨_,h.1,by simp,h.2⟩
end Go.Proofs.YtglncfkoohgdaaaGreatDoor
