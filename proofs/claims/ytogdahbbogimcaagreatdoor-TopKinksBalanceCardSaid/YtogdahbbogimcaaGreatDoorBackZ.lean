import Derived.RangeFuncNested
import Derived.RangeFuncBound
import Derived.RangeFuncCalls
import Derived.RangeFuncBox
import Derived.RangeFuncLeaves
import Derived.Shelf.Abstract
import Derived.Shelf.RegionOpen
import Derived.WalkKit
import Derived.OwnWalkIn
import Derived.TacticsInMore
import Derived.LoopNIn
import Derived.LoopIn
import Derived.Test.YtogdahbbogimcaaGreatDoorU64Z
import Derived.Test.YtogdahbbogimcaaGreatDoorShelfZ
import Derived.Test.YtogdahbbogimcaaGreatDoorBaseZ
import Derived.Lib.Builder
import Derived.Lib.AppendStr
import Derived.Lib.UnsafeStr
import Derived.Lib.OthersKept
import Derived.Lib.Walk
import Derived.Lib.ItoaMem
import Derived.BigCall
import Derived.BigGuard
set_option maxRecDepth 100000
set_option maxHeartbeats 6400000
namespace Go.Proofs.YtogdahbbogimcaaGreatDoor
open Go.RowKit Go.Shelf
open Go.Lib (hid)
attribute [local go_sem] Oper.semAt_some
structure Pc (len:Nat) where
 i:Nat
 v:Nat
 hi:i<len∨len=0
 hv:v<1000000000
def pcAt (xs:List Nat) (hx:∀ x∈xs,x<1000000000) (j:Nat):Pc xs.length:=
 if h:j<xs.length then ⟨j,xs[j],.inl h,hx _ (List.getElem_mem h)⟩ else ⟨0,0,by omega,by decide⟩
theorem pcAt_val {xs:List Nat} {hx:∀ x∈xs,x<1000000000} {j:Nat} (h:j<xs.length):(pcAt xs hx j).i=j∧(pcAt xs hx j).v=xs[j]:=by
 unfold pcAt;rw [dif_pos h];exact ⟨rfl,rfl⟩
def down (xs:List Nat) (hx:∀ x∈xs,x<1000000000) (k:Nat):List (Pc xs.length):=(List.range k).map fun j=>pcAt xs hx (xs.length-1-j)
theorem down_succ (xs:List Nat) (hx:∀ x∈xs,x<1000000000) (k:Nat):down xs hx (k+1)=down xs hx k ++ [pcAt xs hx (xs.length-1-k)]:=by simp [down,List.range_succ]
theorem down_length (xs:List Nat) (hx:∀ x∈xs,x<1000000000) (k:Nat):(down xs hx k).length=k:=by simp [down]
def KeepB (n₀ Bs:Nat) (W W':World):Prop:=∀ k,(k<n₀∨k=Bs)→W'.heap[k]?=W.heap[k]?
theorem KeepB.refl (n₀ Bs:Nat) (W:World):KeepB n₀ Bs W W:=fun _ _=>rfl
theorem KeepB.trans {n₀ Bs:Nat} {A B C:World} (h:KeepB n₀ Bs A B) (k:KeepB n₀ Bs B C):KeepB n₀ Bs A C:=fun i hi=>(k i hi).trans (h i hi)
theorem KeepB.cell {n₀ Bs:Nat} {A B:World} (h:KeepB n₀ Bs A B) {a:Addr} (ha:a.block<n₀∨a.block=Bs):B.cell? a=A.cell? a:=World.cell?_of_block (h a.block ha)
theorem KeepB.put {n₀ Bs:Nat} {w:World} (h1:n₀≤w.heap.size) (h2:Bs<w.heap.size) (W:World) (l:Nat) (o o':Obj) (hl:w.heap.size≤l) (_:W.heap[l]?=some o) (_:o.isCells=false) (_:o.isWalk=false):KeepB n₀ Bs W (W.putObj l o'):=fun k hk=>by
 simp only [World.putObj]
 rw [Array.getElem?_setIfInBounds,if_neg (by omega)]
theorem KeepB.of_below {n₀ Bs B:Nat} {W W':World} (h:Below B W W') (h1:n₀≤B) (h2:Bs<B):KeepB n₀ Bs W W':=fun k hk=>h.block k (by omega)
theorem back1_in (F:Fence) (n:Nat) (hf:F.fn 125) (hro:F.round=none) (_hn:1≤n) (l Bs n₀:Nat) (sv:Value) (xs:List Nat) (hx:∀ x∈xs,x<1000000000) (hlen:xs.length≤4398046511104) (J Jx:List (Pc xs.length)→World→Prop)
  (hY:∀ pre (x:Pc xs.length) W,J pre W→pre.length<xs.length→YieldAt F (n-1) Tryz.prog l #[.int .i64 (x.i:Int),.int .u64 (x.v:Int)] W fun e W' =>
   (e=.returned (.bool true)∧J (pre ++ [x]) W'∧KeepB n₀ Bs W W')∨(e=.returned (.bool false)∧Jx (pre ++ [x]) W'))
  (W:World) (hBs:W.cell? ⟨Bs,0,none⟩=some sv) (hfr:∀ a k c,sv=.slice (some a) k c→a.block<n₀) (hI:U64s W sv xs) (h0:J [] W) :
  CallsIn F n Tryz.prog 125 #[.func (.yield l) #[] #[],.pointer (some ⟨Bs,0,none⟩)] W fun e W'=>(∃ v,e=.returned v) ∧
   ((∃ ys,ys=down xs hx xs.length∧J ys W')∨(∃ pre,(∃ k,k≤xs.length∧pre=down xs hx k)∧Jx pre W')):=by
 obtain ⟨p,c,rfl,hc,hm⟩:=hI.slice
 unfold maxLen at hm
 have HFR:=hid hfr
 clear hfr
 refine callsIn_of_wp Tryz.func125 rfl hf ?_ hro
 simp only [Tryz.ntmps125,List.size_toArray,List.length_cons,List.length_nil,Nat.reduceAdd,Nat.reduceSub,Array.replicate_succ,Array.replicate_zero,List.push_toArray,List.append_toArray,List.nil_append,List.cons_append]
 gi_wp2
 gi_loopw [3] (fun i wr=>∃ k:Nat,k≤xs.length∧i=.int .i64 ((xs.length:Int)-1-k)∧J (down xs hx k) wr∧KeepB n₀ Bs W wr)
  (fun i _=>(intOf i+1).toNat)
 case atStart=>exact ⟨0,Nat.zero_le _,by simp,h0,KeepB.refl _ _ _⟩
 case round =>
  obtain ⟨k,hk,rfl,hJs,hnx⟩:=hrel
  by_cases hlt:k<xs.length
  ·obtain ⟨b,off,rfl,hbb,hcell⟩:=hI.cells (by omega)
   have hbn:b<n₀:=HFR.out _ _ _ rfl
   have hcx:=(hnx.cell (a:=⟨b,off+(xs.length-1-k),none⟩) (.inl hbn)).trans (hcell (xs.length-1-k) (by omega))
   have hcb:=(hnx.cell (a:=⟨Bs,0,none⟩) (.inr rfl)).trans hBs
   obtain ⟨fn,tmps,assign,body,hy,hR⟩:=hY _ (pcAt xs hx (xs.length-1-k)) wr hJs (by rw [down_length];exact hlt)
   rw [(pcAt_val (by omega)).1,(pcAt_val (by omega)).2] at hy
   have hi:((xs.length:Int)-1-(k:Int))=((xs.length-1-k:Nat):Int):=by omega
   rw [hi]
   clear hcell
   have HD:=hid (down_succ xs hx k)
   gi_wp2
   refine hR.mono ?_
   rintro e W3 (⟨rfl,hJ3,hk3⟩ | ⟨rfl,hJx3⟩)
   ·gi_wp2
    go_roundw
    case rel=>exact ⟨k+1,by omega,congrArg _ (by omega),by rw [HD.out];exact hJ3,hnx.trans hk3⟩
    case measure=>simp [intOf]
   ·gi_wp2
    refine bodyPost_ret (results_none rfl _ _ _) rfl ?_
    exact ⟨⟨_,rfl⟩,.inr ⟨_,⟨k+1,by omega,HD.out.symm⟩,hJx3⟩⟩
  ·obtain rfl:k=xs.length:=by omega
   have hi:((xs.length:Int)-1-(xs.length:Int)) = -1:=by omega
   rw [hi]
   gi_wp2
   go_end0
   exact ⟨⟨_,rfl⟩,.inl ⟨_,rfl,hJs⟩⟩
theorem back_in (F:Fence) (n:Nat) (hf:F.fn 97) (hro:F.round=none) (a:Option Addr) (len cap:Nat) (w:World) :
  CallsIn F n Tryz.prog 97 #[.slice a len cap] w fun e w'=>e=.returned (.func (.func 125) #[] #[.pointer (some ⟨w.heap.size,0,none⟩)])∧w'=w.alloc (.cells #[.slice a len cap] 112):=by
 refine callsIn_of_wp Tryz.func97 rfl hf ?_ hro
 simp only [Tryz.ntmps97,List.size_toArray,List.length_cons,List.length_nil,Nat.reduceAdd,Nat.reduceSub,Array.replicate_succ,Array.replicate_zero,List.push_toArray,List.append_toArray,List.nil_append,List.cons_append]
 gi_wp2
 go_ret
 exact ⟨rfl,rfl⟩
theorem back_stops (F:Fence) (n:Nat) (hf:F.fn 125) (hro:F.round=none) (hn:1≤n) (Bs n₀:Nat) (sv:Value) (xs:List Nat) (hx:∀ x∈xs,x<1000000000) (hlen:xs.length≤4398046511104) (w:World) (hBs:Bs<w.heap.size)
  (hfr:∀ a k c,sv=.slice (some a) k c→a.block<n₀) (hc:w.cell? ⟨Bs,0,none⟩=some sv) (hI:U64s w sv xs) :
  SeqStopsK F n Tryz.prog 125 #[.pointer (some ⟨Bs,0,none⟩)] (fun x:Pc xs.length=>#[Value.int .i64 (x.i:Int),Value.int .u64 (x.v:Int)]) (KeepB n₀ Bs) (fun ys=>ys=down xs hx xs.length)
   (fun pre=>∃ k,k≤xs.length∧pre=down xs hx k) xs.length w:=fun l J Jx W hW _ _ hY h0=>by
 have hc':=(hW.cell (p:=⟨Bs,0,none⟩) hBs).trans hc
 exact back1_in F n hf hro hn l Bs n₀ sv xs hx hlen J Jx hY W hc' hfr (hI.below hW) h0
end Go.Proofs.YtogdahbbogimcaaGreatDoor
namespace Go.Proofs.YtogdahbbogimcaaGreatDoor
open Go.RowKit
theorem bld_size:(Tryz.prog.info? 155).map (·.size)=some 2:=by kernel_rfl
theorem bld_lies:liesAt Tryz.prog Tryz.prog.depth 155 (2/Tryz.prog.cellsOf 155) 0 155 1=true:=by kernel_rfl
theorem bld_byte:(Tryz.prog.info? 5).map (fun i=>(i.zero,i.size,i.bytes))=some (some (.int .u8 0),1,1):=by kernel_rfl
theorem copyCheck_used (b:Nat) (w:World) (h0:w.cell? ⟨b,0,none⟩=some (.pointer (some ⟨b,0,none⟩))) :
  Calls Tryz.prog 124 #[.pointer (some ⟨b,0,none⟩)] w fun e w'=>e=.returned (.tuple #[])∧w'=w:=by
 obtain ⟨j,hj,_⟩:=Option.map_eq_some_iff.1 bld_size
 go_enter Tryz.func124,Tryz.ntmps124
 go_wp2
 rw [Lib.run_neq_ptr_same w _ Tryz.underlying152 hj]
 go_wp2
 go_end0
 exact ⟨rfl,rfl⟩
theorem copyCheck_fresh (b:Nat) (w:World) (h0:w.cell? ⟨b,0,none⟩=some (.pointer none)) (hsh:w.shape? b=some (155,2)) (hfz:w.frozen? ⟨b,0,none⟩=false) :
  Calls Tryz.prog 124 #[.pointer (some ⟨b,0,none⟩)] w fun e w'=>e=.returned (.tuple #[])∧w'=w.setCell ⟨b,0,none⟩ (.pointer (some ⟨b,0,none⟩)):=by
 obtain ⟨j,hj,hjs⟩:=Option.map_eq_some_iff.1 bld_size
 go_enter Tryz.func124,Tryz.ntmps124
 go_wp2
 rw [Lib.run_to_unsafe w ⟨b,0,none⟩ Tryz.underlying152 Tryz.underlying200 hj (by rw [hjs];decide) hsh (Nat.zero_lt_succ 1)]
 simp only [Result.andThen]
 rw [Oper.upon_value]
 go_wp2
 rw [run_callFunc_extern Tryz.func152 (by kernel_rfl) (by kernel_rfl) (by kernel_rfl) (e:=Extern.AbiNoEscape.same) (by kernel_rfl)]
 rw [Lib.run_noEscape]
 simp only [Result.andThen]
 rw [Oper.upon_value]
 go_wp2
 rw [Lib.run_from_unsafe w ⟨b,0,none⟩ Tryz.underlying200 Tryz.underlying152 hj hsh bld_lies]
 simp only [Result.andThen]
 rw [Oper.upon_value]
 go_wp2
 go_end0
 exact ⟨rfl,rfl⟩
theorem own_kind {w:World} {B:Nat} {e:TypeId} {v:Value} {n:Nat} {xs:List Value} (h:w.ownsRow B e 1 v n xs):∀ g,v.ownBlock=some g→∃ c fz,w.heap[g]?=some (.cells c e fz):=by
 intro g hg
 rcases h.2 with ⟨rfl,_⟩ | ⟨g',cap,cur,rfl,_,hgg,_⟩
 ·simp [Value.ownBlock] at hg
 ·simp [Value.ownBlock] at hg
  subst hg
  exact ⟨cur,(0,0),hgg⟩
abbrev Kept8 (b:Nat) (w w':World):Prop:=Lib.OthersKept 5 (some b) w w'
abbrev BAt (B b:Nat) (p:Value) (bs:List Value) (w:World):Prop:=Lib.BuilderAt 155 5 B b p bs w
abbrev IsB (B b:Nat) (bs:List Value) (w:World):Prop:=Lib.IsBuilder 155 5 B b bs w
theorem copyCheck_any (B b:Nat) (bs:List Value) (w:World) (h:IsB B b bs w) :
  Calls Tryz.prog 124 #[.pointer (some ⟨b,0,none⟩)] w fun e w'=>e=.returned (.tuple #[])∧BAt B b (.pointer (some ⟨b,0,none⟩)) bs w'∧Below B w w'∧Kept8 b w w':=by
 rcases h with h | h
 ·refine (copyCheck_fresh b w h.cell0 h.shape h.frozen0).mono ?_
  rintro e w' ⟨rfl,rfl⟩
  exact ⟨rfl,h.used _,(Below.refl B w).setCell (p:=⟨b,0,none⟩) h.1 _,(Lib.OthersKept.refl _ _ w).setCell ⟨b,0,none⟩ rfl _⟩
 ·refine (copyCheck_used b w h.cell0).mono ?_
  rintro e w' ⟨rfl,rfl⟩
  exact ⟨rfl,h,Below.refl B _,Lib.OthersKept.refl _ _ _⟩
theorem builder_WriteByte (B b:Nat) (bs:List Value) (c:Int) (w:World) (h:IsB B b bs w) (hlen:bs.length+1≤140737488355328) (hBw:B≤w.heap.size) :
  Calls Tryz.prog 96 #[.pointer (some ⟨b,0,none⟩),.int .u8 c] w fun e w'=>e=.returned .nilIface∧BAt B b (.pointer (some ⟨b,0,none⟩)) (bs ++ [.int .u8 c]) w'∧Below B w w'∧Kept8 b w w':=by
 obtain ⟨i0,hi,hz0,hz1,hz2⟩:=info_parts bld_byte
 go_enter Tryz.func96,Tryz.ntmps96
 go_wp2_with (go_at_call 124;refine (copyCheck_any B b bs _ h).mono ?_)
 rintro e w1 ⟨rfl,h1,hb1,hk1⟩
 obtain ⟨hB,v,hbk,hown,hne⟩:=h1
 have c0:w1.cell? ⟨b,0,none⟩=some (.pointer (some ⟨b,0,none⟩)):=by rw [Lib.cell_of_heap hbk];rfl
 have c1:w1.cell? ⟨b,1,none⟩=some v:=by rw [Lib.cell_of_heap hbk];rfl
 go_wp2_with (at_builtin;refine wpList_append_own _ rfl _ _ 153 rfl B 5 i0 (.int .u8 0) 1 1 Tryz.underlying153 hi hz0 hz1 hz2 rfl (by decide) _ _ _ rfl (hown.alloc _) ⟨w1.heap.size,0,none⟩ 1 1 [.int .u8 c] rfl rfl ?c1 ?c2 ?c3 ?c4 ?c5 ?_)
 case c1 =>
  intro j u hj
  match j,hj with
  | 0,hj=>simp at hj;subst hj;simp [Addr.add]
 case c2=>intro u hu;simp at hu;subst hu;rfl
 case c3=>unfold maxLen;omega
 case c4=>omega
 case c5=>have:=hb1.size;simp;omega
 intro v' w2 hown' hgrow _
 have hlt:b<w1.heap.size:=by
  rcases Nat.lt_or_ge b w1.heap.size with h' | h'
  ·exact h'
  ·simp [Array.getElem?_eq_none h'] at hbk
 have hb2:w2.heap[b]?=some (.cells #[.pointer (some ⟨b,0,none⟩),v] 155 (0,0)):=by
  rw [hgrow.block b (by simp;omega) (fun e=>hne e.symm),Lib.alloc_old w1 _ b hlt]
  exact hbk
 have d0:w2.cell? ⟨b,0,none⟩=some (.pointer (some ⟨b,0,none⟩)):=by rw [Lib.cell_of_heap hb2];rfl
 have d1:w2.cell? ⟨b,1,none⟩=some v:=by rw [Lib.cell_of_heap hb2];rfl
 have f1:w2.frozen? ⟨b,1,none⟩=false:=Lib.frozen_of_heap hb2 1
 obtain ⟨g,cap,rfl⟩ : ∃ g cap,v'=.slice (some ⟨g,0,none⟩) (bs.length+1) cap:=by
  rcases hown'.2 with ⟨_,h0⟩ | ⟨g,cap,cur,hv,_⟩
  ·omega
  ·exact ⟨g,cap,hv⟩
 go_wp2
 go_ret
 refine ⟨rfl,?_,?_,?_⟩
 ·exact Lib.BuilderAt.put (T:=155) (e:=5) hB hb2 (bs':=bs ++ [.int .u8 c]) (by simpa using hown') (by decide)
 ·exact ((hb1.alloc (by have:=hb1.size;omega) _).grown hgrow (by have:=hb1.size;simp;omega) (fun k hk=>(hown.lt k hk).1)).setCell (p:=⟨b,1,none⟩) hB _
 ·exact ((hk1.alloc _).grown hgrow (own_kind (hown.alloc _))).setCell ⟨b,1,none⟩ rfl _
theorem builder_WriteString (B b:Nat) (bs:List Value) (s:ByteArray) (w:World) (h:IsB B b bs w) (hlen:bs.length+s.size≤140737488355328) (hBw:B≤w.heap.size) :
  Calls Tryz.prog 99 #[.pointer (some ⟨b,0,none⟩),.string s] w fun e w'=>e=.returned (.tuple #[.int .i64 s.size,.nilIface])∧BAt B b (.pointer (some ⟨b,0,none⟩)) (bs++Lib.strCells s) w'∧Below B w w'∧Kept8 b w w':=by
 obtain ⟨i0,hi,hz0,hz1,hz2⟩:=info_parts bld_byte
 go_enter Tryz.func99,Tryz.ntmps99
 go_wp2_with (go_at_call 124;refine (copyCheck_any B b bs _ h).mono ?_)
 rintro e w1 ⟨rfl,h1,hb1,hk1⟩
 obtain ⟨hB,v,hbk,hown,hne⟩:=h1
 have c0:w1.cell? ⟨b,0,none⟩=some (.pointer (some ⟨b,0,none⟩)):=by rw [Lib.cell_of_heap hbk];rfl
 have c1:w1.cell? ⟨b,1,none⟩=some v:=by rw [Lib.cell_of_heap hbk];rfl
 go_wp2_with (at_builtin;refine Lib.wpList_append_own_string _ rfl _ _ 153 9 rfl B 5 i0 Tryz.underlying153 Tryz.underlying9 hi hz0 hz1 hz2 _ _ _ rfl hown s rfl ?c3 ?c4 ?c5 ?_)
 case c3=>unfold maxLen;omega
 case c4=>omega
 case c5=>have:=hb1.size;omega
 intro v' w2 hown' hgrow _
 have hlt:b<w1.heap.size:=by
  rcases Nat.lt_or_ge b w1.heap.size with h' | h'
  ·exact h'
  ·simp [Array.getElem?_eq_none h'] at hbk
 have hb2:w2.heap[b]?=some (.cells #[.pointer (some ⟨b,0,none⟩),v] 155 (0,0)):=by
  rw [hgrow.block b hlt (fun e=>hne e.symm)]
  exact hbk
 have d0:w2.cell? ⟨b,0,none⟩=some (.pointer (some ⟨b,0,none⟩)):=by rw [Lib.cell_of_heap hb2];rfl
 have d1:w2.cell? ⟨b,1,none⟩=some v:=by rw [Lib.cell_of_heap hb2];rfl
 have f1:w2.frozen? ⟨b,1,none⟩=false:=Lib.frozen_of_heap hb2 1
 obtain ⟨ao,n',cap,rfl⟩ : ∃ ao n' cap,v'=.slice ao n' cap:=by
  rcases hown'.2 with ⟨hv,_⟩ | ⟨g,cap,cur,hv,_⟩
  ·exact ⟨_,_,_,hv⟩
  ·exact ⟨_,_,_,hv⟩
 go_wp2
 go_ret2
 refine ⟨rfl,?_,?_,?_⟩
 ·exact Lib.BuilderAt.put (T:=155) (e:=5) hB hb2 (bs':=bs++Lib.strCells s) (by simpa [Lib.strCells_length] using hown') (by decide)
 ·exact (hb1.grown hgrow (by have:=hb1.size;omega) (fun k hk=>(hown.lt k hk).1)).setCell (p:=⟨b,1,none⟩) hB _
 ·exact (hk1.grown hgrow (own_kind hown)).setCell ⟨b,1,none⟩ rfl _
end Go.Proofs.YtogdahbbogimcaaGreatDoor
namespace Go.Proofs.YtogdahbbogimcaaGreatDoor
open Go.RowKit Go.Sort
open Go.Lib (hid)
theorem holds_zero0 (w:World) (T:TypeId) (nd:Nat) (hs:nd≤24):Holds (fun (b:UInt8)=>Value.int .u8 (b.toNat:Int)) (w.alloc (.cells Lib.zeros24 T)) w.heap.size 0 (Array.replicate nd (0:UInt8)):=fun j hj=>by
 have hj':j<nd:=by simpa using hj
 refine ⟨?_,World.frozen?_alloc_new _ _ _ _⟩
 rw [World.cell?_alloc_new,Lib.zeros24_at _ (by omega),getElem!_pos _ j hj]
 simp
theorem fin_zero (w:World) (o:Obj) (dk:Array UInt8) (k:Nat):Below w.heap.size w ((putRow (fun (b:UInt8)=>Value.int .u8 (b.toNat:Int)) (w.alloc o) w.heap.size 0 dk).drewN k):=by
 rw [alloc_eq_grow]
 obtain ⟨os',_,e⟩:=putRow_grow_new (fun (b:UInt8)=>Value.int .u8 (b.toNat:Int)) w #[o] w.heap.size 0 dk (Nat.le_refl _)
 rw [e]
 exact ⟨rfl,rfl,rfl,by simp [grow,World.drewN],fun i hi=>by simp [grow,World.drewN,Array.getElem?_append,hi]⟩
theorem formatUint_in (u:Nat) (hu64:u<18446744073709551616) (w:World) (hw:Good w) :
  Calls Tryz.prog 126 #[.int .u64 u,.int .i64 10] w fun e w'=>e=.returned (.string ⟨(Lib.decDigits u).toArray⟩)∧Below w.heap.size w w':=by
 by_cases hs:u<100
 ·have hs':(u:Int)<100:=by omega
  go_enter Tryz.func126,Tryz.ntmps126
  go_wp2_with (go_at_call 133;refine (Tryz.internal_strconv_small u hs _).mono ?_;rintro e w' ⟨rfl,rfl⟩)
  go_ret
  exact ⟨rfl,Below.refl _ _⟩
 ·have hu1:1≤u:=by omega
  have hs':decide (u<100)=false:=by simpa using hs
  have hs2:decide ((u:Int)<100)=false:=by simp;omega
  have hnd20:Lib.nDigits u≤20:=by have:=Lib.numDigits_eq u hu1 hu64;split at this <;> omega
  have hb3:Lib.nDigits u≤23:=by omega
  have hal:Tryz.prog.arrayLen 183=24:=by simp [Program.arrayLen,Tryz.underlying183]
  have hsl1:∀ W,(Instr.sliceAt 183 (.pointer (some ⟨w.heap.size,0,none⟩)) none (some (.int .i64 (Lib.nDigits u:Int))) none).run Tryz.prog W=.ok (.slice (some ⟨w.heap.size,0,none⟩) (Lib.nDigits u) 24) W:=fun W=>by
   rw [run_sliceAt_array_h W 183 ⟨w.heap.size,0,none⟩ (by simp [Program.arrayLen,Program.elem,Tryz.underlying183]) .i64 (Lib.nDigits u:Int) (by omega) (by rw [hal];omega)]
   go_simp
  have hH0:=holds_zero0 w 183 (Lib.nDigits u) (by omega)
  have hfmt:=Tryz.internal_strconv_formatBase10 w.heap.size 0 24 u (Array.replicate (Lib.nDigits u) 0) (w.alloc (.cells Lib.zeros24 183)) hH0 (by rw [Array.size_replicate];exact Lib.lt_pow_nDigits u) hu64 (by rw [Array.size_replicate];omega)
  rw [Array.size_replicate] at hfmt
  have HH0:=hid hH0
  clear hH0 hal
  go_enter Tryz.func126,Tryz.ntmps126
  go_wp2_with (first
   | (go_at_call 134;refine (Tryz.internal_strconv_numDigits u hu1 hu64 _ (Lib.tabIs_alloc hw.pow _)).mono ?_;rintro e w' ⟨rfl,rfl⟩))
  go_at_call 135
  refine hfmt.mono ?_
  rintro e w' ⟨rfl,k,v',dk,rfl,hF⟩
  have hcv:(convert 153 9 (.slice (some ⟨w.heap.size,0,none⟩) (Lib.nDigits u) 24)).run Tryz.prog ((putRow (fun (b:UInt8)=>Value.int .u8 (b.toNat:Int)) (w.alloc (.cells Lib.zeros24 183)) w.heap.size 0 dk).drewN k)=.ok (.string ⟨(Lib.decDigits u).toArray⟩) ((putRow (fun (b:UInt8)=>Value.int .u8 (b.toNat:Int)) (w.alloc (.cells Lib.zeros24 183)) w.heap.size 0 dk).drewN k):=by
   have h:=run_convert_bytes_back (P:=Tryz.prog) ((putRow (fun (b:UInt8)=>Value.int .u8 (b.toNat:Int)) (w.alloc (.cells Lib.zeros24 183)) w.heap.size 0 dk).drewN k) 153 9 5 ⟨w.heap.size,0,none⟩ 24 (Lib.decDigits u) Tryz.underlying153 Tryz.underlying5 Tryz.underlying9 (fun j hj=>by
    rw [Lib.row_is_numeral hF j hj,Lib.add_plain,World.cell?_drewN]
    exact cell?_putRow (fun (b:UInt8)=>Value.int .u8 (b.toNat:Int)) _ w.heap.size 0 _ dk HH0.out (by rw [hF.size,Array.size_replicate]) j (by rw [hF.size];rw [Lib.decDigits_length] at hj;exact hj))
   rw [Lib.decDigits_length] at h
   exact h
  go_wp2
  go_ret
  exact ⟨rfl,fin_zero w _ dk k⟩
theorem sh_FormatUint (u:Nat) (hu64:u<18446744073709551616) (w:World) (hw:Good w) :
  Calls Tryz.prog 98 #[.int .u64 u,.int .i64 10] w fun e w'=>e=.returned (.string ⟨(Lib.decDigits u).toArray⟩)∧Below w.heap.size w w':=by
 go_enter Tryz.func98,Tryz.ntmps98
 go_wp2_with (go_at_call 126;refine (formatUint_in u hu64 _ hw).mono ?_;rintro e w' ⟨rfl,hb⟩)
 go_ret
 exact ⟨rfl,hb⟩
theorem sh_FormatUint_s (u:Nat) (hu64:u<18446744073709551616) (w:World) (hw:Good w) :
  Calls Tryz.prog 98 #[.int .u64 u,.int .i64 10] w fun e w'=>∃ s:ByteArray,e=.returned (.string s)∧s.data.toList=Lib.decDigits u∧Below w.heap.size w w':=
 (sh_FormatUint u hu64 w hw).mono fun _ _ h=>⟨_,h.1,by simp,h.2⟩
end Go.Proofs.YtogdahbbogimcaaGreatDoor
