import Derived.Test.YtgohnjdgoglcfaaGreatDoorTxZ
import Derived.Deep.SlicePairs
import Derived.ProofKit
import Derived.WideShapes
import Derived.Test.YtgohnjdgoglcfaaGreatDoorBaseZ
import Derived.Test.YtgohnjdgoglcfaaGreatDoorCards
import Derived.Test.YtgohnjdgoglcfaaGreatDoorTie
import Derived.WalkKit
import Derived.OpenShut
import Derived.Carry
import Derived.Deep.DeepHandedRow
import Derived.Lib.LaidTab
import Derived.Shelf.Vars
import Derived.Stop.LaidErr
set_option maxRecDepth 100000
namespace Go.Proofs.YtgohnjdgoglcfaaGreatDoor
open Go.ChangeShapes Go.WideShapes Go.RowKit Go.Deep
theorem spot_none {w:World} {a:Addr} {v:Value} (h:w.cell? (a.add 0)=some v):a=⟨a.block,a.off,none⟩:=by
 have h':w.cell? a=some v:=by simpa [Addr.add] using h
 have:=World.cell?_spot h'
 cases a
 simp_all
theorem add_none (b off n:Nat):(⟨b,off,none⟩ : Addr).add n=⟨b,off+n,none⟩:=by
 unfold Addr.add
 split
 ·rename_i h;rw [h];rfl
 ·rfl
theorem open_pairs {H:Type} {enc:TypeId × Value→H} {w:World} {spare:Nat→Bool} {held:Bool} {base:Nat} {r:Reach} {b0:Nat} {t e:TypeId} {f0 f1:Field} {v:Value} {d:DataW H} {ps:List MemPlace}
  (ht:Tryz.prog.underlying t=some (.slice e)) (he:Tryz.prog.underlying e=some (.struct #[f0,f1])) (ce:Tryz.prog.cellsOf e=2) (o0:f0.offset=0) (o1:f1.offset=1) (c0:Tryz.prog.cellsOf f0.type=1) (c1:Tryz.prog.cellsOf f1.type=1)
  (s0:Tryz.prog.underlying f0.type=some .string) (s1:Tryz.prog.underlying f1.type=some .string)
  (hv:Value.okWide Tryz.prog w r b0 t v) (h:DataW.Trod enc Tryz.prog w base spare held t v d ps):∃ L:List Pair,Pairs w v L:=by
 obtain ⟨a0,len0,cap0,rfl⟩:=okWide_slice ht hv
 obtain ⟨fuel,hf⟩:=h
 rcases open_slice_pairs ht he ce o0 o1 c0 c1 hf with ⟨hcs,_⟩ | ⟨a,len,cap,m,n,V0,V1,D0,D1,P0,P1,hcs,_,hl,hm,hmm,_,hi⟩
 ·simp only [Value.cells,List.cons.injEq,Value.slice.injEq,and_true] at hcs
  obtain ⟨rfl,rfl,rfl⟩:=hcs
  exact ⟨[],none,0,rfl,Nat.zero_le _,Nat.zero_le _,fun h=>absurd h (by simp)⟩
 ·simp only [Value.cells,List.cons.injEq,Value.slice.injEq,and_true] at hcs
  obtain ⟨rfl,rfl,rfl⟩:=hcs
  have hle:len0≤m:=by rw [hmm];split <;> omega
  have hstr:∀ i,i<len0→∃ s:ByteArray × ByteArray,V0 i=.string s.1∧V1 i=.string s.2:=by
   intro i him
   obtain ⟨_,_,h0,h1⟩:=hi i (by omega)
   obtain ⟨x,hx,_⟩:=DataW.trod_string s0 h0
   obtain ⟨y,hy,_⟩:=DataW.trod_string s1 h1
   exact ⟨(x,y),by simpa using hx,by simpa using hy⟩
  obtain ⟨q,hq⟩:=choose_lt hstr
  refine ⟨(List.range len0).map q,some a,cap0,by simp,by simpa using hl,hm,fun h0=>?_⟩
  have h0':0<len0:=by simpa using h0
  have e0:=(hi 0 (by omega)).1
  rw [Nat.zero_mul] at e0
  have ea:=spot_none e0
  refine ⟨a.block,a.off,congrArg some ea,?_,fun i hil=>?_⟩
  ·exact World.block_lt_of_cell? w a (u:=V0 0) (by simpa [Addr.add] using e0)
  ·have hil':i<len0:=by simpa using hil
   obtain ⟨h1,h2,_,_⟩:=hi i (by omega)
   rw [ea,add_none] at h1 h2
   obtain ⟨q1,q2⟩:=hq i hil'
   simp only [List.getElem_map,List.getElem_range]
   refine ⟨?_,?_⟩
   ·rw [h1,q1]
   ·rw [show a.off+i*2+1=a.off+(i*2+1) by omega,h2,q2]
end Go.Proofs.YtgohnjdgoglcfaaGreatDoor
namespace Go.Proofs.YtgohnjdgoglcfaaGreatDoor
open Go.ChangeShapes Go.WideShapes Go.ChangeAt Go.RowKit
theorem and_true_of {a b:Bool} (h:a=true) (k:b=true):(a && b)=true:=by rw [h,k];rfl
theorem own:ownKnob Tryz.prog.godebug=none:=by kernel_rfl
theorem laidOut:laidOutB Tryz.prog=true:=by kernel_rfl
theorem gPowType:(Tryz.prog.globals[1]?).map (·.type)=some 240:=by kernel_rfl
theorem cellsPow:Tryz.prog.cellsOf 240=20:=by kernel_rfl
theorem cellsU64:Tryz.prog.cellsOf 168=1:=by kernel_rfl
theorem rowMax:((begin Tryz.prog (fun _ _=>0) default).world.heap[0]?).bind Obj.row?=some (#[.int .i64 0],3):=by kernel_rfl
theorem rowLast:(((begin Tryz.prog (fun _ _=>0) default).world.heap[5]?).bind Obj.row?).isSome=true:=by kernel_rfl
theorem good_of_laid {W:World} (hL:laidMetH Tryz.prog Rows.polygonHullsRow.laid W) (hS:W.ShapedOpen Tryz.prog):Good W:=by
 have h:laidMet Tryz.prog Rows.polygonHullsRow.laid W:=hL
 refine ⟨Lib.tabIs_of_head (k := .u64) (zs := Lib.pow10Tab) (rest := [("strconv.ErrRange", Rows.laid_strconv_ErrRange), ("strconv.ErrSyntax", Rows.laid_strconv_ErrSyntax)]) gPow gPowType Tryz.underlying240 Tryz.underlying168 cellsU64 cellsPow (laidMet.tail (laidMet.tail h)), ?_, ?_⟩
 ·exact cell_of_shapedOpen_int hS (of_decide_eq_true (by kernel_rfl)) rowMax rfl (by kernel_rfl) (by kernel_rfl) Tryz.underlying3
 ·obtain ⟨⟨zero,t⟩,h0⟩:=Option.isSome_iff_exists.1 rowLast
  obtain ⟨cs,hh,_⟩:=hS.1 5 zero t (of_decide_eq_true (by kernel_rfl)) h0
  exact (Array.getElem?_eq_some_iff.1 hh).1
theorem trodAll_below {H:Type} {enc:TypeId × Value→H} {W W':World} (hb:Below W.heap.size W W') (ts:List TypeId):∀ (vs:List Value) (ds:List (DataW H)) (ps:List MemPlace),(∀ t∈ts,Tryz.prog.readableRec t=true∧t<Tryz.prog.types.size) →
  DataW.TrodAll enc Tryz.prog W 0 (fun _=>true) true ts vs ds ps→(∀ x∈ps,x.block<W.heap.size)→DataW.TrodAll enc Tryz.prog W' 0 (fun b=>decide (b<W.heap.size)) true ts vs ds ps:=by
 induction ts with
 | nil =>
  intro vs ds ps _ h _
  obtain ⟨rfl,rfl,rfl⟩:=trodAll_nil h
  exact trodAll_mk0
 | cons t ts ih =>
  intro vs ds ps hr h hlt
  obtain ⟨v0,vs0,d0,ds0,p0,q0,rfl,rfl,rfl,h0,r0⟩:=trodAll_cons h
  obtain ⟨hr1,hr2⟩:=hr t (List.mem_cons_self ..)
  exact trodAll_cons_mk (Below.trod laidOut hr1 hr2 h0 hb (fun x hx=>hlt x (List.mem_append_left _ hx))) (ih vs0 ds0 q0 (fun u hu=>hr u (List.mem_cons_of_mem _ hu)) r0 (fun x hx=>hlt x (List.mem_append_right _ hx)))
theorem law_post {H:Type} {enc:TypeId × Value→H} {W W':World} {f:Func} {s:ChangeSpec} {args:Array Value} {ds gs:List (DataW H)} {before:List MemPlace}
  (hW:DataW.Whole enc Tryz.prog f.params.toList s.vars false W args.toList ds gs before) (hvars:s.vars=[]) (hp:∀ t∈f.params.toList,Tryz.prog.readableRec t=true∧t<Tryz.prog.types.size) (hres:f.resultTypes=#[4])
  (hfn:s.fn H ds={ results:=[.lit (.bool true)],args:=ds }) (hb:Below W.heap.size W W'):s.post enc Tryz.prog f false true false false W args (.bool true) W':=by
 have hW':=hW
 obtain ⟨p,q,hA,hV,rfl,hfz,hnd⟩:=hW
 have hlt:∀ x∈p,x.block<W.heap.size:=fun x hx=>hW'.lt x (List.mem_append_left _ hx)
 rw [hvars] at hV
 obtain ⟨rfl,rfl⟩:=trodVars_none hV
 refine ⟨ds,[],_,[],p,[],hW',?_,?_,?_,hb.frame _,fun h=>by cases h⟩
 ·rw [List.append_nil,hfn,hres]
  exact trodAll_cons_mk (shut_bool Tryz.underlying4 _) trodAll_mk0
 ·rw [List.append_nil,hfn]
  exact trodAll_below hb _ _ _ _ hp hA hlt
 ·rw [List.append_nil,hfn,hvars]
  rfl
abbrev rangeS:ByteArray:=⟨#[118,97,108,117,101,32,111,117,116,32,111,102,32,114,97,110,103,101]⟩
abbrev syntaxS:ByteArray:=⟨#[105,110,118,97,108,105,100,32,115,121,110,116,97,120]⟩
noncomputable def low:Nat:=(World.holding Tryz.prog default ⟨#[],#[],[]⟩).heap.size
def litVals:List (DataW Unit)→List Value
 | []=>[]
 | .lit (.int k n) :: r=>.int k n :: litVals r
 | _ :: r=>litVals r
def tabVals:DataW Unit→Array Value
 | .agg ds=>(litVals ds).toArray
 | _=>#[]
def layCells (h:Array Obj) (g:Nat) (cs:Array Value):Array Obj:=h.modify g fun
 | .cells _ t frozen=>.cells cs t frozen
 | o=>o
noncomputable def laidWorld (os:Os):World:=
 let w0:=World.holding Tryz.prog os ⟨#[.cells #[.string rangeS] 249,.cells #[.string syntaxS] 249],#[],[]⟩
 { w0 with heap:=layCells (layCells (layCells (layCells (layCells w0.heap 4 (tabVals Rows.laid_math_bits_deBruijn32tab)) 5 (tabVals Rows.laid_math_bits_deBruijn64tab)) 1 (tabVals Rows.laid_internal_strconv_uint64pow10))
   3 #[.iface 247 (.pointer (some ⟨low,0,none⟩))]) 2 #[.iface 247 (.pointer (some ⟨low+1,0,none⟩))] }
theorem laid_met (os:Os) (args:Array Value):laidMetH Tryz.prog Rows.polygonHullsRow.laid ((laidWorld os).forCall (fun _ _=>0) ⟨#[],args,[]⟩).memory:=
 (laidMet_of_run' 8 (by kernel_rfl) (by kernel_rfl):laidMet Tryz.prog Rows.polygonHullsRow.laid _)
end Go.Proofs.YtgohnjdgoglcfaaGreatDoor
