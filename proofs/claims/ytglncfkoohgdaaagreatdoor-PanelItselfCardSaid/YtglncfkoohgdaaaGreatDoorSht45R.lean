import Derived.Test.YtglncfkoohgdaaaGreatDoorBaseR
import Derived.Test.YtglncfkoohgdaaaGreatDoorCards
import Derived.Test.YtglncfkoohgdaaaGreatDoorTie
import Derived.WalkKit
import Derived.ProofKit
import Derived.OpenShut
import Derived.Carry
import Derived.Deep.DeepHandedRow
import Derived.Lib.LaidTab
import Derived.Shelf.Vars
import Derived.Stop.LaidErr
namespace Go.Proofs.YtglncfkoohgdaaaGreatDoor
open Go.ChangeShapes Go.WideShapes Go.ChangeAt Go.RowKit
theorem Ls {a b:Bool} (h:a=true) (k:b=true):(a && b)=true:=by rw [h,k];rfl
theorem own:ownKnob Tryz.prog.godebug=none:=by kernel_rfl
theorem laidOut:laidOutB Tryz.prog=true:=by kernel_rfl
theorem YJ:(Tryz.prog.globals[1]?).map (·.type)=some 322:=by kernel_rfl
theorem YK:Tryz.prog.cellsOf 322=20:=by kernel_rfl
theorem YL:Tryz.prog.cellsOf 263=1:=by kernel_rfl
theorem adG:((begin Tryz.prog (fun _ _=>0) default).world.heap[0]?).bind Obj.row?=some (#[.int .i64 0],3):=by kernel_rfl
theorem abm:(((begin Tryz.prog (fun _ _=>0) default).world.heap[5]?).bind Obj.row?).isSome=true:=by kernel_rfl
theorem IZ {W:World} (hL:laidMetH Tryz.prog Rows.panelLessRow.laid W) (hS:W.ShapedOpen Tryz.prog):Good W:=by
 have h:laidMet Tryz.prog Rows.panelLessRow.laid W:=hL
 refine ⟨Lib.tabIs_of_head (k := .u64) (zs := Lib.pow10Tab) (rest := [("strconv.ErrRange", Rows.laid_strconv_ErrRange), ("strconv.ErrSyntax", Rows.laid_strconv_ErrSyntax)]) adM YJ Tryz.underlying322 Tryz.underlying263 YL YK (laidMet.tail (laidMet.tail h)), ?_, ?_⟩
 ·exact cell_of_shapedOpen_int hS (of_decide_eq_true (by kernel_rfl)) adG rfl (by kernel_rfl) (by kernel_rfl) Tryz.underlying3
 ·obtain ⟨⟨zero,t⟩,h0⟩:=Option.isSome_iff_exists.1 abm
  obtain ⟨cs,hh,_⟩:=hS.1 5 zero t (of_decide_eq_true (by kernel_rfl)) h0
  exact (Array.getElem?_eq_some_iff.1 hh).1
theorem ED {H:Type} {enc:TypeId × Value→H} {W W':World} (hb:Below W.heap.size W W') (ts:List TypeId):∀ (vs:List Value) (ds:List (DataW H)) (ps:List MemPlace),(∀ t∈ts,Tryz.prog.readableRec t=true∧t<Tryz.prog.types.size) →
  DataW.TrodAll enc Tryz.prog W 0 (fun _=>true) true ts vs ds ps→(∀ x∈ps,x.block<W.heap.size)→DataW.TrodAll enc Tryz.prog W' 0 (fun b=>decide (b<W.heap.size)) true ts vs ds ps:=by
 induction ts with
 | nil =>
  intro vs ds ps _ h _
  obtain ⟨rfl,rfl,rfl⟩:=trodAll_nil h
  exact trodAll_mk0
 | cons t ts ih =>
  intro vs ds ps hr h hlt
  obtain ⟨v0,vs0,d0,ds0,p0,q0,rfl,rfl,rfl,h0,r0⟩:=trodAll_cons h
  obtain ⟨hr1,hr2⟩:=hr t (List.mem_cons_self ..)
  exact trodAll_cons_mk (Below.trod laidOut hr1 hr2 h0 hb (fun x hx=>hlt x (List.mem_append_left _ hx))) (ih vs0 ds0 q0 (fun u hu=>hr u (List.mem_cons_of_mem _ hu)) r0 (fun x hx=>hlt x (List.mem_append_right _ hx)))
theorem law_post {H:Type} {enc:TypeId × Value→H} {W W':World} {f:Func} {s:ChangeSpec} {args:Array Value} {ds gs:List (DataW H)} {before:List MemPlace}
  (hW:DataW.Whole enc Tryz.prog f.params.toList s.vars false W args.toList ds gs before) (hvars:s.vars=[]) (hp:∀ t∈f.params.toList,Tryz.prog.readableRec t=true∧t<Tryz.prog.types.size) (hres:f.resultTypes=#[4])
  (hfn:s.fn H ds={ results:=[.lit (.bool true)],args:=ds }) (hb:Below W.heap.size W W'):s.post enc Tryz.prog f false true false false W args (.bool true) W':=by
 have hW':=hW
 obtain ⟨p,q,hA,hV,rfl,hfz,hnd⟩:=hW
 have hlt:∀ x∈p,x.block<W.heap.size:=fun x hx=>hW'.lt x (List.mem_append_left _ hx)
 rw [hvars] at hV
 obtain ⟨rfl,rfl⟩:=trodVars_none hV
 refine ⟨ds,[],_,[],p,[],hW',?_,?_,?_,hb.frame _,fun h=>by cases h⟩
 ·rw [List.append_nil,hfn,hres]
  exact trodAll_cons_mk (shut_bool Tryz.underlying4 _) trodAll_mk0
 ·rw [List.append_nil,hfn]
  exact ED hb _ _ _ _ hp hA hlt
 ·rw [List.append_nil,hfn,hvars]
  rfl
abbrev adH:ByteArray:=⟨#[118,97,108,117,101,32,111,117,116,32,111,102,32,114,97,110,103,101]⟩
abbrev abn:ByteArray:=⟨#[105,110,118,97,108,105,100,32,115,121,110,116,97,120]⟩
noncomputable def low:Nat:=(World.holding Tryz.prog default ⟨#[],#[],[]⟩).heap.size
def I1:List (DataW Unit)→List Value
 | []=>[]
 | .lit (.int k n) :: r=>.int k n :: I1 r
 | _ :: r=>I1 r
def I4:DataW Unit→Array Value
 | .agg ds=>(I1 ds).toArray
 | _=>#[]
def sD (h:Array Obj) (g:Nat) (cs:Array Value):Array Obj:=h.modify g fun
 | .cells _ t frozen=>.cells cs t frozen
 | o=>o
noncomputable def zw (os:Os):World:=
 let w0:=World.holding Tryz.prog os ⟨#[.cells #[.string adH] 331,.cells #[.string abn] 331],#[],[]⟩
 { w0 with heap:=sD (sD (sD (sD (sD w0.heap 4 (I4 Rows.laid_math_bits_deBruijn32tab)) 5 (I4 Rows.laid_math_bits_deBruijn64tab)) 1 (I4 Rows.laid_internal_strconv_uint64pow10))
   3 #[.iface 329 (.pointer (some ⟨low,0,none⟩))]) 2 #[.iface 329 (.pointer (some ⟨low+1,0,none⟩))] }
theorem YM (os:Os) (args:Array Value):laidMetH Tryz.prog Rows.panelLessRow.laid ((zw os).forCall (fun _ _=>0) ⟨#[],args,[]⟩).memory:=
 (laidMet_of_run' 8 (by kernel_rfl) (by kernel_rfl):laidMet Tryz.prog Rows.panelLessRow.laid _)
end Go.Proofs.YtglncfkoohgdaaaGreatDoor
