import Derived.Test.YtogdahbbogimcaaGreatDoorTxZ
import Derived.Laws.StructEq
namespace Go.Proofs.YtogdahbbogimcaaGreatDoor
open Go.RowKit Go.Shelf
open Go.Lib (decDigits itoa nDigits)
theorem textP_inj {p q:QP} (h:textP p=textP q):p=q:=by
 unfold textP at h
 simp only [Prod.mk.injEq] at h
 have h1:=congrArg (fun s:ByteArray=>s.data.toList) h.1
 have h2:=congrArg (fun s:ByteArray=>s.data.toList) h.2
 dsimp only at h1 h2
 exact Prod.ext (rtext_inj h1) (rtext_inj h2)
theorem textP_map_inj {L M:List QP} (h:L.map textP=M.map textP):L=M:=List.map_inj_right (fun _ _=>textP_inj) |>.1 h
theorem textP_eq (L M:List QP):decide (L.map textP=M.map textP)=decide (L=M):=by
 rw [decide_eq_decide];exact ⟨textP_map_inj,fun h=>by rw [h]⟩
theorem pointUnder:Tryz.prog.underlying 30=some (.struct (Tryz.prog.fieldsOf 30)):=by kernel_rfl
theorem pointStood:Tryz.prog.stoodInHeld 30=false:=by kernel_rfl
theorem pointGuard:Tryz.prog.eqGuardType Tryz.prog.depth 30=false:=by kernel_rfl
def partB (x y:Pair):Bool:=x.1.toList == y.1.toList && x.2.toList == y.2.toList
theorem partB_iff (x y:Pair):partB x y=decide (x=y):=by
 rw [Bool.eq_iff_iff,decide_eq_true_eq]
 unfold partB
 rw [Bool.and_eq_true,beq_iff_eq,beq_iff_eq,Lib.toList_data,Lib.toList_data,Lib.toList_data,Lib.toList_data]
 constructor
 ·rintro ⟨h1,h2⟩;exact Prod.ext (str_ext h1) (str_ext h2)
 ·rintro rfl;exact ⟨rfl,rfl⟩
theorem neqPoint (x y:Pair) (w:World):(binOp .neq 30 (.agg #[.string x.1,.string x.2]) (.agg #[.string y.1,.string y.2])).run Tryz.prog w=.ok (.bool (!partB x y)) w:=by
 rw [run_neq_struct,run_equalIn_struct _ 9999 _ _ _ pointUnder pointStood]
 have hf:(Tryz.prog.fieldsOf 30).toList=[(Tryz.prog.fieldsOf 30)[0]!,(Tryz.prog.fieldsOf 30)[1]!]:=by kernel_rfl
 have t0:((Tryz.prog.fieldsOf 30)[0]!).type=28:=by kernel_rfl
 have t1:((Tryz.prog.fieldsOf 30)[1]!).type=28:=by kernel_rfl
 have o0:((Tryz.prog.fieldsOf 30)[0]!).offset=0:=by kernel_rfl
 have o1:((Tryz.prog.fieldsOf 30)[1]!).offset=1:=by kernel_rfl
 have n0 : ((Tryz.prog.fieldsOf 30)[0]!).name ≠ "_" := of_decide_eq_true (by kernel_rfl)
 have n1 : ((Tryz.prog.fieldsOf 30)[1]!).name ≠ "_" := of_decide_eq_true (by kernel_rfl)
 have hp:∀ (cs:Array Value) (i:Nat) (v:Value),cs[i]?=some v→(part 28 cs i).run Tryz.prog w=.ok v w:=by
  intro cs i v h
  unfold part
  simp only [Sem.run_bind,Tryz.isAgg28,Result.andThen_ok,Bool.false_eq_true,if_false,h,Sem.run_pure]
 rw [hf]
 simp only [Op.eqFields,if_pos n0,if_pos n1,t0,t1,o0,o1,Sem.run_bind]
 rw [hp _ 0 (.string x.1) rfl]
 simp only [Result.andThen_ok]
 rw [hp _ 0 (.string y.1) rfl]
 simp only [Result.andThen_ok]
 rw [run_equalIn_string w 9998 _ _ _ Tryz.underlying28]
 simp only [Result.andThen_ok]
 unfold partB
 cases h1:(x.1.toList == y.1.toList)
 ·simp
 ·simp only [Bool.not_true,Bool.false_eq_true,if_false,Sem.run_bind]
  rw [hp _ 1 (.string x.2) rfl]
  simp only [Result.andThen_ok]
  rw [hp _ 1 (.string y.2) rfl]
  simp only [Result.andThen_ok]
  rw [run_equalIn_string w 9998 _ _ _ Tryz.underlying28]
  simp only [Result.andThen_ok]
  cases h2:(x.2.toList == y.2.toList) <;> simp
theorem neqGuardP (op:BinOp) (a b:Operand) (xs ys:Array Value) (w:World):(eqGuard op 30 a b (.agg xs) (.agg ys)).run Tryz.prog w=.ok () w:=run_eqGuard_agg w op _ a b xs ys pointGuard
theorem eqlPoint (x y:Pair) (w:World):(binOp .eql 30 (.agg #[.string x.1,.string x.2]) (.agg #[.string y.1,.string y.2])).run Tryz.prog w=.ok (.bool (partB x y)) w:=by
 rw [run_eql_struct,run_equalIn_struct _ 9999 _ _ _ pointUnder pointStood]
 have hf:(Tryz.prog.fieldsOf 30).toList=[(Tryz.prog.fieldsOf 30)[0]!,(Tryz.prog.fieldsOf 30)[1]!]:=by kernel_rfl
 have t0:((Tryz.prog.fieldsOf 30)[0]!).type=28:=by kernel_rfl
 have t1:((Tryz.prog.fieldsOf 30)[1]!).type=28:=by kernel_rfl
 have o0:((Tryz.prog.fieldsOf 30)[0]!).offset=0:=by kernel_rfl
 have o1:((Tryz.prog.fieldsOf 30)[1]!).offset=1:=by kernel_rfl
 have n0 : ((Tryz.prog.fieldsOf 30)[0]!).name ≠ "_" := of_decide_eq_true (by kernel_rfl)
 have n1 : ((Tryz.prog.fieldsOf 30)[1]!).name ≠ "_" := of_decide_eq_true (by kernel_rfl)
 have hp:∀ (cs:Array Value) (i:Nat) (v:Value),cs[i]?=some v→(part 28 cs i).run Tryz.prog w=.ok v w:=by
  intro cs i v h
  unfold part
  simp only [Sem.run_bind,Tryz.isAgg28,Result.andThen_ok,Bool.false_eq_true,if_false,h,Sem.run_pure]
 rw [hf]
 simp only [Op.eqFields,if_pos n0,if_pos n1,t0,t1,o0,o1,Sem.run_bind]
 rw [hp _ 0 (.string x.1) rfl]
 simp only [Result.andThen_ok]
 rw [hp _ 0 (.string y.1) rfl]
 simp only [Result.andThen_ok]
 rw [run_equalIn_string w 9998 _ _ _ Tryz.underlying28]
 simp only [Result.andThen_ok]
 unfold partB
 cases h1:(x.1.toList == y.1.toList)
 ·simp
 ·simp only [Bool.not_true,Bool.false_eq_true,if_false,Sem.run_bind]
  rw [hp _ 1 (.string x.2) rfl]
  simp only [Result.andThen_ok]
  rw [hp _ 1 (.string y.2) rfl]
  simp only [Result.andThen_ok]
  rw [run_equalIn_string w 9998 _ _ _ Tryz.underlying28]
  simp only [Result.andThen_ok]
  cases h2:(x.2.toList == y.2.toList) <;> simp
theorem eqlPts (a b:QP) (w:World):(binOp .eql 30 (.agg #[.string (tx a.1),.string (tx a.2)]) (.agg #[.string (tx b.1),.string (tx b.2)])).run Tryz.prog w=.ok (.bool (decide (a=b))) w:=by
 have h:=eqlPoint (textP a) (textP b) w
 rw [partB_iff] at h
 rw [show decide (textP a=textP b)=decide (a=b) by rw [decide_eq_decide];exact ⟨textP_inj,fun h=>by rw [h]⟩] at h
 exact h
theorem neqPts (a b:QP) (w:World):(binOp .neq 30 (.agg #[.string (tx a.1),.string (tx a.2)]) (.agg #[.string (tx b.1),.string (tx b.2)])).run Tryz.prog w=.ok (.bool (!decide (a=b))) w:=by
 have h:=neqPoint (textP a) (textP b) w
 rw [partB_iff] at h
 rw [show decide (textP a=textP b)=decide (a=b) by rw [decide_eq_decide];exact ⟨textP_inj,fun h=>by rw [h]⟩] at h
 exact h
theorem guardPts (op:BinOp) (a b:Operand) (xs ys:Array Value) (w:World):(eqGuard op 30 a b (.agg xs) (.agg ys)).run Tryz.prog w=.ok () w:=neqGuardP op a b xs ys w
end Go.Proofs.YtogdahbbogimcaaGreatDoor
