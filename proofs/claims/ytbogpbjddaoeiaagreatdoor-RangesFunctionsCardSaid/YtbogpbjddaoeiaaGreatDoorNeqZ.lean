import Derived.Test.YtbogpbjddaoeiaaGreatDoorBaseZ
import Derived.Laws.StructEq
namespace Go.Proofs.YtbogpbjddaoeiaaGreatDoor
open Go.RowKit
theorem partUnder : Tryz.prog.underlying 33 = some (.struct (Tryz.prog.fieldsOf 33)) := by kernel_rfl
theorem partStood : Tryz.prog.stoodInHeld 33 = false := by kernel_rfl
theorem partGuard : Tryz.prog.eqGuardType Tryz.prog.depth 33 = false := by kernel_rfl
def partB (x y : ByteArray × ByteArray) : Bool := x.1.toList == y.1.toList && x.2.toList == y.2.toList
theorem partB_iff (x y : ByteArray × ByteArray) : partB x y = decide (x = y) := by
  rw [Bool.eq_iff_iff, decide_eq_true_eq]
  unfold partB
  rw [Bool.and_eq_true, beq_iff_eq, beq_iff_eq, Lib.toList_data, Lib.toList_data, Lib.toList_data, Lib.toList_data]
  constructor
  · rintro ⟨h1, h2⟩; exact Prod.ext (str_ext h1) (str_ext h2)
  · rintro rfl; exact ⟨rfl, rfl⟩
theorem neqPart (x y : ByteArray × ByteArray) (w : World) : (binOp .neq 33 (.agg #[.string x.1, .string x.2]) (.agg #[.string y.1, .string y.2])).run Tryz.prog w = .ok (.bool (!partB x y)) w := by
  rw [run_neq_struct, run_equalIn_struct _ 9999 _ _ _ partUnder partStood]
  have hf : (Tryz.prog.fieldsOf 33).toList = [(Tryz.prog.fieldsOf 33)[0]!, (Tryz.prog.fieldsOf 33)[1]!] := by kernel_rfl
  have t0 : ((Tryz.prog.fieldsOf 33)[0]!).type = 31 := by kernel_rfl
  have t1 : ((Tryz.prog.fieldsOf 33)[1]!).type = 31 := by kernel_rfl
  have o0 : ((Tryz.prog.fieldsOf 33)[0]!).offset = 0 := by kernel_rfl
  have o1 : ((Tryz.prog.fieldsOf 33)[1]!).offset = 1 := by kernel_rfl
  have n0 : ((Tryz.prog.fieldsOf 33)[0]!).name ≠ "_" := of_decide_eq_true (by kernel_rfl)
  have n1 : ((Tryz.prog.fieldsOf 33)[1]!).name ≠ "_" := of_decide_eq_true (by kernel_rfl)
  have hp : ∀ (cs : Array Value) (i : Nat) (v : Value), cs[i]? = some v → (part 31 cs i).run Tryz.prog w = .ok v w := by
    intro cs i v h
    unfold part
    simp only [Sem.run_bind, Tryz.isAgg31, Result.andThen_ok, Bool.false_eq_true, if_false, h, Sem.run_pure]
  rw [hf]
  simp only [Op.eqFields, if_pos n0, if_pos n1, t0, t1, o0, o1, Sem.run_bind]
  rw [hp _ 0 (.string x.1) rfl]
  simp only [Result.andThen_ok]
  rw [hp _ 0 (.string y.1) rfl]
  simp only [Result.andThen_ok]
  rw [run_equalIn_string w 9998 _ _ _ Tryz.underlying31]
  simp only [Result.andThen_ok]
  unfold partB
  cases h1 : (x.1.toList == y.1.toList)
  · simp
  · simp only [Bool.not_true, Bool.false_eq_true, if_false, Sem.run_bind]
    rw [hp _ 1 (.string x.2) rfl]
    simp only [Result.andThen_ok]
    rw [hp _ 1 (.string y.2) rfl]
    simp only [Result.andThen_ok]
    rw [run_equalIn_string w 9998 _ _ _ Tryz.underlying31]
    simp only [Result.andThen_ok]
    cases h2 : (x.2.toList == y.2.toList) <;> simp
theorem neqGuard (op : BinOp) (a b : Operand) (xs ys : Array Value) (w : World) : (eqGuard op 33 a b (.agg xs) (.agg ys)).run Tryz.prog w = .ok () w := run_eqGuard_agg w op _ a b xs ys partGuard
end Go.Proofs.YtbogpbjddaoeiaaGreatDoor
