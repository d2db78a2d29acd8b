import Derived.RangeFuncNested
import Derived.RangeFuncBound
import Derived.RangeFuncCalls
import Derived.RangeFuncBox
import Derived.RangeFuncLeaves
import Derived.Shelf.Abstract
import Derived.Shelf.RegionOpen
import Derived.WalkKit
import Derived.OwnWalkIn
import Derived.TacticsInMore
import Derived.LoopNIn
import Derived.LoopIn
import Derived.Test.YtbogpbjddaoeiaaGreatDoorU64Z
namespace Go.Proofs.YtbogpbjddaoeiaaGreatDoor
open Go.RowKit Go.Shelf
attribute [local go_sem] Oper.semAt_some
/-- an index and a piece -/
structure Pc (len : Nat) where
  i : Nat
  v : Nat
  hi : i < len ∨ len = 0
  hv : v < 1000000000
def pcAt (xs : List Nat) (hx : ∀ x ∈ xs, x < 1000000000) (j : Nat) : Pc xs.length :=
  if h : j < xs.length then ⟨j, xs[j], .inl h, hx _ (List.getElem_mem h)⟩ else ⟨0, 0, by omega, by decide⟩
theorem pcAt_val {xs : List Nat} {hx : ∀ x ∈ xs, x < 1000000000} {j : Nat} (h : j < xs.length) : (pcAt xs hx j).i = j ∧ (pcAt xs hx j).v = xs[j] := by
  unfold pcAt; rw [dif_pos h]; exact ⟨rfl, rfl⟩
/-- what has come when k rounds are over, from the last piece down -/
def down (xs : List Nat) (hx : ∀ x ∈ xs, x < 1000000000) (k : Nat) : List (Pc xs.length) := (List.range k).map fun j => pcAt xs hx (xs.length - 1 - j)
theorem down_succ (xs : List Nat) (hx : ∀ x ∈ xs, x < 1000000000) (k : Nat) : down xs hx (k + 1) = down xs hx k ++ [pcAt xs hx (xs.length - 1 - k)] := by simp [down, List.range_succ]
theorem down_length (xs : List Nat) (hx : ∀ x ∈ xs, x < 1000000000) (k : Nat) : (down xs hx k).length = k := by simp [down]
/-- what a round must keep: the blocks below n₀, and the iterator's own box -/
def KeepB (n₀ Bs : Nat) (W W' : World) : Prop := ∀ k, (k < n₀ ∨ k = Bs) → W'.heap[k]? = W.heap[k]?
theorem KeepB.refl (n₀ Bs : Nat) (W : World) : KeepB n₀ Bs W W := fun _ _ => rfl
theorem KeepB.trans {n₀ Bs : Nat} {A B C : World} (h : KeepB n₀ Bs A B) (k : KeepB n₀ Bs B C) : KeepB n₀ Bs A C := fun i hi => (k i hi).trans (h i hi)
theorem KeepB.cell {n₀ Bs : Nat} {A B : World} (h : KeepB n₀ Bs A B) {a : Addr} (ha : a.block < n₀ ∨ a.block = Bs) : B.cell? a = A.cell? a := World.cell?_of_block (h a.block ha)
theorem KeepB.put {n₀ Bs : Nat} {w : World} (h1 : n₀ ≤ w.heap.size) (h2 : Bs < w.heap.size) (W : World) (l : Nat) (o o' : Obj) (hl : w.heap.size ≤ l) (_ : W.heap[l]? = some o) (_ : o.isCells = false) (_ : o.isWalk = false) : KeepB n₀ Bs W (W.putObj l o') := fun k hk => by
  simp only [World.putObj]
  rw [Array.getElem?_setIfInBounds, if_neg (by omega)]
theorem KeepB.of_below {n₀ Bs B : Nat} {W W' : World} (h : Below B W W') (h1 : n₀ ≤ B) (h2 : Bs < B) : KeepB n₀ Bs W W' := fun k hk => h.block k (by omega)
set_option maxRecDepth 100000 in
set_option maxHeartbeats 2000000 in
theorem back1_in (F : Fence) (n : Nat) (hf : F.fn 220) (hro : F.round = none) (_hn : 1 ≤ n) (l Bs n₀ : Nat) (sv : Value) (xs : List Nat) (hx : ∀ x ∈ xs, x < 1000000000) (hlen : xs.length ≤ 4398046511104) (J Jx : List (Pc xs.length) → World → Prop)
    (hY : ∀ pre (x : Pc xs.length) W, J pre W → pre.length < xs.length → YieldAt F (n - 1) Tryz.prog l #[.int .i64 (x.i : Int), .int .u64 (x.v : Int)] W fun e W' =>
      (e = .returned (.bool true) ∧ J (pre ++ [x]) W' ∧ KeepB n₀ Bs W W') ∨ (e = .returned (.bool false) ∧ Jx (pre ++ [x]) W'))
    (W : World) (hBs : W.cell? ⟨Bs, 0, none⟩ = some sv) (hfr : ∀ a k c, sv = .slice (some a) k c → a.block < n₀) (hI : U64s W sv xs) (h0 : J [] W) :
    CallsIn F n Tryz.prog 220 #[.func (.yield l) #[] #[], .pointer (some ⟨Bs, 0, none⟩)] W fun e W' => (∃ v, e = .returned v) ∧
      ((∃ ys, ys = down xs hx xs.length ∧ J ys W') ∨ (∃ pre, (∃ k, k ≤ xs.length ∧ pre = down xs hx k) ∧ Jx pre W')) := by
  obtain ⟨p, c, rfl, hc, hm⟩ := hI.slice
  unfold maxLen at hm
  have HFR := Lib.hid hfr
  clear hfr
  refine callsIn_of_wp Tryz.func220 rfl hf ?_ hro
  simp only [Tryz.ntmps220, List.size_toArray, List.length_cons, List.length_nil, Nat.reduceAdd, Nat.reduceSub, Array.replicate_succ, Array.replicate_zero, List.push_toArray, List.append_toArray, List.nil_append, List.cons_append]
  gi_wp2
  gi_loopw [3] (fun i wr => ∃ k : Nat, k ≤ xs.length ∧ i = .int .i64 ((xs.length : Int) - 1 - k) ∧ J (down xs hx k) wr ∧ KeepB n₀ Bs W wr)
    (fun i _ => (intOf i + 1).toNat)
  case atStart => exact ⟨0, Nat.zero_le _, by simp, h0, KeepB.refl _ _ _⟩
  case round =>
    obtain ⟨k, hk, rfl, hJs, hnx⟩ := hrel
    by_cases hlt : k < xs.length
    · obtain ⟨b, off, rfl, hbb, hcell⟩ := hI.cells (by omega)
      have hbn : b < n₀ := HFR.out _ _ _ rfl
      have hcx := (hnx.cell (a := ⟨b, off + (xs.length - 1 - k), none⟩) (.inl hbn)).trans (hcell (xs.length - 1 - k) (by omega))
      have hcb := (hnx.cell (a := ⟨Bs, 0, none⟩) (.inr rfl)).trans hBs
      obtain ⟨fn, tmps, assign, body, hy, hR⟩ := hY _ (pcAt xs hx (xs.length - 1 - k)) wr hJs (by rw [down_length]; exact hlt)
      rw [(pcAt_val (by omega)).1, (pcAt_val (by omega)).2] at hy
      have hi : ((xs.length : Int) - 1 - (k : Int)) = ((xs.length - 1 - k : Nat) : Int) := by omega
      rw [hi]
      clear hcell
      have HD := Lib.hid (down_succ xs hx k)
      gi_wp2
      refine hR.mono ?_
      rintro e W3 (⟨rfl, hJ3, hk3⟩ | ⟨rfl, hJx3⟩)
      · gi_wp2
        go_roundw
        case rel => exact ⟨k + 1, by omega, congrArg _ (by omega), by rw [HD.out]; exact hJ3, hnx.trans hk3⟩
        case measure => simp [intOf]
      · gi_wp2
        refine bodyPost_ret (results_none rfl _ _ _) rfl ?_
        exact ⟨⟨_, rfl⟩, .inr ⟨_, ⟨k + 1, by omega, HD.out.symm⟩, hJx3⟩⟩
    · obtain rfl : k = xs.length := by omega
      have hi : ((xs.length : Int) - 1 - (xs.length : Int)) = -1 := by omega
      rw [hi]
      gi_wp2
      go_end0
      exact ⟨⟨_, rfl⟩, .inl ⟨_, rfl, hJs⟩⟩
set_option maxHeartbeats 1000000 in
theorem back_in (F : Fence) (n : Nat) (hf : F.fn 189) (hro : F.round = none) (a : Option Addr) (len cap : Nat) (w : World) :
    CallsIn F n Tryz.prog 189 #[.slice a len cap] w fun e w' => e = .returned (.func (.func 220) #[] #[.pointer (some ⟨w.heap.size, 0, none⟩)]) ∧ w' = w.alloc (.cells #[.slice a len cap] 190) := by
  refine callsIn_of_wp Tryz.func189 rfl hf ?_ hro
  simp only [Tryz.ntmps189, List.size_toArray, List.length_cons, List.length_nil, Nat.reduceAdd, Nat.reduceSub, Array.replicate_succ, Array.replicate_zero, List.push_toArray, List.append_toArray, List.nil_append, List.cons_append]
  gi_wp2
  go_ret
  exact ⟨rfl, rfl⟩
theorem back_stops (F : Fence) (n : Nat) (hf : F.fn 220) (hro : F.round = none) (hn : 1 ≤ n) (Bs n₀ : Nat) (sv : Value) (xs : List Nat) (hx : ∀ x ∈ xs, x < 1000000000) (hlen : xs.length ≤ 4398046511104) (w : World) (hBs : Bs < w.heap.size)
    (hfr : ∀ a k c, sv = .slice (some a) k c → a.block < n₀) (hc : w.cell? ⟨Bs, 0, none⟩ = some sv) (hI : U64s w sv xs) :
    SeqStopsK F n Tryz.prog 220 #[.pointer (some ⟨Bs, 0, none⟩)] (fun x : Pc xs.length => #[Value.int .i64 (x.i : Int), Value.int .u64 (x.v : Int)]) (KeepB n₀ Bs) (fun ys => ys = down xs hx xs.length)
      (fun pre => ∃ k, k ≤ xs.length ∧ pre = down xs hx k) xs.length w := fun l J Jx W hW _ _ hY h0 => by
  have hc' := (hW.cell (p := ⟨Bs, 0, none⟩) hBs).trans hc
  exact back1_in F n hf hro hn l Bs n₀ sv xs hx hlen J Jx hY W hc' hfr (hI.below hW) h0
end Go.Proofs.YtbogpbjddaoeiaaGreatDoor
