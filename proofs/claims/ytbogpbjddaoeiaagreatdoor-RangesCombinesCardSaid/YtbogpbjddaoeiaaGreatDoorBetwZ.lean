import Derived.Test.YtbogpbjddaoeiaaGreatDoorEndsVZ
import Derived.Test.YtbogpbjddaoeiaaGreatDoorCombHZ
import Derived.Stop.RegionWithIn
namespace Go.Proofs.YtbogpbjddaoeiaaGreatDoor
open Go.RowKit Go.Shelf
open Go.Lib (decDigits itoa nDigits)
attribute [local go_sem] Oper.semAt_some
/-- what a round must keep: the blocks below n₀, the iterator's two boxes, and all cells of a text -/
def KeepR (n₀ B1 B2 : Nat) (W W' : World) : Prop := Below n₀ W W' ∧ (∀ k, (k = B1 ∨ k = B2) → W'.heap[k]? = W.heap[k]?) ∧ ∀ (k : Nat) (c : Array Value) (fz : Nat × Nat), W.heap[k]? = some (Obj.cells c 31 fz) → W'.heap[k]? = some (Obj.cells c 31 fz)
theorem KeepR.refl (n₀ B1 B2 : Nat) (W : World) : KeepR n₀ B1 B2 W W := ⟨Below.refl _ _, fun _ _ => rfl, fun _ _ _ h => h⟩
theorem KeepR.trans {n₀ B1 B2 : Nat} {A B C : World} (h : KeepR n₀ B1 B2 A B) (k : KeepR n₀ B1 B2 B C) : KeepR n₀ B1 B2 A C := ⟨h.1.trans k.1, fun i hi => (k.2.1 i hi).trans (h.2.1 i hi), fun i c fz hi => k.2.2 i c fz (h.2.2 i c fz hi)⟩
theorem KeepR.put {n₀ B1 B2 : Nat} {w : World} (h1 : n₀ ≤ w.heap.size) (h2 : B1 < w.heap.size) (h3 : B2 < w.heap.size) (W : World) (l : Nat) (o o' : Obj) (hl : w.heap.size ≤ l) (ho : W.heap[l]? = some o) (hc : o.isCells = false) (hwk : o.isWalk = false) : KeepR n₀ B1 B2 W (W.putObj l o') := by
  refine ⟨belowK_b h1 W l o o' hl ho hc hwk, fun k hk => ?_, fun k c fz hk => ?_⟩
  · simp only [World.putObj]
    rw [Array.getElem?_setIfInBounds, if_neg (by omega)]
  · simp only [World.putObj]
    rw [Array.getElem?_setIfInBounds, if_neg, hk]
    intro e
    subst e
    rw [hk] at ho
    cases ho
    simp [Obj.isCells] at hc
theorem KeepR.of_below {n₀ B1 B2 : Nat} {W W' : World} (h : Below W.heap.size W W') (h1 : n₀ ≤ W.heap.size) (h2 : B1 < W.heap.size) (h3 : B2 < W.heap.size) : KeepR n₀ B1 B2 W W' :=
  ⟨h.mono h1, fun k hk => h.block k (by omega), fun k c fz hk => (h.block k (lt_of_some hk)).trans hk⟩
theorem between_in (n : Nat) (a b : Option Addr) (la ca lb cb : Nat) (w : World) :
    CallsIn Fence.wide n Tryz.prog 136 #[.slice a la ca, .slice b lb cb] w fun e w' => e = .returned (.func (.func 170) #[] #[.pointer (some ⟨w.heap.size, 0, none⟩), .pointer (some ⟨w.heap.size + 1, 0, none⟩)]) ∧ w' = (w.alloc (.cells #[.slice a la ca] 22)).alloc (.cells #[.slice b lb cb] 22) := by
  refine callsIn_of_wp Tryz.func136 rfl trivial ?_ rfl
  simp only [Tryz.ntmps136, List.size_toArray, List.length_cons, List.length_nil, Nat.reduceAdd, Nat.reduceSub, Array.replicate_succ, Array.replicate_zero, List.push_toArray, List.append_toArray, List.nil_append, List.cons_append]
  gi_wp2
  go_ret
  exact ⟨rfl, rfl⟩
/-- the ends of two unions, in order -/
def EndsOf (LA LB : List RP) (E : List TP) : Prop := E.Pairwise (fun x y => ratV x.1 < ratV y.1) ∧ (∀ x, x ∈ E ↔ x ∈ endsT (LA ++ LB)) ∧ E.length ≤ (LA.length + LB.length) * 2
theorem pairsT_len : ∀ (f : TP) (r : List TP), (pairsT f r).length = r.length
  | _, [] => rfl
  | f, k :: r => by show (pairsT k r).length + 1 = r.length + 1; rw [pairsT_len k r]
theorem piecesT_len (E : List TP) : (piecesT E).length = E.length - 1 := by
  cases E with
  | nil => rfl
  | cons f r => show (pairsT f r).length = r.length + 1 - 1; rw [pairsT_len]; omega
theorem pairsT_get : ∀ (f : TP) (r : List TP) (k : Nat) (h : k < r.length) (h' : k < (pairsT f r).length) (h1 : k < (f :: r).length), ((pairsT f r)[k]).1 = (((f :: r)[k]).1, (r[k]).1)
  | _, [], _, h, _, _ => by simp at h
  | f, x :: r, 0, _, _, _ => rfl
  | f, x :: r, k + 1, h, h', h1 => by
    have := pairsT_get x r k (by simpa using h) (by rw [pairsT_len]; simpa using h) (by simp at h ⊢; omega)
    show ((pairsT x r)[k]'_).1 = _
    rw [this]
    rfl
theorem piecesT_get {E : List TP} {k : Nat} (hk : 0 < k) (h : k < E.length) (h' : k - 1 < (piecesT E).length) (h1 : k - 1 < E.length) : ((piecesT E)[k - 1]).1 = ((E[k - 1]).1, (E[k]).1) := by
  cases E with
  | nil => simp at h
  | cons f r =>
    have := pairsT_get f r (k - 1) (by simp at h; omega) h' h1
    refine this.trans ?_
    congr 1
    have e : k = (k - 1) + 1 := by omega
    have : ((f :: r)[k]'h) = r[k - 1]'(by simp at h; omega) := by
      conv => lhs; rw [List.getElem_cons]
      rw [dif_neg (by omega)]
    rw [this]
def BtSt (E : List TP) (J : List RP → World → Prop) (n₀ B1 B2 : Nat) (W : World) (k : Nat) (pre : List RP) (wr : World) : Prop :=
  0 < k ∧ k ≤ E.length + 1 ∧ pre = (piecesT E).take (k - 1) ∧ J pre wr ∧ KeepR n₀ B1 B2 W wr
theorem BtSt.next {E : List TP} {k : Nat} {x : RP} (hk : 0 < k) (h : k < E.length) (h1 : k - 1 < E.length) (hx : x.1 = ((E[k - 1]).1, (E[k]).1)) : (piecesT E).take (k - 1) ++ [x] = (piecesT E).take (k + 1 - 1) := by
  have hl : k - 1 < (piecesT E).length := by rw [piecesT_len]; omega
  rw [show k + 1 - 1 = (k - 1) + 1 by omega, List.take_succ_eq_append_getElem hl]
  congr 2
  exact Subtype.ext (hx.trans (piecesT_get hk h hl h1).symm)
set_option maxRecDepth 100000 in
set_option maxHeartbeats 8000000 in
theorem between1_in (n : Nat) (_hn : 1 ≤ n) (l B1 B2 n₀ : Nat) (va vb : Value) (LA LB : List RP) (la : LA.length ≤ 1000) (lb : LB.length ≤ 1000) (J Jx : List RP → World → Prop) (w0 : World) (hg0 : Good w0)
    (W : World) (hbW : Below w0.heap.size w0 W) (hJ : AbidesFrom W.heap.size J)
    (hY : ∀ pre (x : RP) W, J pre W → pre.length < (LA.length + LB.length) * 2 + 1 → YieldAt Fence.wide (n - 1) Tryz.prog l #[.agg #[.string x.1.1, .string x.1.2]] W fun e W' =>
      (e = .returned (.bool true) ∧ J (pre ++ [x]) W' ∧ KeepR n₀ B1 B2 W W') ∨ (e = .returned (.bool false) ∧ Jx (pre ++ [x]) W'))
    (hn0 : n₀ ≤ w0.heap.size) (_hn1 : 6 ≤ n₀) (hb1 : B1 < w0.heap.size) (hb2 : B2 < w0.heap.size) (hB1 : W.cell? ⟨B1, 0, none⟩ = some va) (hB2 : W.cell? ⟨B2, 0, none⟩ = some vb) (hA : Pairs W va (LA.map (·.1))) (hB : Pairs W vb (LB.map (·.1))) (h0 : J [] W) :
    CallsIn Fence.wide n Tryz.prog 170 #[.func (.yield l) #[] #[], .pointer (some ⟨B1, 0, none⟩), .pointer (some ⟨B2, 0, none⟩)] W fun e W' => (∃ v, e = .returned v) ∧
      ((∃ ys : List RP, (∃ E, EndsOf LA LB E ∧ ys = piecesT E) ∧ J ys W') ∨ (∃ pre : List RP, True ∧ Jx pre W')) := by
  have hgW : Good W := hg0.below hbW
  obtain ⟨wA, hwA⟩ : ∃ wA, wA = W.alloc (.cells #[va, vb] 22) := ⟨_, rfl⟩
  have hbA : Below W.heap.size W wA := by rw [hwA]; exact alloc_below _ _
  have a0 : wA.cell? ⟨W.heap.size, 0, none⟩ = some va := by rw [hwA]; exact alloc_cells W #[va, vb] _ 0 (by simp)
  have a1 : wA.cell? ⟨W.heap.size, 1, none⟩ = some vb := by rw [hwA]; exact alloc_cells W #[va, vb] _ 1 (by simp)
  have hsA : W.heap.size < wA.heap.size := by rw [hwA]; simp
  have HEN := Lib.hid (ranges_ends W.heap.size 2 va vb LA LB wA (hgW.below hbA) hsA a0 a1 (hA.below hbA) (hB.below hbA) la lb)
  have HWA := Lib.hid hwA
  have HJ := Lib.hid hJ
  have hgA : Good wA := hgW.below hbA
  have hszw := hbW.size
  clear hwA a0 a1 hJ
  obtain ⟨pa, ca, rfl, hza⟩ := hA
  obtain ⟨pb, cb, rfl, hzb⟩ := hB
  clear hza hzb
  generalize (LA.map (·.1)).length = na at *
  generalize (LB.map (·.1)).length = nb at *
  unfold EndsTP at HEN
  refine callsIn_of_wp Tryz.func170 rfl trivial ?_ rfl
  simp only [Tryz.ntmps170, List.size_toArray, List.length_cons, List.length_nil, Nat.reduceAdd, Nat.reduceSub, Array.replicate_succ, Array.replicate_zero, List.push_toArray, List.append_toArray, List.nil_append, List.cons_append]
  gi_wp2
  refine ⟨trivial, ?_⟩
  rw [← HWA.out]
  refine (callsIn_wide.2 HEN.out).mono ?_
  rintro e w1 ⟨v, E, rfl, hasc, hmem, hEl, hT, hb1'⟩
  obtain ⟨p, c, rfl, hc, hm, hxx⟩ := hT
  rw [List.length_append] at hEl
  have hbW1 : Below W.heap.size W w1 := hbA.trans (hb1'.mono (Nat.le_of_lt hsA))
  have hJ1 : J [] w1 := abides_below (W := W) (B := W.heap.size) (fun s A B row hs hg hr => HJ.out s A B row hs hg hr) h0 hbW1
  have HST0 := Lib.hid (show BtSt E J n₀ B1 B2 w1 1 [] w1 from ⟨by decide, by omega, rfl, hJ1, KeepR.refl _ _ _ _⟩)
  have HEO := Lib.hid (show EndsOf LA LB E from ⟨hasc, hmem, hEl⟩)
  have hmE : E.length ≤ 9223372036854775807 := by unfold maxLen at hm; omega
  clear hJ1 hasc hmem h0
  gi_wp2
  gi_loopw [5] (fun iv wr => ∃ (k : Nat) (pre : List RP), iv = .int .i64 (k : Int) ∧ BtSt E J n₀ B1 B2 w1 k pre wr) (fun iv _ => E.length + 1 - (intOf iv).toNat)
  case atStart => exact ⟨1, [], rfl, HST0.out⟩
  case round =>
    obtain ⟨k, pre, rfl, hst⟩ := hrel
    obtain ⟨hk0, hk1, hpre, hJs, hkr⟩ := hst
    have hs1 := hbW1.size
    have hsr := hkr.1.size
    by_cases hk : k < E.length
    · obtain ⟨b, rfl, hgb, ⟨cs, fz, hcs⟩, hcell⟩ := hxx (by omega)
      have hblk := hkr.2.2 b cs fz hcs
      have hcr : ∀ i (h : i < E.length), wr.cell? ⟨b, i, none⟩ = some (.string E[i].1) := fun i h => by
        rw [World.cell?_of_block (hblk.trans hcs.symm)]; exact hcell i h
      have hkm : k - 1 < E.length := by omega
      obtain ⟨x, hx⟩ : ∃ x : RP, x.1 = ((E[k - 1]).1, (E[k]).1) := ⟨⟨((E[k - 1]).1, (E[k]).1), (E[k - 1]).2, (E[k]).2⟩, rfl⟩
      have c1 : wr.cell? ⟨b, k, none⟩ = some (.string x.1.2) := by rw [hx]; exact hcr k hk
      have c0 : wr.cell? ⟨b, k - 1, none⟩ = some (.string x.1.1) := by rw [hx]; exact hcr (k - 1) hkm
      have HNX := Lib.hid (BtSt.next hk0 hk hkm hx)
      obtain ⟨m, hm'⟩ : ∃ m, m = k - 1 := ⟨_, rfl⟩
      rw [← hm'] at c0
      obtain ⟨M, hM⟩ : ∃ M : Int, M = (m : Int) := ⟨_, rfl⟩
      have i1 : IntKind.i64.wrap ((k : Int) - 1) = M := (IntWalk.i64_in _ (by omega)).trans (by omega)
      have i2 : 0 ≤ M := by omega
      have i3 : M.toNat = m := by omega
      have i4 : M < (E.length : Int) := by omega
      have i5 : (k : Int) < (E.length : Int) := by omega
      have i6 : (0 : Int) ≤ (k : Int) := by omega
      have hkn : decide ((k : Int) < (E.length : Int)) = true := decide_eq_true (by omega)
      have hbd : Below wr.heap.size wr wr.drew := (Below.refl _ _).drew
      have hJd : J pre wr.drew := abides_below (W := wr) (B := wr.heap.size) (fun s A B row hs hg hr => HJ.out s A B row hs hg (fun r e => ⟨by have := (hr r e).1; omega, (hr r e).2⟩)) hJs hbd
      have hKd : KeepR n₀ B1 B2 wr wr.drew := KeepR.of_below hbd (by omega) (by omega) (by omega)
      have HPRE := Lib.hid hpre
      have hpl : pre.length < (LA.length + LB.length) * 2 + 1 := by rw [hpre, List.length_take]; omega
      obtain ⟨fn, tmps, assign, body, hy, hR⟩ := hY pre x wr.drew hJd hpl
      have hR' := RoundIn.mono hR (R' := fun e W' => ∃ r : Bool, e = .returned (.bool r) ∧ (r = true → J (pre ++ [x]) W' ∧ KeepR n₀ B1 B2 wr.drew W') ∧ (r = false → Jx (pre ++ [x]) W')) (fun e W' h => by
        rcases h with ⟨h1, h2, h3⟩ | ⟨h1, h2⟩
        · exact ⟨true, h1, fun _ => ⟨h2, h3⟩, fun h => (by cases h)⟩
        · exact ⟨false, h1, fun h => (by cases h), fun _ => h2⟩)
      have HKR := Lib.hid hkr
      have hsE : ∀ j : Nat, j < E.length → (j : Int) < (E.length : Int) := fun j h => by omega
      clear hcr hcell hxx hJs hx hR hblk hcs hM hm' hpre hpl hkr hsE
      gi_wp2
      gi_region_with (refine hR'.mono ?_; rintro e W9 ⟨r, rfl, hr1, hr2⟩)
      all_goals
        cases r
        · gi_wp2
          refine bodyPost_ret (results_none rfl _ _ _) rfl ?_
          exact ⟨⟨_, rfl⟩, .inr ⟨_, hr2 (by trivial)⟩⟩
        · gi_wp2
          go_roundw
          case rel => exact ⟨k + 1, pre ++ [x], int_succ k, by omega, by omega, by rw [HPRE.out, HNX.out], (hr1 (by trivial)).1, HKR.out.trans (hKd.trans (hr1 (by trivial)).2)⟩
          case measure => show E.length + 1 - ((k : Int) + 1).toNat < E.length + 1 - ((k : Int)).toNat; omega
    · have hkn : decide ((k : Int) < (E.length : Int)) = false := decide_eq_false (by omega)
      have HEND := Lib.hid (show pre = piecesT E by rw [hpre]; exact List.take_of_length_le (by rw [piecesT_len]; omega))
      clear hxx hpre
      gi_wp2
      go_end0
      exact ⟨⟨_, rfl⟩, .inl ⟨_, ⟨E, HEO.out, HEND.out⟩, hJs⟩⟩
theorem between_stops (n : Nat) (hn : 1 ≤ n) (B1 B2 n₀ : Nat) (va vb : Value) (LA LB : List RP) (la : LA.length ≤ 1000) (lb : LB.length ≤ 1000) (w : World) (hw : Good w)
    (hn0 : n₀ ≤ w.heap.size) (hn1 : 6 ≤ n₀) (hb1 : B1 < w.heap.size) (hb2 : B2 < w.heap.size) (hB1 : w.cell? ⟨B1, 0, none⟩ = some va) (hB2 : w.cell? ⟨B2, 0, none⟩ = some vb) (hA : Pairs w va (LA.map (·.1))) (hB : Pairs w vb (LB.map (·.1))) :
    SeqStopsK Fence.wide n Tryz.prog 170 #[.pointer (some ⟨B1, 0, none⟩), .pointer (some ⟨B2, 0, none⟩)] (fun x : RP => #[Value.agg #[.string x.1.1, .string x.1.2]]) (KeepR n₀ B1 B2) (fun ys => ∃ E, EndsOf LA LB E ∧ ys = piecesT E)
      (fun _ => True) ((LA.length + LB.length) * 2 + 1) w := fun l J Jx W hW hJ _ hY h0 =>
  between1_in n hn l B1 B2 n₀ va vb LA LB la lb J Jx w hw W hW hJ hY hn0 hn1 hb1 hb2 ((hW.cell (p := ⟨B1, 0, none⟩) hb1).trans hB1) ((hW.cell (p := ⟨B2, 0, none⟩) hb2).trans hB2) (hA.below hW) (hB.below hW) h0
end Go.Proofs.YtbogpbjddaoeiaaGreatDoor
