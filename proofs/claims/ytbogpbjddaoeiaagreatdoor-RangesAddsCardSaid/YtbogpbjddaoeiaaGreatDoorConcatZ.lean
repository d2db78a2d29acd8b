import Derived.Test.YtbogpbjddaoeiaaGreatDoorPtsZ
import Derived.Test.YtbogpbjddaoeiaaGreatDoorJoinZ
import Derived.Lib.AppendZerosOnto
import Derived.Lib.SliceRun
namespace Go.Proofs.YtbogpbjddaoeiaaGreatDoor
open Go.RowKit Go.Shelf Go.Lib
set_option maxRecDepth 100000 in
set_option maxHeartbeats 4000000 in
theorem grow_nil (n : Nat) (h0 : 0 < n) (hn : n ≤ 1000000) (w : World) :
    Calls Tryz.prog 137 #[.slice none 0 0, .int .i64 (n : Int)] w fun e w' => ∃ v, e = .returned v ∧ w'.ownsRow w.heap.size 97 2 v 0 [] ∧ Below w.heap.size w w' := by
  obtain ⟨i0, hi, hz0, hz1, hz2⟩ := info_parts slKnotA.info
  have hold : (Builtin.firstCells i0.size 0 (.slice none 0 0)).run Tryz.prog w.drew = .ok (([] : List Value).toArray) w.drew := run_firstCells_none w.drew i0.size 0 0 0
  have hg0 : grownCap w (0 + n) 0 97 ≤ maxLen := grownCap_le_maxLen w _ _ _ (by unfold maxLen; omega)
  have hgn : 0 + n ≤ grownCap w (0 + n) 0 97 := grownCap_ge w _ _ _
  have hrz : ∀ ty, (Builtin.append_ #[51, 3] ty #[.slice none 0 0, .int .i64 (n : Int)]).run Tryz.prog w =
      .ok (.slice (some ⟨w.heap.size, 0, none⟩) (0 + n) (grownCap w (0 + n) 0 97)) (w.drew.alloc (.cells (([] : List Value).toArray ++ Builtin.zeroCells (Value.cells (.agg #[.string ⟨#[]⟩, .string ⟨#[]⟩])) n ++ Builtin.zeroCells (Value.cells (.agg #[.string ⟨#[]⟩, .string ⟨#[]⟩])) (grownCap w (0 + n) 0 97 - (0 + n))) 97)) := fun ty =>
    Lib.run_append_grow_zeros w 51 3 ty 97 i0 (.agg #[.string ⟨#[]⟩, .string ⟨#[]⟩]) .i64 .i64 Tryz.underlying51 Tryz.underlying3 hi hz0 none 0 0 [] hold n h0 (by rw [hz1]; decide) (by omega) (by omega) (by rw [hz2]; omega)
      (by rw [hz2]; exact growslice_fits (by omega) (by omega))
  generalize hG : grownCap w (0 + n) 0 97 = G at *
  have hsz : (([] : List Value).toArray ++ Builtin.zeroCells (Value.cells (.agg #[.string ⟨#[]⟩, .string ⟨#[]⟩])) n ++ Builtin.zeroCells (Value.cells (.agg #[.string ⟨#[]⟩, .string ⟨#[]⟩])) (G - (0 + n))).size = G * 2 := by
    rw [Array.size_append, Array.size_append, size_zeroCells, size_zeroCells, slKnotA.hzs]
    show 0 + n * 2 + (G - (0 + n)) * 2 = G * 2
    omega
  generalize (([] : List Value).toArray ++ Builtin.zeroCells (Value.cells (.agg #[.string ⟨#[]⟩, .string ⟨#[]⟩])) n ++ Builtin.zeroCells (Value.cells (.agg #[.string ⟨#[]⟩, .string ⟨#[]⟩])) (G - (0 + n))) = Z at *
  have hown := World.ownsRow_made (e := 97) (size := 2) (base := w.heap.size) w.drew Z G (by simp) hg0 hsz
  have hb : Below w.heap.size w (w.drew.alloc (.cells Z 97)) := (Below.refl _ _).drew.alloc (by simp) _
  have HOWN := Lib.hid hown
  have HB := Lib.hid hb
  have h1 : decide ((n : Int) < 0) = false := decide_eq_false (by omega)
  have h2 : decide ((0 : Int) < (n : Int)) = true := decide_eq_true (by omega)
  have h3 : IntKind.i64.wrap (n : Int) = (n : Int) := IntWalk.i64_in _ (by omega)
  have hGm : G ≤ 9223372036854775807 := by unfold maxLen at hg0; omega
  rw [Nat.zero_add] at hrz hgn
  clear hold hown hb hsz hG hg0
  go_enter Tryz.func137, Tryz.ntmps137
  go_wp2_with (at_builtin; refine Lib.wpList_append_run _ rfl _ _ _ _ rfl _ _ rfl rfl _ _ (hrz _) ?_)
  go_ret
  exact ⟨_, rfl, HOWN.out, HB.out⟩
/-- what is behind k of two lists -/
def preP (LA LB : List Pair) : Nat → List Pair
  | 0 => []
  | 1 => LA
  | _ => LA ++ LB
theorem preP_step {LA LB : List Pair} {va vb : Value} {w : World} {B k : Nat} (hk : k < 2) (h0 : w.cell? ⟨B, 0, none⟩ = some va) (h1 : w.cell? ⟨B, 1, none⟩ = some vb) (hA : Pairs w va LA) (hB : Pairs w vb LB) (pa : 0 < LA.length) (pb : 0 < LB.length) (la : LA.length ≤ 1000) (lb : LB.length ≤ 1000) :
    ∃ (u : Value) (R : List Pair), w.cell? ⟨B, k, none⟩ = some u ∧ Pairs w u R ∧ 0 < R.length ∧ R.length ≤ 1000 ∧ (preP LA LB k).length ≤ 1000 ∧ preP LA LB (k + 1) = preP LA LB k ++ R := by
  match k, hk with
  | 0, _ => exact ⟨va, LA, h0, hA, pa, la, Nat.zero_le _, rfl⟩
  | 1, _ => exact ⟨vb, LB, h1, hB, pb, lb, la, rfl⟩
theorem pairs_news {w : World} {b off : Nat} {L : List Pair} (h : ∀ i (h : i < L.length), w.cell? ⟨b, off + i * 2, none⟩ = some (.string L[i].1) ∧ w.cell? ⟨b, off + i * 2 + 1, none⟩ = some (.string L[i].2)) :
    ∀ (j : Nat) (u : Value), (cellsS L)[j]? = some u → w.cell? ((⟨b, off, none⟩ : Addr).add j) = some u := by
  intro j u hj
  have hjl : j < (cellsS L).length := (List.getElem?_eq_some_iff.1 hj).1
  rw [cellsS_len] at hjl
  have hi : j / 2 < L.length := by omega
  obtain ⟨c0, c1⟩ := h (j / 2) hi
  rw [show (⟨b, off, none⟩ : Addr).add j = ⟨b, off + j, none⟩ by unfold Addr.add; split; (rename_i h0; rw [h0]; rfl); rfl]
  rcases Nat.mod_two_eq_zero_or_one j with hm | hm
  · have h0 := cellsS_get L (j / 2) hi 0 (by decide)
    have e : j = j / 2 * 2 + 0 := by omega
    rw [← e, hj] at h0
    rw [show off + j = off + j / 2 * 2 by omega, c0]
    exact h0.symm
  · have h0 := cellsS_get L (j / 2) hi 1 (by decide)
    have e : j = j / 2 * 2 + 1 := by omega
    rw [← e, hj] at h0
    rw [show off + j = off + j / 2 * 2 + 1 by omega, c1]
    exact h0.symm
def CatSt (L : List Pair) (w : World) (ov : Value) (wr : World) : Prop := wr.ownsRow w.heap.size 97 2 ov L.length (cellsS L) ∧ Below w.heap.size w wr
theorem cellsS_append (A B : List Pair) : cellsS (A ++ B) = cellsS A ++ cellsS B := by unfold cellsS; rw [List.flatMap_append]
theorem cellsS_one (L : List Pair) : ∀ u ∈ cellsS L, u.oneCell' = true := by
  intro u hu
  unfold cellsS at hu
  obtain ⟨p, _, hp⟩ := List.mem_flatMap.1 hu
  rcases List.mem_cons.1 hp with rfl | hp
  · rfl
  · rw [List.mem_singleton.1 hp]; rfl
def CatPost (L : List Pair) (w : World) (e : Ending) (w' : World) : Prop := ∃ v, e = .returned v ∧ Pairs w' v L ∧ Below w.heap.size w w'
set_option maxRecDepth 100000 in
set_option maxHeartbeats 8000000 in
theorem slices_concat (B cap : Nat) (va vb : Value) (LA LB : List Pair) (w : World) (hBl : B < w.heap.size) (h0 : w.cell? ⟨B, 0, none⟩ = some va) (h1 : w.cell? ⟨B, 1, none⟩ = some vb)
    (hA : Pairs w va LA) (hB : Pairs w vb LB) (pa : 0 < LA.length) (pb : 0 < LB.length) (la : LA.length ≤ 1000) (lb : LB.length ≤ 1000) :
    Calls Tryz.prog 94 #[.slice (some ⟨B, 0, none⟩) 2 cap] w (CatPost (LA ++ LB) w) := by
  have HSTEP := Lib.hid (fun k (hk : k < 2) => preP_step hk h0 h1 hA hB pa pb la lb)
  obtain ⟨nt, hnt⟩ : ∃ nt, (LA ++ LB).length = nt := ⟨_, rfl⟩
  have hnt' : nt = LA.length + LB.length := by rw [← hnt, List.length_append]
  have HG := Lib.hid (grow_nil nt (by omega) (by omega))
  have hbw := Below.refl w.heap.size w
  have HNT := Lib.hid hnt
  clear h0 h1 hA hB hnt hnt'
  go_enter Tryz.func94, Tryz.ntmps94
  go_wp2_with fail
  go_loopw [3, 5, 11] (fun sv _ iv wr => ∃ k : Nat, k ≤ 2 ∧ sv = .int .i64 ((preP LA LB k).length : Int) ∧ iv = .int .i64 (k : Int) ∧ w = wr) (fun _ _ iv _ => 2 - (intOf iv).toNat)
  case atStart => exact ⟨0, Nat.zero_le _, rfl, rfl, rfl⟩
  case round =>
    obtain ⟨k, hk2, rfl, rfl, rfl⟩ := hrel
    by_cases hk : k < 2
    · obtain ⟨u, R, hu, hR, hR0, hRl, hpl, hnx⟩ := HSTEP.out k hk
      have hnl : (preP LA LB (k + 1)).length = (preP LA LB k).length + R.length := by rw [hnx, List.length_append]
      have HNL := Lib.hid hnl
      obtain ⟨p, c, rfl, hc, hm, hxx⟩ := hR
      clear hxx hnx
      have hkn : decide ((k : Int) < (2 : Int)) = true := decide_eq_true (by omega)
      have i1 : (0 : Int) ≤ (k : Int) := by omega
      have i2 : (k : Int) < (2 : Int) := by omega
      generalize (preP LA LB k).length = n1 at *
      generalize R.length = n2 at *
      have i3 : IntKind.i64.wrap ((n1 : Int) + (n2 : Int)) = (n1 : Int) + (n2 : Int) := IntWalk.i64_in _ (by omega)
      have i4 : decide ((n1 : Int) + (n2 : Int) < 0) = false := decide_eq_false (by omega)
      clear hnl
      go_wp2
      refine ⟨⟨k + 1, hk, by rw [HNL.out]; push_cast; rfl, int_succ k, by first | rfl | trivial⟩, ?_⟩
      show 2 - ((k : Int) + 1).toNat < 2 - ((k : Int)).toNat
      omega
    · obtain rfl : k = 2 := by omega
      have hkn : decide ((2 : Int) < (2 : Int)) = false := by decide
      have e2 : (preP LA LB 2).length = nt := HNT.out
      rw [e2]
      clear e2
      go_wp2_with fail
      refine (HG.out _).mono ?_
      rintro e w1 ⟨v1, rfl, hown, hb1⟩
      have HST0 := Lib.hid (show CatSt (preP LA LB 0) w v1 w1 from ⟨hown, hb1⟩)
      clear hown
      go_wp2_with fail
      go_loopw [6, 8, 27] (fun ov _ iv wr => ∃ (k : Nat) (vv : Value), k ≤ 2 ∧ CatSt (preP LA LB k) w vv wr ∧ vv = ov ∧ iv = .int .i64 (k : Int)) (fun _ _ iv _ => 2 - (intOf iv).toNat)
      case atStart => exact ⟨0, _, Nat.zero_le _, HST0.out, rfl, rfl⟩
      case round =>
        obtain ⟨k, ov, hk2, hst, rfl, rfl⟩ := hrel
        have HST := Lib.hid hst
        have hbr := hst.2
        clear hst
        by_cases hk : k < 2
        · obtain ⟨u, R, hu, hR, hR0, hRl, hpl, hnx⟩ := HSTEP.out k hk
          have HNX := Lib.hid hnx
          rw [← hbr.cell (p := ⟨B, k, none⟩) hBl] at hu
          have hR' := hR.below hbr
          obtain ⟨p, c, rfl, hc, hm, hxx⟩ := hR'
          obtain ⟨b, off, rfl, hbl, hcell⟩ := hxx hR0
          have HNW := Lib.hid (pairs_news hcell)
          have hkn : decide ((k : Int) < (2 : Int)) = true := decide_eq_true (by omega)
          have i1 : (0 : Int) ≤ (k : Int) := by omega
          have i2 : (k : Int) < (2 : Int) := by omega
          obtain ⟨i0, hi, hz0, hz1, hz2⟩ := info_parts slKnotA.info
          obtain ⟨xs, hxs⟩ : ∃ xs, xs = cellsS (preP LA LB k) := ⟨_, rfl⟩
          obtain ⟨n8, hn8⟩ : ∃ n8, n8 = (preP LA LB k).length := ⟨_, rfl⟩
          obtain ⟨ys, hys⟩ : ∃ ys, ys = cellsS R := ⟨_, rfl⟩
          obtain ⟨m8, hm8⟩ : ∃ m8, m8 = R.length := ⟨_, rfl⟩
          have hown : wr.ownsRow w.heap.size 97 2 ov n8 xs := by rw [hn8, hxs]; exact HST.out.1
          have hyl : ys.length = m8 * 2 := by rw [hys, hm8, cellsS_len]
          have HONE := Lib.hid (show ∀ u ∈ ys, u.oneCell' = true by rw [hys]; exact cellsS_one R)
          rw [← hys] at HNW
          have HPUT := Lib.hid (fun (v' : Value) (w' : World) (ho : w'.ownsRow w.heap.size 97 2 v' (n8 + m8) (xs ++ ys)) (hb : Below w.heap.size w w') => show CatSt (preP LA LB (k + 1)) w v' w' by
            unfold CatSt
            rw [HNX.out, cellsS_append, List.length_append, ← hn8, ← hm8, ← hxs, ← hys]
            exact ⟨ho, hb⟩)
          rw [← hm8] at hu hc hRl
          rw [← hn8] at hpl
          have HOWN := Lib.hid hown
          have hszq := hbr.size
          clear hcell hxx hnx hxs hn8 hys hm8 hR hown hR0
          go_wp2_with (at_builtin; refine wpList_append_own _ rfl (.tmp 31) (.tmp 32) 51 rfl w.heap.size 97 i0 (.agg #[.string ⟨#[]⟩, .string ⟨#[]⟩]) 2 32 slKnotA.ht hi hz0 hz1 hz2 slKnotA.hzs slKnotA.hsz _ n8 xs rfl HOWN.out ⟨b, off, none⟩ m8 c ys rfl hyl HNW.out HONE.out (by unfold maxLen; omega) (by omega) hszq ?_; intro v' w9 hown2 hgrow _)
          have hb9 := hbr.grown hgrow (by omega) (fun g hg => (HOWN.out.lt g hg).1)
          have HO2 := Lib.hid hown2
          clear hown2 hgrow
          go_wp2
          refine ⟨⟨k + 1, v', hk, HPUT.out _ _ HO2.out hb9, rfl, int_succ k⟩, ?_⟩
          show 2 - ((k : Int) + 1).toNat < 2 - ((k : Int)).toNat
          omega
        · obtain rfl : k = 2 := by omega
          have hkn : decide ((2 : Int) < (2 : Int)) = false := by decide
          go_wp2
          go_ret
          exact ⟨_, rfl, pairs_of_cells HST.out.1, hbr⟩
end Go.Proofs.YtbogpbjddaoeiaaGreatDoor
