import Derived.Test.YtbogpbjddaoeiaaGreatDoorAddWZ
import Derived.Test.YtbogpbjddaoeiaaGreatDoorWideZ
import Derived.Test.YtbogpbjddaoeiaaGreatDoorPtsZ
namespace Go.Proofs.YtbogpbjddaoeiaaGreatDoor
open Go.RowKit Go.Shelf Go.Lib
/-- what is kept of the first k -/
def keepG {α : Type} (s : Nat → Rat) (L : List α) : Nat → List α
  | 0 => []
  | k + 1 => keepG s L k ++ (if s k = s (k + 1) then [] else (L[k]?).toList)
theorem keepG_succ {α : Type} (s : Nat → Rat) (L : List α) (k : Nat) : keepG s L (k + 1) = keepG s L k ++ (if s k = s (k + 1) then [] else (L[k]?).toList) := rfl
theorem keepG_yes {α : Type} {s : Nat → Rat} {L : List α} {k : Nat} (hk : k < L.length) (h : s k ≠ s (k + 1)) : keepG s L (k + 1) = keepG s L k ++ [L[k]] := by
  rw [keepG_succ, if_neg h, List.getElem?_eq_getElem hk]
  rfl
theorem keepG_no {α : Type} {s : Nat → Rat} {L : List α} {k : Nat} (h : s k = s (k + 1)) : keepG s L (k + 1) = keepG s L k := by
  show keepG s L k ++ (if s k = s (k + 1) then [] else (L[k]?).toList) = _
  rw [if_pos h, List.append_nil]
theorem keepG_map {α β : Type} (f : α → β) (s : Nat → Rat) (L : List α) : ∀ k, keepG s (L.map f) k = (keepG s L k).map f
  | 0 => rfl
  | k + 1 => by
    rw [keepG_succ, keepG_succ, keepG_map f s L k, List.map_append]
    congr 1
    split
    · rfl
    · rw [List.getElem?_map]
      cases L[k]? <;> rfl
theorem keepG_len {α : Type} (s : Nat → Rat) (L : List α) : ∀ k, (keepG s L k).length ≤ k
  | 0 => Nat.le_refl _
  | k + 1 => by
    have := keepG_len s L k
    rw [keepG_succ, List.length_append]
    split
    · simp; omega
    · cases L[k]? <;> simp <;> omega
def simpG {α : Type} (s : Nat → Rat) (L : List α) : List α := if keepG s L L.length = [] then L.take 1 else keepG s L L.length
theorem simpG_map {α β : Type} (f : α → β) (s : Nat → Rat) (L : List α) : simpG s (L.map f) = (simpG s L).map f := by
  unfold simpG
  rw [List.length_map, keepG_map, ← List.map_take]
  by_cases h : keepG s L L.length = []
  · rw [if_pos h, if_pos (by rw [h]; rfl)]
  · rw [if_neg h, if_neg (fun h' => h (List.map_eq_nil_iff.1 h'))]
def SiSt (s : Nat → Rat) (L : List Pair) (w : World) (k : Nat) (ov : Value) (wr : World) : Prop := wr.ownsRow w.heap.size 97 2 ov (keepG s L k).length (cellsS (keepG s L k)) ∧ Below w.heap.size w wr
def SimpPost (s : Nat → Rat) (L : List Pair) (w : World) (e : Ending) (w' : World) : Prop := ∃ v, e = .returned (.tuple #[v, .int .i64 0]) ∧ Pairs w' v (simpG s L) ∧ Below w.heap.size w w'
set_option maxRecDepth 100000 in
set_option maxHeartbeats 8000000 in
theorem ranges_Simplify (v : Value) (L : List Pair) (w : World) (hw : Good w) (hv : Pairs w v L) (hk : knotsErr L = 0) :
    Calls Tryz.prog 52 #[v] w (SimpPost (slopeV L) L w) := by
  obtain ⟨hok, hasc, hl, hl0⟩ := knotsErr_ok hk
  have hsz := szOk_of hok
  have HCK := Lib.hid (ranges_CheckKnots v L w hw hv hsz)
  rw [hk] at HCK
  have HSL := Lib.hid (fun (n : Nat) (hn : n ≤ L.length) w' (hb : Below w.heap.size w w') => ranges_slope v L n w' (hw.below hb) (hv.below hb) hok hasc (by omega) hn)
  unfold SlopePost at HSL
  obtain ⟨p, c, rfl, hc, hm, hxx⟩ := hv
  obtain ⟨b, off, rfl, hbl, hcell⟩ := hxx hl0
  generalize slopeV L = s at *
  clear hk hsz hok hasc hxx
  have hbw := Below.refl w.heap.size w
  have HRET := Lib.hid (fun (v' : Value) (w' : World) (h : Pairs w' v' (simpG s L)) (hb : Below w.heap.size w w') => show SimpPost s L w (.returned (.tuple #[v', .int .i64 0])) w' from ⟨v', rfl, h, hb⟩)
  go_enter Tryz.func52, Tryz.ntmps52
  go_wp2_with fail
  refine HCK.out.mono ?_
  rintro e w1 ⟨rfl, hb1⟩
  have HST0 := Lib.hid (show SiSt s L w 0 (.slice none 0 0) w1 from ⟨World.ownsRow_nil _ _ _ _, hb1⟩)
  go_wp2_with fail
  go_loopw [5, 6, 7, 15] (fun ov _ _ iv wr => ∃ (k : Nat) (vv : Value), k ≤ L.length ∧ SiSt s L w k vv wr ∧ vv = ov ∧ iv = .int .i64 (k : Int)) (fun _ _ _ iv _ => L.length - (intOf iv).toNat)
  case atStart => exact ⟨0, _, Nat.zero_le _, HST0.out, rfl, rfl⟩
  case round =>
    obtain ⟨k, ov, hk2, hst, rfl, rfl⟩ := hrel
    have hown := hst.1
    have hbr := hst.2
    by_cases hk : k < L.length
    · obtain ⟨c0, c1⟩ := hcell k hk
      rw [← hbr.cell (p := ⟨b, off + k * 2, none⟩) hbl] at c0
      rw [← hbr.cell (p := ⟨b, off + k * 2 + 1, none⟩) hbl] at c1
      have hkn : decide ((k : Int) < (L.length : Int)) = true := decide_eq_true (by omega)
      have i1 : (0 : Int) ≤ (k : Int) := by omega
      have i2 : (k : Int) < (L.length : Int) := by omega
      have i3 : IntKind.i64.wrap ((k : Int) + 1) = ((k + 1 : Nat) : Int) := (IntWalk.i64_in _ (by omega)).trans (by push_cast; rfl)
      have hba := alloc_below wr (Obj.cells #[.string L[k].1, .string L[k].2] 97)
      have e0 := alloc_cells wr #[.string L[k].1, .string L[k].2] 97 0 (by simp)
      have e1 := alloc_cells wr #[.string L[k].1, .string L[k].2] 97 1 (by simp)
      have e2 : wr.heap.size < (wr.alloc (Obj.cells #[.string L[k].1, .string L[k].2] 97)).heap.size := by simp
      have HNO := Lib.hid (fun (h : s k = s (k + 1)) => keepG_no (L := L) h)
      have HYES := Lib.hid (fun (h : s k ≠ s (k + 1)) => keepG_yes (L := L) hk h)
      have hkl := keepG_len s L k
      have H1 := Lib.hid (HSL.out k (by omega))
      have H2 := Lib.hid (HSL.out (k + 1) hk)
      obtain ⟨xs, hxs⟩ : ∃ xs, xs = cellsS (keepG s L k) := ⟨_, rfl⟩
      obtain ⟨n8, hn8⟩ : ∃ n8, n8 = (keepG s L k).length := ⟨_, rfl⟩
      rw [← hn8, ← hxs] at hown
      have HPUT := Lib.hid (fun (h : s k ≠ s (k + 1)) (v' : Value) (w' : World) (ho : w'.ownsRow w.heap.size 97 2 v' (n8 + 1) (xs ++ [.string L[k].1, .string L[k].2])) (hb : Below w.heap.size w w') => show SiSt s L w (k + 1) v' w' by
        unfold SiSt
        rw [HYES.out h, cellsS_snoc, List.length_append, ← hn8, ← hxs]
        exact ⟨ho, hb⟩)
      have HSAME := Lib.hid (fun (h : s k = s (k + 1)) (w' : World) (ho : w'.ownsRow w.heap.size 97 2 ov n8 xs) (hb : Below w.heap.size w w') => show SiSt s L w (k + 1) ov w' by
        unfold SiSt
        rw [HNO.out h, ← hn8, ← hxs]
        exact ⟨ho, hb⟩)
      rw [← hn8] at hkl
      generalize L[k] = x at *
      have HOI := Lib.hid hown
      clear hown hst hcell hxs hn8
      go_upto_region 8 with fail
      generalize wr.alloc (Obj.cells #[.string x.1, .string x.2] 97) = wA at hba e0 e1 e2 ⊢
      have HOA := Lib.hid (owns_below HOI.out hba)
      have hbA := hbr.trans (hba.mono hbr.size)
      go_wp2_with fail
      refine (H1.out _ hbA).mono ?_
      rintro e w2 ⟨r1, rfl, hr1, _, hb2⟩
      have HR1 := Lib.hid hr1
      have hb02 := hbA.trans (hb2.mono hbA.size)
      clear hr1
      go_wp2_with fail
      refine (H2.out _ hb02).mono ?_
      rintro e w3 ⟨r2, rfl, hr2, _, hb3⟩
      have hb03 := hb02.trans (hb3.mono hb02.size)
      have hbA3 := hb2.trans (hb3.mono hb2.size)
      have HO3 := Lib.hid (owns_below HOA.out hbA3)
      rw [← hbA3.cell (p := ⟨wr.heap.size, 0, none⟩) e2] at e0
      rw [← hbA3.cell (p := ⟨wr.heap.size, 1, none⟩) e2] at e1
      have hs3 := hb03.size
      have hbe := HR1.out.beq2 hr2
      by_cases he : s k = s (k + 1)
      · rw [decide_eq_true he] at hbe
        have HS := Lib.hid (HSAME.out he w3 HO3.out hb03)
        clear he hr2
        go_wp2
        refine ⟨⟨k + 1, ov, hk, HS.out, rfl, int_succ k⟩, ?_⟩
        show L.length - ((k : Int) + 1).toNat < L.length - ((k : Int)).toNat
        omega
      · rw [decide_eq_false he] at hbe
        have HP := Lib.hid (HPUT.out he)
        clear he hr2
        go_wp2_with (at_builtin; refine app_new slKnotA rfl _ _ rfl w.heap.size _ n8 _ rfl HO3.out 1 1 _ rfl rfl (oneTwo _ _) (by omega) (by decide) hs3 _ rfl ?_; intro v1 w9 hown2 hb9; have HO2 := Lib.hid hown2; clear hown2)
        refine ⟨⟨k + 1, v1, hk, HP.out _ _ HO2.out (hb03.trans hb9), rfl, int_succ k⟩, ?_⟩
        show L.length - ((k : Int) + 1).toNat < L.length - ((k : Int)).toNat
        omega
    · have hkn : decide ((k : Int) < (L.length : Int)) = false := decide_eq_false (by omega)
      have hkz : k = L.length := by omega
      subst hkz
      by_cases h0 : keepG s L L.length = []
      · obtain ⟨c0, c1⟩ := hcell 0 hl0
        rw [← hbr.cell (p := ⟨b, off + 0 * 2, none⟩) hbl, Nat.zero_mul, Nat.add_zero] at c0
        rw [← hbr.cell (p := ⟨b, off + 0 * 2 + 1, none⟩) hbl, Nat.zero_mul, Nat.add_zero] at c1
        rw [h0] at hown
        obtain ⟨a0, cp0, rfl⟩ : ∃ a0 cp0, ov = .slice a0 0 cp0 := by
          rcases hown.2 with ⟨h, _⟩ | ⟨g', cap', _, h, _⟩
          · exact ⟨none, 0, h⟩
          · exact ⟨_, _, h⟩
        have HRT := Lib.hid (fun (v' : Value) (w' : World) (ho : w'.ownsRow w.heap.size 97 2 v' (0 + 1) ([] ++ [.string L[0].1, .string L[0].2])) (hb : Below w.heap.size w w') => HRET.out v' w' (by
          have e : simpG s L = [L[0]] := by
            unfold simpG
            rw [if_pos h0]
            cases L with
            | nil => simp at hl0
            | cons p r => rfl
          rw [e]
          exact pairs_of_cells ho) hb)
        have i5 : (0 : Int) < (L.length : Int) := by omega
        generalize L[0] = x at *
        have HOI := Lib.hid hown
        have hsr := hbr.size
        clear hown hst hcell h0
        go_wp2_with (at_builtin; refine app_new slKnotA rfl _ _ rfl w.heap.size _ 0 _ rfl HOI.out 1 1 _ rfl rfl (oneTwo _ _) (by decide) (by decide) hsr _ rfl ?_; intro v1 w9 hown2 hb9; have HO2 := Lib.hid hown2; clear hown2)
        go_ret2
        exact HRT.out _ _ HO2.out (hbr.trans hb9)
      · have hn : ∃ n, (keepG s L L.length).length = n + 1 := by
          cases h : keepG s L L.length with
          | nil => exact (h0 h).elim
          | cons p r => exact ⟨r.length, rfl⟩
        obtain ⟨n, hn⟩ := hn
        have hpr := pairs_of_cells hown
        have HRT := Lib.hid (HRET.out ov wr (by unfold simpG; rw [if_neg h0]; exact hpr) hbr)
        rw [hn] at hown
        obtain ⟨g, cp, rfl⟩ := ownsRow_succ hown
        have h1 : ((n : Int) + 1 == 0) = false := by simp; omega
        have h2 : (((n + 1 : Nat) : Int) == 0) = false := by simp; omega
        clear hown hst hcell h0 hn hpr
        go_wp2
        go_ret2
        exact HRT.out
end Go.Proofs.YtbogpbjddaoeiaaGreatDoor
namespace Go.Proofs.YtbogpbjddaoeiaaGreatDoor
open Go.RowKit Go.Shelf Go.Lib
def RsSt (s : Nat → Rat) (Q : List QP) (w : World) (k : Nat) (ov : Value) (wr : World) : Prop := wr.ownsRow w.heap.size 66 4 ov (keepG s Q k).length (cellsQ (keepG s Q k)) ∧ Below w.heap.size w wr
def RSimpPost (s : Nat → Rat) (Q : List QP) (w : World) (e : Ending) (w' : World) : Prop := ∃ v, e = .returned v ∧ Quads w' v (simpG s Q) ∧ Below w.heap.size w w'
theorem quads_take1 {w : World} {p : Option Addr} {n c : Nat} {Q : List QP} (h : Quads w (.slice p n c) Q) (h0 : 0 < Q.length) : Quads w (.slice p 1 c) (Q.take 1) := by
  obtain ⟨p', c', hv, hc, hm, hx⟩ := h
  simp only [Value.slice.injEq] at hv
  obtain ⟨rfl, rfl, rfl⟩ := hv
  obtain ⟨b, off, hp, hbl, hcell⟩ := hx h0
  have hl : (Q.take 1).length = 1 := by rw [List.length_take]; omega
  refine ⟨p, c, by rw [hl], by rw [hl]; omega, hm, fun _ => ⟨b, off, hp, hbl, fun i hi => ?_⟩⟩
  rw [hl] at hi
  obtain rfl : i = 0 := by omega
  have := hcell 0 h0
  simpa using this
theorem cellsQ_one (p : QP) : ∀ u ∈ (#[Value.int .i64 p.1.num, .int .i64 (p.1.den : Int), .int .i64 p.2.num, .int .i64 (p.2.den : Int)] : Array Value).toList, u.oneCell' = true := by
  intro u hu
  simp at hu
  rcases hu with rfl | rfl | rfl | rfl <;> rfl
set_option maxRecDepth 100000 in
set_option maxHeartbeats 8000000 in
theorem ref_Simplify (v : Value) (Q : List QP) (w : World) (hv : Quads w v Q) (hQ : FrW Q) (hp : Q.Pairwise (fun x y => x.1 < y.1)) (hl : Q.length ≤ 1000) (hl0 : 0 < Q.length) :
    Calls Tryz.prog 54 #[v] w (RSimpPost (slopeQ Q) Q w) := by
  have HSL := Lib.hid (fun (n : Nat) (hn : n ≤ Q.length) w' (hb : Below w.heap.size w w') => ref_SlopeW v Q n w' (hv.below hb) hQ hp hn hl)
  unfold FracPost fracV at HSL
  have HV := Lib.hid hv
  have hneq := neqFracV
  have hguard := neqGuardF
  obtain ⟨p, c, rfl, hc, hm, hxx⟩ := hv
  obtain ⟨b, off, rfl, hbl, hcell⟩ := hxx hl0
  generalize slopeQ Q = s at *
  have hbw := Below.refl w.heap.size w
  have HST0 := Lib.hid (show RsSt s Q w 0 (.slice none 0 0) w from ⟨World.ownsRow_nil _ _ _ _, hbw⟩)
  clear hQ hp hxx
  go_enter Tryz.func54, Tryz.ntmps54
  go_wp2_with fail
  go_loopw [3, 4] (fun ov iv wr => ∃ (k : Nat) (vv : Value), k ≤ Q.length ∧ RsSt s Q w k vv wr ∧ vv = ov ∧ iv = .int .i64 (k : Int)) (fun _ iv _ => Q.length - (intOf iv).toNat)
  case atStart => exact ⟨0, _, Nat.zero_le _, HST0.out, rfl, rfl⟩
  case round =>
    obtain ⟨k, ov, hk2, hst, rfl, rfl⟩ := hrel
    have hown := hst.1
    have hbr := hst.2
    by_cases hk : k < Q.length
    · obtain ⟨c0, c1, c2, c3⟩ := hcell k hk
      rw [← hbr.cell (p := ⟨b, off + k * 4, none⟩) hbl] at c0
      rw [← hbr.cell (p := ⟨b, off + k * 4 + 1, none⟩) hbl] at c1
      rw [← hbr.cell (p := ⟨b, off + k * 4 + 2, none⟩) hbl] at c2
      rw [← hbr.cell (p := ⟨b, off + k * 4 + 2 + 1, none⟩) hbl] at c3
      have hblr : b < wr.heap.size := Nat.lt_of_lt_of_le hbl hbr.size
      have hkn : decide ((k : Int) < (Q.length : Int)) = true := decide_eq_true (by omega)
      have i1 : (0 : Int) ≤ (k : Int) := by omega
      have i2 : (k : Int) < (Q.length : Int) := by omega
      have HNO := Lib.hid (fun (h : s k = s (k + 1)) => keepG_no (L := Q) h)
      have HYES := Lib.hid (fun (h : s k ≠ s (k + 1)) => keepG_yes (L := Q) hk h)
      have hkl := keepG_len s Q k
      have H1 := Lib.hid (HSL.out k (by omega))
      have H2 := Lib.hid (HSL.out (k + 1) hk)
      have HONE := Lib.hid (cellsQ_one Q[k])
      obtain ⟨xs, hxs⟩ : ∃ xs, xs = cellsQ (keepG s Q k) := ⟨_, rfl⟩
      obtain ⟨n8, hn8⟩ : ∃ n8, n8 = (keepG s Q k).length := ⟨_, rfl⟩
      rw [← hn8, ← hxs] at hown
      have HPUT := Lib.hid (fun (h : s k ≠ s (k + 1)) (v' : Value) (w' : World) (ho : w'.ownsRow w.heap.size 66 4 v' (n8 + 1) (xs ++ [.int .i64 Q[k].1.num, .int .i64 (Q[k].1.den : Int), .int .i64 Q[k].2.num, .int .i64 (Q[k].2.den : Int)])) (hb : Below w.heap.size w w') => show RsSt s Q w (k + 1) v' w' by
        unfold RsSt
        rw [HYES.out h, cellsQ_snoc, List.length_append, ← hn8, ← hxs]
        exact ⟨ho, hb⟩)
      have HSAME := Lib.hid (fun (h : s k = s (k + 1)) (w' : World) (ho : w'.ownsRow w.heap.size 66 4 ov n8 xs) (hb : Below w.heap.size w w') => show RsSt s Q w (k + 1) ov w' by
        unfold RsSt
        rw [HNO.out h, ← hn8, ← hxs]
        exact ⟨ho, hb⟩)
      rw [← hn8] at hkl
      have HOI := Lib.hid hown
      obtain ⟨s1, hs1⟩ : ∃ s1, s1 = s k := ⟨_, rfl⟩
      obtain ⟨s2, hs2⟩ : ∃ s2, s2 = s (k + 1) := ⟨_, rfl⟩
      rw [← hs1] at H1 HPUT HSAME
      rw [← hs2] at H2 HPUT HSAME
      have i3 : ((k : Int) + 1) = ((k + 1 : Nat) : Int) := by push_cast; rfl
      have i4 : IntKind.i64.wrap ((k : Int) + 1) = ((k + 1 : Nat) : Int) := (IntWalk.i64_in _ (by omega)).trans i3
      replace hneq := hneq s1 s2
      clear hown hst hcell hxs hn8 hs1 hs2 i3
      by_cases he : s1 = s2
      · rw [decide_eq_true he] at hneq
        have HS := Lib.hid (HSAME.out he)
        clear he
        generalize s1.num = a1 at *
        generalize (s1.den : Int) = a2 at *
        generalize s2.num = b1 at *
        generalize (s2.den : Int) = b2 at *
        go_wp2_with fail
        refine (H1.out _ hbr).mono ?_
        rintro e w2 ⟨rfl, hb2⟩
        have hb02 := hbr.trans (hb2.mono hbr.size)
        go_wp2_with fail
        refine (H2.out _ hb02).mono ?_
        rintro e w3 ⟨rfl, hb3⟩
        have hb03 := hb02.trans (hb3.mono hb02.size)
        have hbA3 := hb2.trans (hb3.mono hb2.size)
        have HO3 := Lib.hid (owns_below HOI.out hbA3)
        go_wp2
        refine ⟨⟨k + 1, ov, hk, HS.out _ HO3.out hb03, rfl, int_succ k⟩, ?_⟩
        show Q.length - ((k : Int) + 1).toNat < Q.length - ((k : Int)).toNat
        omega
      · rw [decide_eq_false he] at hneq
        have HP := Lib.hid (HPUT.out he)
        clear he
        generalize s1.num = a1 at *
        generalize (s1.den : Int) = a2 at *
        generalize s2.num = b1 at *
        generalize (s2.den : Int) = b2 at *
        generalize Q[k] = A at *
        generalize A.1.num = g0 at *
        generalize (A.1.den : Int) = g1 at *
        generalize A.2.num = g2 at *
        generalize (A.2.den : Int) = g3 at *
        go_wp2_with fail
        refine (H1.out _ hbr).mono ?_
        rintro e w2 ⟨rfl, hb2⟩
        have hb02 := hbr.trans (hb2.mono hbr.size)
        go_wp2_with fail
        refine (H2.out _ hb02).mono ?_
        rintro e w3 ⟨rfl, hb3⟩
        have hb03 := hb02.trans (hb3.mono hb02.size)
        have hbA3 := hb2.trans (hb3.mono hb2.size)
        have HO3 := Lib.hid (owns_below HOI.out hbA3)
        rw [← hbA3.cell (p := ⟨b, off + k * 4, none⟩) hblr] at c0
        rw [← hbA3.cell (p := ⟨b, off + k * 4 + 1, none⟩) hblr] at c1
        rw [← hbA3.cell (p := ⟨b, off + k * 4 + 2, none⟩) hblr] at c2
        rw [← hbA3.cell (p := ⟨b, off + k * 4 + 2 + 1, none⟩) hblr] at c3
        have hs3 := hb03.size
        go_wp2_with (at_builtin; refine app_new slKnotF rfl _ _ rfl w.heap.size _ n8 _ rfl HO3.out 1 1 _ rfl rfl HONE.out (by omega) (by decide) hs3 _ rfl ?_; intro v1 w9 hown2 hb9; have HO2 := Lib.hid hown2; clear hown2)
        refine ⟨⟨k + 1, v1, hk, HP.out _ _ HO2.out (hb03.trans hb9), rfl, int_succ k⟩, ?_⟩
        show Q.length - ((k : Int) + 1).toNat < Q.length - ((k : Int)).toNat
        omega
    · have hkn : decide ((k : Int) < (Q.length : Int)) = false := decide_eq_false (by omega)
      have hkz : k = Q.length := by omega
      subst hkz
      by_cases h0 : keepG s Q Q.length = []
      · rw [h0] at hown
        obtain ⟨a0, cp0, rfl⟩ : ∃ a0 cp0, ov = .slice a0 0 cp0 := by
          rcases hown.2 with ⟨h, _⟩ | ⟨g', cap', _, h, _⟩
          · exact ⟨none, 0, h⟩
          · exact ⟨_, _, h⟩
        have HRT := Lib.hid (show RSimpPost s Q w (.returned (.slice (some ⟨b, off, none⟩) 1 c)) wr from ⟨_, rfl, by unfold simpG; rw [if_pos h0]; exact quads_take1 (HV.out.below hbr) hl0, hbr⟩)
        have i5 : (0 : Int) < (Q.length : Int) := by omega
        clear hown hst hcell h0
        go_wp2
        go_ret
        exact HRT.out
      · have hn : ∃ n, (keepG s Q Q.length).length = n + 1 := by
          cases h : keepG s Q Q.length with
          | nil => exact (h0 h).elim
          | cons p r => exact ⟨r.length, rfl⟩
        obtain ⟨n, hn⟩ := hn
        have HRT := Lib.hid (show RSimpPost s Q w (.returned ov) wr from ⟨_, rfl, by unfold simpG; rw [if_neg h0]; exact quads_of_owns hown, hbr⟩)
        rw [hn] at hown
        obtain ⟨g, cp, rfl⟩ := ownsRow_succ hown
        have h1 : ((n : Int) + 1 == 0) = false := by simp; omega
        have h2 : (((n + 1 : Nat) : Int) == 0) = false := by simp; omega
        clear hown hst hcell h0 hn
        go_wp2
        go_ret
        exact HRT.out
end Go.Proofs.YtbogpbjddaoeiaaGreatDoor
