import Derived.Test.YtbogpbjddaoeiaaGreatDoorPlainQZ
import Derived.Test.YtbogpbjddaoeiaaGreatDoorLawKZ
import Derived.Test.YtbogpbjddaoeiaaGreatDoorEqZ
import Derived.Test.YtbogpbjddaoeiaaGreatDoorUnionZ
import Derived.Test.YtbogpbjddaoeiaaGreatDoorSetsZ
namespace Go.Proofs.YtbogpbjddaoeiaaGreatDoor
open Go.RowKit Go.Shelf
open Go.Lib (decDigits itoa nDigits)
def RetB (w : World) (e : Ending) (w' : World) : Prop := e = .returned (.bool true) ∧ Below w.heap.size w w'
set_option maxRecDepth 100000 in
set_option maxHeartbeats 16000000 in
theorem law_RangesCombines (hT : NeqT 33) (va vb : Value) (DA DB : List Duo) (w : World) (hw : Good w) (hA : Duos w va DA) (hB : Duos w vb DB) :
    Calls Tryz.prog 8 #[va, vb] w (RetB w) := by
  have HKN := Lib.hid (fun w' (hb : Below w.heap.size w w') => law_known w' (hw.below hb))
  have hokA := hA.ok
  have hokB := hB.ok
  have HEA := Lib.hid (fun w' (hb : Below w.heap.size w w') => law_ends va DA w' (hA.below hb))
  have HEB := Lib.hid (fun w' (hb : Below w.heap.size w w') => law_ends vb DB w' (hB.below hb))
  have hEA : ∀ p ∈ endsZ DA, -300 ≤ p.1 ∧ p.1 < p.2 ∧ p.2 ≤ 300 := fun p hp => by have := endsZ_ok hokA p hp; omega
  have hEB : ∀ p ∈ endsZ DB, -300 ≤ p.1 ∧ p.1 < p.2 ∧ p.2 ≤ 300 := fun p hp => by have := endsZ_ok hokB p hp; omega
  have hlA : (endsZ DA).length ≤ 8 := by rw [endsZ_len]; omega
  have hlB : (endsZ DB).length ≤ 8 := by rw [endsZ_len]; omega
  have HOA := Lib.hid (fun w' u (h : Zees w' u (endsZ DA)) => ref_Of u (endsZ DA) w' h hEA (by omega))
  have HOB := Lib.hid (fun w' u (h : Zees w' u (endsZ DB)) => ref_Of u (endsZ DB) w' h hEB (by omega))
  have HMA := Lib.hid (fun w' (hb : Below w.heap.size w w') => law_Make va DA w' (hA.below hb))
  have HMB := Lib.hid (fun w' (hb : Below w.heap.size w w') => law_Make vb DB w' (hB.below hb))
  have HHA := Lib.hid (fun Z (h : IsSet (setOf (endsZ DA)) Z) => Hal.of_set hokA h)
  have HHB := Lib.hid (fun Z (h : IsSet (setOf (endsZ DB)) Z) => Hal.of_set hokB h)
  have HSA0 := Lib.hid (fun w' u1 u2 (C : List ZP) (h1 : Pairs w' u1 (C.map halfP)) (h2 : Pairs w' u2 (C.map halfP)) => (by
    have := law_same hT u1 u2 _ _ w' h1 h2
    rw [decide_eq_true (show C.map halfP = C.map halfP from rfl)] at this
    exact this : Calls Tryz.prog 23 #[u1, u2] w' fun e w'' => e = .returned (.bool true) ∧ Below w'.heap.size w' w''))
  unfold EndsPost at HEA HEB
  unfold SetPost at HOA HOB
  unfold MakePost at HMA HMB
  obtain ⟨pa, ca, rfl, hca, hma, hza⟩ := hA
  obtain ⟨pb, cb, rfl, hcb, hmb, hzb⟩ := hB
  clear hza hzb
  by_cases h8 : 8 < DA.length
  · have e1 : decide ((8 : Int) < (DA.length : Int)) = true := decide_eq_true (by omega)
    clear HEA HEB hEA hEB hlA hlB HOA HOB HMA HMB HHA HHB HSA0 hokA hokB
    clear h8
    generalize DA.length = na at *
    generalize DB.length = nb at *
    go_enter Tryz.func8, Tryz.ntmps8
    go_wp2_with fail
    refine (HKN.out w (Below.refl _ _)).mono ?_
    rintro e w1 ⟨rfl, hb1⟩
    go_wp2_with fail
    refine (HKN.out w1 hb1).mono ?_
    rintro e w2 ⟨rfl, hb2⟩
    go_wp2
    go_ret
    exact ⟨rfl, hb1.trans (hb2.mono hb1.size)⟩
  · have e1 : decide ((8 : Int) < (DA.length : Int)) = false := decide_eq_false (by omega)
    by_cases h9 : 8 < DB.length
    · have e2 : decide ((8 : Int) < (DB.length : Int)) = true := decide_eq_true (by omega)
      clear HEA HEB hEA hEB hlA hlB HOA HOB HMA HMB HHA HHB HSA0 hokA hokB
      clear h8 h9
      generalize DA.length = na at *
      generalize DB.length = nb at *
      go_enter Tryz.func8, Tryz.ntmps8
      go_wp2_with fail
      refine (HKN.out w (Below.refl _ _)).mono ?_
      rintro e w1 ⟨rfl, hb1⟩
      go_wp2_with fail
      refine (HKN.out w1 hb1).mono ?_
      rintro e w2 ⟨rfl, hb2⟩
      go_wp2
      go_ret
      exact ⟨rfl, hb1.trans (hb2.mono hb1.size)⟩
    · have e2 : decide ((8 : Int) < (DB.length : Int)) = false := decide_eq_false (by omega)
      clear h8 h9 hEA hEB hlA hlB hokA hokB
      generalize endsZ DA = EA at *
      generalize endsZ DB = EB at *
      generalize DA.length = na at *
      generalize DB.length = nb at *
      generalize setOf EA = x at *
      generalize setOf EB = y at *
      go_enter Tryz.func8, Tryz.ntmps8
      go_wp2_with fail
      refine (HKN.out w (Below.refl _ _)).mono ?_
      rintro e w1 ⟨rfl, hb1⟩
      go_wp2_with fail
      refine (HEA.out w1 hb1).mono ?_
      rintro e w2 ⟨v2, rfl, hz2, hb2⟩
      have hb02 := hb1.trans (hb2.mono hb1.size)
      obtain ⟨p2, c2, rfl, hzz⟩ := id hz2
      clear hzz
      go_wp2_with fail
      refine (HOA.out w2 _ hz2).mono ?_
      rintro e w3 ⟨rfl, hb3⟩
      have hb03 := hb02.trans (hb3.mono hb02.size)
      clear hz2
      go_wp2_with fail
      refine (HEB.out w3 hb03).mono ?_
      rintro e w4 ⟨v4, rfl, hz4, hb4⟩
      have hb04 := hb03.trans (hb4.mono hb03.size)
      obtain ⟨p4, c4, rfl, hzz⟩ := id hz4
      clear hzz
      go_wp2_with fail
      refine (HOB.out w4 _ hz4).mono ?_
      rintro e w5 ⟨rfl, hb5⟩
      have hb05 := hb04.trans (hb5.mono hb04.size)
      clear hz4 HEA HEB HOA HOB
      have hzs := zeroSet
      obtain ⟨O, hO⟩ : ∃ O, O = Obj.cells (cellsB (setOf [])) 79 := ⟨_, rfl⟩
      have hr5 : ((w5.alloc (Obj.cells (cellsB (setOf [])) 79)).alloc (Obj.cells (cellsB (setOf [])) 79)).heap[w5.heap.size]? = some (.cells (cellsB (setOf [])) 79 (0, 0)) := ((alloc_below _ _).block _ (by simp)).trans (World.alloc_heap_new _ _)
      have hr6 : (((w5.alloc (Obj.cells (cellsB (setOf [])) 79)).alloc (Obj.cells (cellsB (setOf [])) 79)).setRow w5.heap.size (cellsB x)).heap[w5.heap.size + 1]? = some (.cells (cellsB (setOf [])) 79 (0, 0)) := by
        rw [setRow_other _ _ _ _ (by omega), show w5.heap.size + 1 = (w5.alloc (Obj.cells (cellsB (setOf [])) 79)).heap.size by simp]
        exact World.alloc_heap_new _ _
      have HR5 := Lib.hid hr5
      have HR6 := Lib.hid hr6
      have H5R := Lib.hid (fun W hW => five_rows (w := w5) (W := W) (x := x) (y := y) (fun j => x j || y j) (fun j => x j && y j) (fun j => x j && !y j) hW)
      clear hO hr5 hr6
      go_wp2_with (first
        | (refine wpList_store_row rfl 79 _ _ rfl w5.heap.size (cellsB x) rfl rfl 79 (cellsB (setOf [])) HR5.out (sizeSet _) (by rw [cellsB_size, cellsB_size]) (cellsB_one _) ?_)
        | (refine wpList_store_row rfl 79 _ _ rfl (w5.heap.size + 1) (cellsB y) rfl rfl 79 (cellsB (setOf [])) HR6.out (sizeSet _) (by rw [cellsB_size, cellsB_size]) (cellsB_one _) ?_))
      clear hzs
      have hr0 := H5R.out (((((((w5.alloc (Obj.cells (cellsB (setOf [])) 79)).alloc (Obj.cells (cellsB (setOf [])) 79)).setRow w5.heap.size (cellsB x)).setRow (w5.heap.size + 1) (cellsB y)).alloc (Obj.cells (cellsB (setOf [])) 79)).alloc (Obj.cells (cellsB (setOf [])) 79)).alloc (Obj.cells (cellsB (setOf [])) 79)) rfl
      obtain ⟨W6, hW6⟩ : ∃ W6, W6 = (((((((w5.alloc (Obj.cells (cellsB (setOf [])) 79)).alloc (Obj.cells (cellsB (setOf [])) 79)).setRow w5.heap.size (cellsB x)).setRow (w5.heap.size + 1) (cellsB y)).alloc (Obj.cells (cellsB (setOf [])) 79)).alloc (Obj.cells (cellsB (setOf [])) 79)).alloc (Obj.cells (cellsB (setOf [])) 79)) := ⟨_, rfl⟩
      rw [← hW6] at hr0 ⊢
      have HR0 := Lib.hid hr0
      obtain ⟨f, hf⟩ : ∃ f, f = (fun j => x j || y j) := ⟨_, rfl⟩
      obtain ⟨g, hg⟩ : ∃ g, g = (fun j => x j && y j) := ⟨_, rfl⟩
      obtain ⟨h, hh⟩ : ∃ h, h = (fun j => x j && !y j) := ⟨_, rfl⟩
      rw [← hf, ← hg, ← hh] at HR0
      have fk := Lib.hid (fun k => congrFun hf k)
      have gk := Lib.hid (fun k => congrFun hg k)
      have hk' := Lib.hid (fun k => congrFun hh k)
      have HFF := Lib.hid hf
      have HGG := Lib.hid hg
      have HHH := Lib.hid hh
      have hx0 : cntB x 0 = 0 := rfl
      clear hr0 hW6 H5R HR5 HR6 hf hg hh
      go_loopw [10, 11, 12] (fun wv cv iv wr => ∃ k : Nat, k ≤ 600 ∧ Row5 w5 (w5.heap.size) (w5.heap.size + 1) (w5.heap.size + 1 + 1) (w5.heap.size + 1 + 1 + 1) (w5.heap.size + 1 + 1 + 1 + 1) x y (partS f k) (partS g k) (partS h k) wr ∧ wv = .bool (noneB h k) ∧ cv = .int .i64 (cntB x k : Int) ∧ iv = .int .i64 (k : Int)) (fun _ _ iv _ => 600 - (intOf iv).toNat)
      case atStart => exact ⟨0, Nat.zero_le _, HR0.out, rfl, rfl, rfl⟩
      case round =>
        obtain ⟨k, hk6, hr, rfl, rfl, rfl⟩ := hrel
        by_cases hk : k < 600
        · have hkn : decide ((k : Int) < 600) = true := decide_eq_true (by omega)
          have i1 : (0 : Int) ≤ (k : Int) := by omega
          have i2 : (k : Int) < 600 := by omega
          obtain ⟨c0, _⟩ := rowB_cell hr.r0 hk
          obtain ⟨c1, _⟩ := rowB_cell hr.r1 hk
          obtain ⟨c2, f2⟩ := rowB_cell hr.r2 hk
          have hcl := cntB_le x k
          have HSX : cntB x (k + 1) = cntB x k + if x k = true then 1 else 0 := rfl
          have HSN : noneB h (k + 1) = (noneB h k && !h k) := rfl
          have HSH := hk'.out k
          have HST := Lib.hid (fun a b c (ha : a = f k) (hb : b = g k) (hc : c = h k) => hr.step hk (by omega) (by omega) (by omega) (by omega) (by omega) (by omega) (by omega) (by omega) (by omega) (by omega) (by omega) (by omega) a b c ha hb hc)
          have HFK := Lib.hid (fk.out k)
          have HGK := Lib.hid (gk.out k)
          have HHK := Lib.hid (hk'.out k)
          have facts : ∀ a b c : Bool, c = h k → (wr.setCell ⟨w5.heap.size + 1 + 1, k, none⟩ (.bool a)).cell? ⟨w5.heap.size, k, none⟩ = some (.bool (x k)) ∧ (wr.setCell ⟨w5.heap.size + 1 + 1, k, none⟩ (.bool a)).cell? ⟨w5.heap.size + 1, k, none⟩ = some (.bool (y k)) ∧ (wr.setCell ⟨w5.heap.size + 1 + 1, k, none⟩ (.bool a)).cell? ⟨w5.heap.size + 1 + 1 + 1, k, none⟩ = some (.bool (partS g k k)) ∧ (wr.setCell ⟨w5.heap.size + 1 + 1, k, none⟩ (.bool a)).frozen? ⟨w5.heap.size + 1 + 1 + 1, k, none⟩ = false ∧
              ((wr.setCell ⟨w5.heap.size + 1 + 1, k, none⟩ (.bool a)).setCell ⟨w5.heap.size + 1 + 1 + 1, k, none⟩ (.bool b)).cell? ⟨w5.heap.size, k, none⟩ = some (.bool (x k)) ∧ ((wr.setCell ⟨w5.heap.size + 1 + 1, k, none⟩ (.bool a)).setCell ⟨w5.heap.size + 1 + 1 + 1, k, none⟩ (.bool b)).cell? ⟨w5.heap.size + 1, k, none⟩ = some (.bool (y k)) ∧ ((wr.setCell ⟨w5.heap.size + 1 + 1, k, none⟩ (.bool a)).setCell ⟨w5.heap.size + 1 + 1 + 1, k, none⟩ (.bool b)).cell? ⟨w5.heap.size + 1 + 1 + 1 + 1, k, none⟩ = some (.bool (partS h k k)) ∧ ((wr.setCell ⟨w5.heap.size + 1 + 1, k, none⟩ (.bool a)).setCell ⟨w5.heap.size + 1 + 1 + 1, k, none⟩ (.bool b)).frozen? ⟨w5.heap.size + 1 + 1 + 1 + 1, k, none⟩ = false ∧
              (((wr.setCell ⟨w5.heap.size + 1 + 1, k, none⟩ (.bool a)).setCell ⟨w5.heap.size + 1 + 1 + 1, k, none⟩ (.bool b)).setCell ⟨w5.heap.size + 1 + 1 + 1 + 1, k, none⟩ (.bool c)).cell? ⟨w5.heap.size + 1 + 1 + 1 + 1, k, none⟩ = some (.bool c) ∧ (((wr.setCell ⟨w5.heap.size + 1 + 1, k, none⟩ (.bool a)).setCell ⟨w5.heap.size + 1 + 1 + 1, k, none⟩ (.bool b)).setCell ⟨w5.heap.size + 1 + 1 + 1 + 1, k, none⟩ (.bool c)).cell? ⟨w5.heap.size, k, none⟩ = some (.bool (x k)) := by
            intro a b c hc
            have a0 : rowB (wr.setCell ⟨w5.heap.size + 1 + 1, k, none⟩ (.bool a)) (w5.heap.size) x := (setCell_ne _ (by omega)).trans hr.r0
            have a1 : rowB (wr.setCell ⟨w5.heap.size + 1 + 1, k, none⟩ (.bool a)) (w5.heap.size + 1) y := (setCell_ne _ (by omega)).trans hr.r1
            have a3 : rowB (wr.setCell ⟨w5.heap.size + 1 + 1, k, none⟩ (.bool a)) (w5.heap.size + 1 + 1 + 1) (partS g k) := (setCell_ne _ (by omega)).trans hr.r3
            have a4 : rowB (wr.setCell ⟨w5.heap.size + 1 + 1, k, none⟩ (.bool a)) (w5.heap.size + 1 + 1 + 1 + 1) (partS h k) := (setCell_ne _ (by omega)).trans hr.r4
            have b0 : rowB ((wr.setCell ⟨w5.heap.size + 1 + 1, k, none⟩ (.bool a)).setCell ⟨w5.heap.size + 1 + 1 + 1, k, none⟩ (.bool b)) (w5.heap.size) x := (setCell_ne _ (by omega)).trans a0
            have b1 : rowB ((wr.setCell ⟨w5.heap.size + 1 + 1, k, none⟩ (.bool a)).setCell ⟨w5.heap.size + 1 + 1 + 1, k, none⟩ (.bool b)) (w5.heap.size + 1) y := (setCell_ne _ (by omega)).trans a1
            have b4 : rowB ((wr.setCell ⟨w5.heap.size + 1 + 1, k, none⟩ (.bool a)).setCell ⟨w5.heap.size + 1 + 1 + 1, k, none⟩ (.bool b)) (w5.heap.size + 1 + 1 + 1 + 1) (partS h k) := (setCell_ne _ (by omega)).trans a4
            have d0 : rowB (((wr.setCell ⟨w5.heap.size + 1 + 1, k, none⟩ (.bool a)).setCell ⟨w5.heap.size + 1 + 1 + 1, k, none⟩ (.bool b)).setCell ⟨w5.heap.size + 1 + 1 + 1 + 1, k, none⟩ (.bool c)) (w5.heap.size) x := (setCell_ne _ (by omega)).trans b0
            have d4 : rowB (((wr.setCell ⟨w5.heap.size + 1 + 1, k, none⟩ (.bool a)).setCell ⟨w5.heap.size + 1 + 1 + 1, k, none⟩ (.bool b)).setCell ⟨w5.heap.size + 1 + 1 + 1 + 1, k, none⟩ (.bool c)) (w5.heap.size + 1 + 1 + 1 + 1) (partS h (k + 1)) := (row_set k (.bool c) b4).trans (by rw [hc, partS_step h hk])
            have e4 : partS h (k + 1) k = c := by unfold partS; rw [decide_eq_true (Nat.lt_succ_self k), Bool.true_and, hc]
            exact ⟨(rowB_cell a0 hk).1, (rowB_cell a1 hk).1, (rowB_cell a3 hk).1, (rowB_cell a3 hk).2, (rowB_cell b0 hk).1, (rowB_cell b1 hk).1, (rowB_cell b4 hk).1, (rowB_cell b4 hk).2, e4 ▸ (rowB_cell d4 hk).1, (rowB_cell d0 hk).1⟩
          clear hr
          cases hx : x k <;> cases hy : y k <;> cases hn : noneB h k
          · rw [hx, hy] at HSH
            obtain ⟨t0, t1, t2, t3, t4, t5, t6, t7, t8, t9⟩ := facts false false false (by rw [HSH]; rfl)
            rw [hx] at c0 HSX t0 t4 t9
            rw [hy] at c1 t1 t5
            rw [hn, HSH] at HSN
            have HN := Lib.hid HSN
            have HX := Lib.hid HSX
            have HS := Lib.hid (HST.out false false false (by rw [HFK.out, hx, hy]; rfl) (by rw [HGK.out, hx, hy]; rfl) (by rw [HHK.out, hx, hy]; rfl))
            clear facts HSN HSX HSH hx hy hn
            generalize cntB x k = cn at *
            go_wp2
            refine ⟨⟨k + 1, hk, HS.out, by rw [HN.out]; rfl, by rw [HX.out]; rfl, int_succ k⟩, ?_⟩
            show 600 - ((k : Int) + 1).toNat < 600 - ((k : Int)).toNat
            omega
          · rw [hx, hy] at HSH
            obtain ⟨t0, t1, t2, t3, t4, t5, t6, t7, t8, t9⟩ := facts false false false (by rw [HSH]; rfl)
            rw [hx] at c0 HSX t0 t4 t9
            rw [hy] at c1 t1 t5
            rw [hn, HSH] at HSN
            have HN := Lib.hid HSN
            have HX := Lib.hid HSX
            have HS := Lib.hid (HST.out false false false (by rw [HFK.out, hx, hy]; rfl) (by rw [HGK.out, hx, hy]; rfl) (by rw [HHK.out, hx, hy]; rfl))
            clear facts HSN HSX HSH hx hy hn
            generalize cntB x k = cn at *
            go_wp2
            refine ⟨⟨k + 1, hk, HS.out, by rw [HN.out]; rfl, by rw [HX.out]; rfl, int_succ k⟩, ?_⟩
            show 600 - ((k : Int) + 1).toNat < 600 - ((k : Int)).toNat
            omega
          · rw [hx, hy] at HSH
            obtain ⟨t0, t1, t2, t3, t4, t5, t6, t7, t8, t9⟩ := facts true false false (by rw [HSH]; rfl)
            rw [hx] at c0 HSX t0 t4 t9
            rw [hy] at c1 t1 t5
            rw [hn, HSH] at HSN
            have HN := Lib.hid HSN
            have HX := Lib.hid HSX
            have HS := Lib.hid (HST.out true false false (by rw [HFK.out, hx, hy]; rfl) (by rw [HGK.out, hx, hy]; rfl) (by rw [HHK.out, hx, hy]; rfl))
            clear facts HSN HSX HSH hx hy hn
            generalize cntB x k = cn at *
            go_wp2
            refine ⟨⟨k + 1, hk, HS.out, by rw [HN.out]; rfl, by rw [HX.out]; rfl, int_succ k⟩, ?_⟩
            show 600 - ((k : Int) + 1).toNat < 600 - ((k : Int)).toNat
            omega
          · rw [hx, hy] at HSH
            obtain ⟨t0, t1, t2, t3, t4, t5, t6, t7, t8, t9⟩ := facts true false false (by rw [HSH]; rfl)
            rw [hx] at c0 HSX t0 t4 t9
            rw [hy] at c1 t1 t5
            rw [hn, HSH] at HSN
            have HN := Lib.hid HSN
            have HX := Lib.hid HSX
            have HS := Lib.hid (HST.out true false false (by rw [HFK.out, hx, hy]; rfl) (by rw [HGK.out, hx, hy]; rfl) (by rw [HHK.out, hx, hy]; rfl))
            clear facts HSN HSX HSH hx hy hn
            generalize cntB x k = cn at *
            go_wp2
            refine ⟨⟨k + 1, hk, HS.out, by rw [HN.out]; rfl, by rw [HX.out]; rfl, int_succ k⟩, ?_⟩
            show 600 - ((k : Int) + 1).toNat < 600 - ((k : Int)).toNat
            omega
          · rw [hx, hy] at HSH
            obtain ⟨t0, t1, t2, t3, t4, t5, t6, t7, t8, t9⟩ := facts true false true (by rw [HSH]; rfl)
            rw [hx] at c0 HSX t0 t4 t9
            rw [hy] at c1 t1 t5
            rw [hn, HSH] at HSN
            have HN := Lib.hid HSN
            have HX := Lib.hid HSX
            have HS := Lib.hid (HST.out true false true (by rw [HFK.out, hx, hy]; rfl) (by rw [HGK.out, hx, hy]; rfl) (by rw [HHK.out, hx, hy]; rfl))
            clear facts HSN HSX HSH hx hy hn
            generalize cntB x k = cn at *
            go_wp2
            refine ⟨⟨k + 1, hk, HS.out, by rw [HN.out]; rfl, by rw [HX.out]; rfl, int_succ k⟩, ?_⟩
            show 600 - ((k : Int) + 1).toNat < 600 - ((k : Int)).toNat
            omega
          · rw [hx, hy] at HSH
            obtain ⟨t0, t1, t2, t3, t4, t5, t6, t7, t8, t9⟩ := facts true false true (by rw [HSH]; rfl)
            rw [hx] at c0 HSX t0 t4 t9
            rw [hy] at c1 t1 t5
            rw [hn, HSH] at HSN
            have HN := Lib.hid HSN
            have HX := Lib.hid HSX
            have HS := Lib.hid (HST.out true false true (by rw [HFK.out, hx, hy]; rfl) (by rw [HGK.out, hx, hy]; rfl) (by rw [HHK.out, hx, hy]; rfl))
            clear facts HSN HSX HSH hx hy hn
            generalize cntB x k = cn at *
            go_wp2
            refine ⟨⟨k + 1, hk, HS.out, by rw [HN.out]; rfl, by rw [HX.out]; rfl, int_succ k⟩, ?_⟩
            show 600 - ((k : Int) + 1).toNat < 600 - ((k : Int)).toNat
            omega
          · rw [hx, hy] at HSH
            obtain ⟨t0, t1, t2, t3, t4, t5, t6, t7, t8, t9⟩ := facts true true false (by rw [HSH]; rfl)
            rw [hx] at c0 HSX t0 t4 t9
            rw [hy] at c1 t1 t5
            rw [hn, HSH] at HSN
            have HN := Lib.hid HSN
            have HX := Lib.hid HSX
            have HS := Lib.hid (HST.out true true false (by rw [HFK.out, hx, hy]; rfl) (by rw [HGK.out, hx, hy]; rfl) (by rw [HHK.out, hx, hy]; rfl))
            clear facts HSN HSX HSH hx hy hn
            generalize cntB x k = cn at *
            go_wp2
            refine ⟨⟨k + 1, hk, HS.out, by rw [HN.out]; rfl, by rw [HX.out]; rfl, int_succ k⟩, ?_⟩
            show 600 - ((k : Int) + 1).toNat < 600 - ((k : Int)).toNat
            omega
          · rw [hx, hy] at HSH
            obtain ⟨t0, t1, t2, t3, t4, t5, t6, t7, t8, t9⟩ := facts true true false (by rw [HSH]; rfl)
            rw [hx] at c0 HSX t0 t4 t9
            rw [hy] at c1 t1 t5
            rw [hn, HSH] at HSN
            have HN := Lib.hid HSN
            have HX := Lib.hid HSX
            have HS := Lib.hid (HST.out true true false (by rw [HFK.out, hx, hy]; rfl) (by rw [HGK.out, hx, hy]; rfl) (by rw [HHK.out, hx, hy]; rfl))
            clear facts HSN HSX HSH hx hy hn
            generalize cntB x k = cn at *
            go_wp2
            refine ⟨⟨k + 1, hk, HS.out, by rw [HN.out]; rfl, by rw [HX.out]; rfl, int_succ k⟩, ?_⟩
            show 600 - ((k : Int) + 1).toNat < 600 - ((k : Int)).toNat
            omega
        · have hkn : decide ((k : Int) < 600) = false := decide_eq_false (by omega)
          obtain rfl : k = 600 := by omega
          have hlow := hr.low
          have hb06 := hb05.trans (hlow.mono hb05.size)
          have HF2 := Lib.hid (show wr.heap[w5.heap.size + 1 + 1]? = some (Obj.cells (cellsB f) 79 (0, 0)) by rw [← partS_done]; exact hr.r2)
          have HF3 := Lib.hid (show wr.heap[w5.heap.size + 1 + 1 + 1]? = some (Obj.cells (cellsB g) 79 (0, 0)) by rw [← partS_done]; exact hr.r3)
          have HF4 := Lib.hid (show wr.heap[w5.heap.size + 1 + 1 + 1 + 1]? = some (Obj.cells (cellsB h) 79 (0, 0)) by rw [← partS_done]; exact hr.r4)
          clear hr hlow fk gk hk' HR0
          generalize w5.heap.size + 1 + 1 + 1 + 1 = R4 at *
          generalize w5.heap.size + 1 + 1 + 1 = R3 at *
          generalize w5.heap.size + 1 + 1 = R2 at *
          obtain ⟨w6, hw6⟩ : ∃ w6, w6 = wr := ⟨_, rfl⟩
          rw [← hw6] at hb06 HF2 HF3 HF4 ⊢
          clear hw6
          go_wp2_with fail
          refine (HMA.out _ hb06).mono ?_
          rintro e w7 ⟨v, Z, rfl, hp, hs, _, hb7⟩
          have hb07 := hb06.trans (hb7.mono hb06.size)
          replace HF2 := Lib.hid ((hb7.block _ (lt_of_some HF2.out)).trans HF2.out)
          replace HF3 := Lib.hid ((hb7.block _ (lt_of_some HF3.out)).trans HF3.out)
          replace HF4 := Lib.hid ((hb7.block _ (lt_of_some HF4.out)).trans HF4.out)
          obtain ⟨A, hZ⟩ : ∃ Y, Y = Z := ⟨_, rfl⟩
          rw [← hZ] at hp hs
          clear hZ
          have HSA := Lib.hid hs
          have HHA' := Lib.hid (HHA.out _ hs)
          clear hs
          obtain ⟨pA0, cA0, rfl, hzz⟩ := id hp
          clear hzz
          obtain ⟨nA0, hn⟩ : ∃ n, (A.map halfP).length = n := ⟨_, rfl⟩
          rw [hn] at hp ⊢
          clear hn
          have HPA0 := Lib.hid hp
          clear hp
          go_wp2_with fail
          refine (HMB.out _ hb07).mono ?_
          rintro e w8 ⟨v, Z, rfl, hp, hs, _, hb8⟩
          have hb08 := hb07.trans (hb8.mono hb07.size)
          replace HPA0 := Lib.hid (HPA0.out.below hb8)
          replace HF2 := Lib.hid ((hb8.block _ (lt_of_some HF2.out)).trans HF2.out)
          replace HF3 := Lib.hid ((hb8.block _ (lt_of_some HF3.out)).trans HF3.out)
          replace HF4 := Lib.hid ((hb8.block _ (lt_of_some HF4.out)).trans HF4.out)
          obtain ⟨B, hZ⟩ : ∃ Y, Y = Z := ⟨_, rfl⟩
          rw [← hZ] at hp hs
          clear hZ
          have HSB := Lib.hid hs
          have HHB' := Lib.hid (HHB.out _ hs)
          clear hs
          obtain ⟨pB0, cB0, rfl, hzz⟩ := id hp
          clear hzz
          obtain ⟨nB0, hn⟩ : ∃ n, (B.map halfP).length = n := ⟨_, rfl⟩
          rw [hn] at hp ⊢
          clear hn
          have HPB0 := Lib.hid hp
          clear hp
          go_wp2_with fail
          refine (union_half _ _ A B w8 (hw.below hb08) HPA0.out HPB0.out HHA'.out HHB'.out).mono ?_
          rintro e w9 ⟨v, CU, rfl, hp, hh, hc, hb9⟩
          have hb09 := hb08.trans (hb9.mono hb08.size)
          replace HPA0 := Lib.hid (HPA0.out.below hb9)
          replace HPB0 := Lib.hid (HPB0.out.below hb9)
          replace HF2 := Lib.hid ((hb9.block _ (lt_of_some HF2.out)).trans HF2.out)
          replace HF3 := Lib.hid ((hb9.block _ (lt_of_some HF3.out)).trans HF3.out)
          replace HF4 := Lib.hid ((hb9.block _ (lt_of_some HF4.out)).trans HF4.out)
          have HIU := Lib.hid (show IsSet f CU by rw [HFF.out]; exact comb_set (keep := fun x y => x || y) rfl HSA.out HSB.out hh.norm hc)
          clear hh hc
          obtain ⟨pU, cU, rfl, hzz⟩ := id hp
          clear hzz
          obtain ⟨nU, hn⟩ : ∃ n, (CU.map halfP).length = n := ⟨_, rfl⟩
          rw [hn] at hp ⊢
          clear hn
          have HPU := Lib.hid hp
          clear hp
          clear HPA0
          clear HPB0
          go_wp2_with fail
          refine (HMA.out _ hb09).mono ?_
          rintro e w10 ⟨v, Z, rfl, hp, hs, _, hb10⟩
          have hb010 := hb09.trans (hb10.mono hb09.size)
          replace HPU := Lib.hid (HPU.out.below hb10)
          replace HF2 := Lib.hid ((hb10.block _ (lt_of_some HF2.out)).trans HF2.out)
          replace HF3 := Lib.hid ((hb10.block _ (lt_of_some HF3.out)).trans HF3.out)
          replace HF4 := Lib.hid ((hb10.block _ (lt_of_some HF4.out)).trans HF4.out)
          obtain rfl := (hs.unique HSA.out).symm
          clear hs
          obtain ⟨pA1, cA1, rfl, hzz⟩ := id hp
          clear hzz
          obtain ⟨nA1, hn⟩ : ∃ n, (A.map halfP).length = n := ⟨_, rfl⟩
          rw [hn] at hp ⊢
          clear hn
          have HPA1 := Lib.hid hp
          clear hp
          go_wp2_with fail
          refine (HMB.out _ hb010).mono ?_
          rintro e w11 ⟨v, Z, rfl, hp, hs, _, hb11⟩
          have hb011 := hb010.trans (hb11.mono hb010.size)
          replace HPU := Lib.hid (HPU.out.below hb11)
          replace HPA1 := Lib.hid (HPA1.out.below hb11)
          replace HF2 := Lib.hid ((hb11.block _ (lt_of_some HF2.out)).trans HF2.out)
          replace HF3 := Lib.hid ((hb11.block _ (lt_of_some HF3.out)).trans HF3.out)
          replace HF4 := Lib.hid ((hb11.block _ (lt_of_some HF4.out)).trans HF4.out)
          obtain rfl := (hs.unique HSB.out).symm
          clear hs
          obtain ⟨pB1, cB1, rfl, hzz⟩ := id hp
          clear hzz
          obtain ⟨nB1, hn⟩ : ∃ n, (B.map halfP).length = n := ⟨_, rfl⟩
          rw [hn] at hp ⊢
          clear hn
          have HPB1 := Lib.hid hp
          clear hp
          go_wp2_with fail
          refine (inter_half _ _ A B w11 (hw.below hb011) HPA1.out HPB1.out HHA'.out HHB'.out).mono ?_
          rintro e w12 ⟨v, CV, rfl, hp, hh, hc, hb12⟩
          have hb012 := hb011.trans (hb12.mono hb011.size)
          replace HPU := Lib.hid (HPU.out.below hb12)
          replace HPA1 := Lib.hid (HPA1.out.below hb12)
          replace HPB1 := Lib.hid (HPB1.out.below hb12)
          replace HF2 := Lib.hid ((hb12.block _ (lt_of_some HF2.out)).trans HF2.out)
          replace HF3 := Lib.hid ((hb12.block _ (lt_of_some HF3.out)).trans HF3.out)
          replace HF4 := Lib.hid ((hb12.block _ (lt_of_some HF4.out)).trans HF4.out)
          have HIV := Lib.hid (show IsSet g CV by rw [HGG.out]; exact comb_set (keep := fun x y => x && y) rfl HSA.out HSB.out hh.norm hc)
          clear hh hc
          obtain ⟨pV, cV, rfl, hzz⟩ := id hp
          clear hzz
          obtain ⟨nV, hn⟩ : ∃ n, (CV.map halfP).length = n := ⟨_, rfl⟩
          rw [hn] at hp ⊢
          clear hn
          have HPV := Lib.hid hp
          clear hp
          clear HPA1
          clear HPB1
          go_wp2_with fail
          refine (HMA.out _ hb012).mono ?_
          rintro e w13 ⟨v, Z, rfl, hp, hs, _, hb13⟩
          have hb013 := hb012.trans (hb13.mono hb012.size)
          replace HPU := Lib.hid (HPU.out.below hb13)
          replace HPV := Lib.hid (HPV.out.below hb13)
          replace HF2 := Lib.hid ((hb13.block _ (lt_of_some HF2.out)).trans HF2.out)
          replace HF3 := Lib.hid ((hb13.block _ (lt_of_some HF3.out)).trans HF3.out)
          replace HF4 := Lib.hid ((hb13.block _ (lt_of_some HF4.out)).trans HF4.out)
          obtain rfl := (hs.unique HSA.out).symm
          clear hs
          obtain ⟨pA2, cA2, rfl, hzz⟩ := id hp
          clear hzz
          obtain ⟨nA2, hn⟩ : ∃ n, (A.map halfP).length = n := ⟨_, rfl⟩
          rw [hn] at hp ⊢
          clear hn
          have HPA2 := Lib.hid hp
          clear hp
          go_wp2_with fail
          refine (HMB.out _ hb013).mono ?_
          rintro e w14 ⟨v, Z, rfl, hp, hs, _, hb14⟩
          have hb014 := hb013.trans (hb14.mono hb013.size)
          replace HPU := Lib.hid (HPU.out.below hb14)
          replace HPV := Lib.hid (HPV.out.below hb14)
          replace HPA2 := Lib.hid (HPA2.out.below hb14)
          replace HF2 := Lib.hid ((hb14.block _ (lt_of_some HF2.out)).trans HF2.out)
          replace HF3 := Lib.hid ((hb14.block _ (lt_of_some HF3.out)).trans HF3.out)
          replace HF4 := Lib.hid ((hb14.block _ (lt_of_some HF4.out)).trans HF4.out)
          obtain rfl := (hs.unique HSB.out).symm
          clear hs
          obtain ⟨pB2, cB2, rfl, hzz⟩ := id hp
          clear hzz
          obtain ⟨nB2, hn⟩ : ∃ n, (B.map halfP).length = n := ⟨_, rfl⟩
          rw [hn] at hp ⊢
          clear hn
          have HPB2 := Lib.hid hp
          clear hp
          go_wp2_with fail
          refine (subt_half _ _ A B w14 (hw.below hb014) HPA2.out HPB2.out HHA'.out HHB'.out).mono ?_
          rintro e w15 ⟨v, CW, rfl, hp, hh, hc, hb15⟩
          have hb015 := hb014.trans (hb15.mono hb014.size)
          replace HPU := Lib.hid (HPU.out.below hb15)
          replace HPV := Lib.hid (HPV.out.below hb15)
          replace HPA2 := Lib.hid (HPA2.out.below hb15)
          replace HPB2 := Lib.hid (HPB2.out.below hb15)
          replace HF2 := Lib.hid ((hb15.block _ (lt_of_some HF2.out)).trans HF2.out)
          replace HF3 := Lib.hid ((hb15.block _ (lt_of_some HF3.out)).trans HF3.out)
          replace HF4 := Lib.hid ((hb15.block _ (lt_of_some HF4.out)).trans HF4.out)
          have HIW := Lib.hid (show IsSet h CW by rw [HHH.out]; exact comb_set (keep := fun x y => x && !y) rfl HSA.out HSB.out hh.norm hc)
          clear hh hc
          obtain ⟨pW, cW, rfl, hzz⟩ := id hp
          clear hzz
          obtain ⟨nW, hn⟩ : ∃ n, (CW.map halfP).length = n := ⟨_, rfl⟩
          rw [hn] at hp ⊢
          clear hn
          have HPW := Lib.hid hp
          clear hp
          clear HPA2
          clear HPB2
          go_wp2_with fail
          refine (HMA.out _ hb015).mono ?_
          rintro e w16 ⟨v, Z, rfl, hp, hs, _, hb16⟩
          have hb016 := hb015.trans (hb16.mono hb015.size)
          replace HPU := Lib.hid (HPU.out.below hb16)
          replace HPV := Lib.hid (HPV.out.below hb16)
          replace HPW := Lib.hid (HPW.out.below hb16)
          replace HF2 := Lib.hid ((hb16.block _ (lt_of_some HF2.out)).trans HF2.out)
          replace HF3 := Lib.hid ((hb16.block _ (lt_of_some HF3.out)).trans HF3.out)
          replace HF4 := Lib.hid ((hb16.block _ (lt_of_some HF4.out)).trans HF4.out)
          obtain rfl := (hs.unique HSA.out).symm
          clear hs
          obtain ⟨pA3, cA3, rfl, hzz⟩ := id hp
          clear hzz
          obtain ⟨nA3, hn⟩ : ∃ n, (A.map halfP).length = n := ⟨_, rfl⟩
          rw [hn] at hp ⊢
          clear hn
          have HPA3 := Lib.hid hp
          clear hp
          go_wp2_with fail
          refine (HMB.out _ hb016).mono ?_
          rintro e w17 ⟨v, Z, rfl, hp, hs, _, hb17⟩
          have hb017 := hb016.trans (hb17.mono hb016.size)
          replace HPU := Lib.hid (HPU.out.below hb17)
          replace HPV := Lib.hid (HPV.out.below hb17)
          replace HPW := Lib.hid (HPW.out.below hb17)
          replace HPA3 := Lib.hid (HPA3.out.below hb17)
          replace HF2 := Lib.hid ((hb17.block _ (lt_of_some HF2.out)).trans HF2.out)
          replace HF3 := Lib.hid ((hb17.block _ (lt_of_some HF3.out)).trans HF3.out)
          replace HF4 := Lib.hid ((hb17.block _ (lt_of_some HF4.out)).trans HF4.out)
          obtain rfl := (hs.unique HSB.out).symm
          clear hs
          obtain ⟨pB3, cB3, rfl, hzz⟩ := id hp
          clear hzz
          obtain ⟨nB3, hn⟩ : ∃ n, (B.map halfP).length = n := ⟨_, rfl⟩
          rw [hn] at hp ⊢
          clear hn
          have HPB3 := Lib.hid hp
          clear hp
          go_wp2_with fail
          refine (within_half _ _ A B w17 (hw.below hb017) HPA3.out HPB3.out HHA'.out HHB'.out).mono ?_
          rintro e w18 ⟨Cx, rfl, hh, hc, hb18⟩
          have hb018 := hb017.trans (hb18.mono hb017.size)
          replace HPU := Lib.hid (HPU.out.below hb18)
          replace HPV := Lib.hid (HPV.out.below hb18)
          replace HPW := Lib.hid (HPW.out.below hb18)
          replace HPA3 := Lib.hid (HPA3.out.below hb18)
          replace HPB3 := Lib.hid (HPB3.out.below hb18)
          replace HF2 := Lib.hid ((hb18.block _ (lt_of_some HF2.out)).trans HF2.out)
          replace HF3 := Lib.hid ((hb18.block _ (lt_of_some HF3.out)).trans HF3.out)
          replace HF4 := Lib.hid ((hb18.block _ (lt_of_some HF4.out)).trans HF4.out)
          have HBW := Lib.hid (show decide (Cx.length = 0) = noneB h 600 from isSet_none (by rw [HHH.out]; exact comb_set (keep := fun x y => x && !y) rfl HSA.out HSB.out hh.norm hc))
          rw [HBW.out]
          clear hh hc
          clear HPA3
          clear HPB3
          go_wp2_with fail
          refine (HMA.out _ hb018).mono ?_
          rintro e w19 ⟨v, Z, rfl, hp, hs, _, hb19⟩
          have hb019 := hb018.trans (hb19.mono hb018.size)
          replace HPU := Lib.hid (HPU.out.below hb19)
          replace HPV := Lib.hid (HPV.out.below hb19)
          replace HPW := Lib.hid (HPW.out.below hb19)
          replace HF2 := Lib.hid ((hb19.block _ (lt_of_some HF2.out)).trans HF2.out)
          replace HF3 := Lib.hid ((hb19.block _ (lt_of_some HF3.out)).trans HF3.out)
          replace HF4 := Lib.hid ((hb19.block _ (lt_of_some HF4.out)).trans HF4.out)
          obtain rfl := (hs.unique HSA.out).symm
          clear hs
          obtain ⟨pA9, cA9, rfl, hzz⟩ := id hp
          clear hzz
          obtain ⟨nA9, hn⟩ : ∃ n, (A.map halfP).length = n := ⟨_, rfl⟩
          rw [hn] at hp ⊢
          clear hn
          have HPA9 := Lib.hid hp
          clear hp
          go_wp2_with fail
          refine (length_half _ A w19 (hw.below hb019) HPA9.out HHA'.out).mono ?_
          rintro e w20 ⟨rfl, hb20⟩
          have hb020 := hb019.trans (hb20.mono hb019.size)
          replace HPU := Lib.hid (HPU.out.below hb20)
          replace HPV := Lib.hid (HPV.out.below hb20)
          replace HPW := Lib.hid (HPW.out.below hb20)
          replace HPA9 := Lib.hid (HPA9.out.below hb20)
          replace HF2 := Lib.hid ((hb20.block _ (lt_of_some HF2.out)).trans HF2.out)
          replace HF3 := Lib.hid ((hb20.block _ (lt_of_some HF3.out)).trans HF3.out)
          replace HF4 := Lib.hid ((hb20.block _ (lt_of_some HF4.out)).trans HF4.out)
          clear HPA9
          have HLN := Lib.hid (lenZ_count A x HSA.out)
          rw [HLN.out]
          have hcl := cntB_le x 600
          generalize noneB h 600 = nb6 at *
          generalize cntB x 600 = cn at *
          obtain ⟨tl, htl⟩ : ∃ tl, tl = tx (hf (cn : Int)) := ⟨_, rfl⟩
          rw [← htl]
          have HTL := Lib.hid htl
          clear htl HBW
          go_wp2_with fail
          refine wp_load_row 79 _ rfl R2 rfl 79 _ _ _ HF2.out Tryz.underlying79 rfl (sizeSet _) ?_
          rename_i hKK
          refine hKK _ _ ?_
          go_wp2_with fail
          refine (ref_Ends f w20).mono ?_
          rintro e w21 ⟨v, Z, rfl, hz, hs, hzl, hb21⟩
          have hb021 := hb020.trans (hb21.mono hb020.size)
          replace HPU := Lib.hid (HPU.out.below hb21)
          replace HPV := Lib.hid (HPV.out.below hb21)
          replace HPW := Lib.hid (HPW.out.below hb21)
          replace HF2 := Lib.hid ((hb21.block _ (lt_of_some HF2.out)).trans HF2.out)
          replace HF3 := Lib.hid ((hb21.block _ (lt_of_some HF3.out)).trans HF3.out)
          replace HF4 := Lib.hid ((hb21.block _ (lt_of_some HF4.out)).trans HF4.out)
          obtain rfl := (hs.unique HIU.out).symm
          have hzb := hs.bound
          obtain ⟨pz0, cz0, rfl, hzz⟩ := id hz
          clear hzz
          obtain ⟨nz0, hn⟩ : ∃ n, CU.length = n := ⟨_, rfl⟩
          have HPT := Lib.hid (fun w' u (h : Zees w' u CU) => law_parts u CU w' h (fun p hp => by have := hzb p hp; omega) (by omega))
          unfold PartsNew at HPT
          rw [hn] at hz ⊢
          clear hn hs hzl hzb
          go_wp2_with fail
          refine (HPT.out _ _ hz).mono ?_
          rintro e w22 ⟨v, rfl, _, hp, hb22⟩
          have hb022 := hb021.trans (hb22.mono hb021.size)
          replace HPU := Lib.hid (HPU.out.below hb22)
          replace HPV := Lib.hid (HPV.out.below hb22)
          replace HPW := Lib.hid (HPW.out.below hb22)
          replace HF2 := Lib.hid ((hb22.block _ (lt_of_some HF2.out)).trans HF2.out)
          replace HF3 := Lib.hid ((hb22.block _ (lt_of_some HF3.out)).trans HF3.out)
          replace HF4 := Lib.hid ((hb22.block _ (lt_of_some HF4.out)).trans HF4.out)
          clear hz HPT
          obtain ⟨pZ0, cZ0, rfl, hzz⟩ := id hp
          clear hzz
          obtain ⟨nZ0, hn⟩ : ∃ n, (CU.map halfP).length = n := ⟨_, rfl⟩
          rw [hn] at hp ⊢
          clear hn
          have HPZ0 := Lib.hid hp
          clear hp
          go_wp2_with fail
          refine (HSA0.out _ _ _ CU HPU.out HPZ0.out).mono ?_
          rintro e w23 ⟨rfl, hb23⟩
          have hb023 := hb022.trans (hb23.mono hb022.size)
          replace HPU := Lib.hid (HPU.out.below hb23)
          replace HPV := Lib.hid (HPV.out.below hb23)
          replace HPW := Lib.hid (HPW.out.below hb23)
          replace HPZ0 := Lib.hid (HPZ0.out.below hb23)
          replace HF2 := Lib.hid ((hb23.block _ (lt_of_some HF2.out)).trans HF2.out)
          replace HF3 := Lib.hid ((hb23.block _ (lt_of_some HF3.out)).trans HF3.out)
          replace HF4 := Lib.hid ((hb23.block _ (lt_of_some HF4.out)).trans HF4.out)
          clear HPZ0
          go_wp2_with fail
          refine wp_load_row 79 _ rfl R3 rfl 79 _ _ _ HF3.out Tryz.underlying79 rfl (sizeSet _) ?_
          rename_i hKK
          refine hKK _ _ ?_
          go_wp2_with fail
          refine (ref_Ends g w23).mono ?_
          rintro e w24 ⟨v, Z, rfl, hz, hs, hzl, hb24⟩
          have hb024 := hb023.trans (hb24.mono hb023.size)
          replace HPU := Lib.hid (HPU.out.below hb24)
          replace HPV := Lib.hid (HPV.out.below hb24)
          replace HPW := Lib.hid (HPW.out.below hb24)
          replace HF2 := Lib.hid ((hb24.block _ (lt_of_some HF2.out)).trans HF2.out)
          replace HF3 := Lib.hid ((hb24.block _ (lt_of_some HF3.out)).trans HF3.out)
          replace HF4 := Lib.hid ((hb24.block _ (lt_of_some HF4.out)).trans HF4.out)
          obtain rfl := (hs.unique HIV.out).symm
          have hzb := hs.bound
          obtain ⟨pz1, cz1, rfl, hzz⟩ := id hz
          clear hzz
          obtain ⟨nz1, hn⟩ : ∃ n, CV.length = n := ⟨_, rfl⟩
          have HPT := Lib.hid (fun w' u (h : Zees w' u CV) => law_parts u CV w' h (fun p hp => by have := hzb p hp; omega) (by omega))
          unfold PartsNew at HPT
          rw [hn] at hz ⊢
          clear hn hs hzl hzb
          go_wp2_with fail
          refine (HPT.out _ _ hz).mono ?_
          rintro e w25 ⟨v, rfl, _, hp, hb25⟩
          have hb025 := hb024.trans (hb25.mono hb024.size)
          replace HPU := Lib.hid (HPU.out.below hb25)
          replace HPV := Lib.hid (HPV.out.below hb25)
          replace HPW := Lib.hid (HPW.out.below hb25)
          replace HF2 := Lib.hid ((hb25.block _ (lt_of_some HF2.out)).trans HF2.out)
          replace HF3 := Lib.hid ((hb25.block _ (lt_of_some HF3.out)).trans HF3.out)
          replace HF4 := Lib.hid ((hb25.block _ (lt_of_some HF4.out)).trans HF4.out)
          clear hz HPT
          obtain ⟨pZ1, cZ1, rfl, hzz⟩ := id hp
          clear hzz
          obtain ⟨nZ1, hn⟩ : ∃ n, (CV.map halfP).length = n := ⟨_, rfl⟩
          rw [hn] at hp ⊢
          clear hn
          have HPZ1 := Lib.hid hp
          clear hp
          go_wp2_with fail
          refine (HSA0.out _ _ _ CV HPV.out HPZ1.out).mono ?_
          rintro e w26 ⟨rfl, hb26⟩
          have hb026 := hb025.trans (hb26.mono hb025.size)
          replace HPU := Lib.hid (HPU.out.below hb26)
          replace HPV := Lib.hid (HPV.out.below hb26)
          replace HPW := Lib.hid (HPW.out.below hb26)
          replace HPZ1 := Lib.hid (HPZ1.out.below hb26)
          replace HF2 := Lib.hid ((hb26.block _ (lt_of_some HF2.out)).trans HF2.out)
          replace HF3 := Lib.hid ((hb26.block _ (lt_of_some HF3.out)).trans HF3.out)
          replace HF4 := Lib.hid ((hb26.block _ (lt_of_some HF4.out)).trans HF4.out)
          clear HPZ1
          go_wp2_with fail
          refine wp_load_row 79 _ rfl R4 rfl 79 _ _ _ HF4.out Tryz.underlying79 rfl (sizeSet _) ?_
          rename_i hKK
          refine hKK _ _ ?_
          go_wp2_with fail
          refine (ref_Ends h w26).mono ?_
          rintro e w27 ⟨v, Z, rfl, hz, hs, hzl, hb27⟩
          have hb027 := hb026.trans (hb27.mono hb026.size)
          replace HPU := Lib.hid (HPU.out.below hb27)
          replace HPV := Lib.hid (HPV.out.below hb27)
          replace HPW := Lib.hid (HPW.out.below hb27)
          replace HF2 := Lib.hid ((hb27.block _ (lt_of_some HF2.out)).trans HF2.out)
          replace HF3 := Lib.hid ((hb27.block _ (lt_of_some HF3.out)).trans HF3.out)
          replace HF4 := Lib.hid ((hb27.block _ (lt_of_some HF4.out)).trans HF4.out)
          obtain rfl := (hs.unique HIW.out).symm
          have hzb := hs.bound
          obtain ⟨pz2, cz2, rfl, hzz⟩ := id hz
          clear hzz
          obtain ⟨nz2, hn⟩ : ∃ n, CW.length = n := ⟨_, rfl⟩
          have HPT := Lib.hid (fun w' u (h : Zees w' u CW) => law_parts u CW w' h (fun p hp => by have := hzb p hp; omega) (by omega))
          unfold PartsNew at HPT
          rw [hn] at hz ⊢
          clear hn hs hzl hzb
          go_wp2_with fail
          refine (HPT.out _ _ hz).mono ?_
          rintro e w28 ⟨v, rfl, _, hp, hb28⟩
          have hb028 := hb027.trans (hb28.mono hb027.size)
          replace HPU := Lib.hid (HPU.out.below hb28)
          replace HPV := Lib.hid (HPV.out.below hb28)
          replace HPW := Lib.hid (HPW.out.below hb28)
          replace HF2 := Lib.hid ((hb28.block _ (lt_of_some HF2.out)).trans HF2.out)
          replace HF3 := Lib.hid ((hb28.block _ (lt_of_some HF3.out)).trans HF3.out)
          replace HF4 := Lib.hid ((hb28.block _ (lt_of_some HF4.out)).trans HF4.out)
          clear hz HPT
          obtain ⟨pZ2, cZ2, rfl, hzz⟩ := id hp
          clear hzz
          obtain ⟨nZ2, hn⟩ : ∃ n, (CW.map halfP).length = n := ⟨_, rfl⟩
          rw [hn] at hp ⊢
          clear hn
          have HPZ2 := Lib.hid hp
          clear hp
          go_wp2_with fail
          refine (HSA0.out _ _ _ CW HPW.out HPZ2.out).mono ?_
          rintro e w29 ⟨rfl, hb29⟩
          have hb029 := hb028.trans (hb29.mono hb028.size)
          replace HPU := Lib.hid (HPU.out.below hb29)
          replace HPV := Lib.hid (HPV.out.below hb29)
          replace HPW := Lib.hid (HPW.out.below hb29)
          replace HPZ2 := Lib.hid (HPZ2.out.below hb29)
          replace HF2 := Lib.hid ((hb29.block _ (lt_of_some HF2.out)).trans HF2.out)
          replace HF3 := Lib.hid ((hb29.block _ (lt_of_some HF3.out)).trans HF3.out)
          replace HF4 := Lib.hid ((hb29.block _ (lt_of_some HF4.out)).trans HF4.out)
          clear HPZ2
          go_wp2_with fail
          refine (law_half (cn : Int) w29 (by omega) (by omega)).mono ?_
          rintro e w30 ⟨rfl, hb30⟩
          have hb030 := hb029.trans (hb30.mono hb029.size)
          replace HPU := Lib.hid (HPU.out.below hb30)
          replace HPV := Lib.hid (HPV.out.below hb30)
          replace HPW := Lib.hid (HPW.out.below hb30)
          replace HF2 := Lib.hid ((hb30.block _ (lt_of_some HF2.out)).trans HF2.out)
          replace HF3 := Lib.hid ((hb30.block _ (lt_of_some HF3.out)).trans HF3.out)
          replace HF4 := Lib.hid ((hb30.block _ (lt_of_some HF4.out)).trans HF4.out)
          rw [← HTL.out]
          go_wp2
          go_ret
          exact ⟨rfl, hb030⟩
end Go.Proofs.YtbogpbjddaoeiaaGreatDoor
