import Derived.Test.YtbogpbjddaoeiaaGreatDoorJoinZ
import Derived.Shelf.SlSortCmp.NoneTotal
import Derived.Test.YtbogpbjddaoeiaaGreatDoorIntgZ
namespace Go.Proofs.YtbogpbjddaoeiaaGreatDoor
open Go.RowKit Go.Shelf Go.Sort Go.Lib
theorem joined_nil (w : World) : Calls Tryz.prog 68 #[.slice none 0 0] w fun e w' => e = .returned (.slice none 0 0) ∧ Below w.heap.size w w' := by
  have hcl := AnyE.slices_Clone_nil (ρ := clonePart_ren) clonePart 0 0 w
  change Calls Tryz.prog 122 _ _ _ at hcl
  have HCL := Lib.hid hcl
  clear hcl
  go_enter Tryz.func68, Tryz.ntmps68
  go_wp2_with fail
  refine HCL.out.mono ?_
  rintro e w1 ⟨rfl, rfl⟩
  go_wp2_with fail
  have hs := AnyF.slices_SortFunc_none (ρ := sortPart_ren) sortPart none 0 (.func (.func 124) #[] #[]) w1
  change Calls Tryz.prog 123 _ _ _ at hs
  refine hs.mono ?_
  clear hs
  rintro e w2 ⟨rfl, rfl⟩
  go_wp2_with fail
  go_loopw [3, 5, 6, 13] (fun ov _ _ iv wr => ov = .slice none 0 0 ∧ iv = .int .i64 0 ∧ wr = w2) (fun _ _ _ _ _ => 0)
  case atStart => exact ⟨rfl, rfl, rfl⟩
  case round =>
    obtain ⟨rfl, rfl, rfl⟩ := hrel
    go_wp2
    go_ret
    exact ⟨rfl, Below.refl _ _⟩
end Go.Proofs.YtbogpbjddaoeiaaGreatDoor
namespace Go.Proofs.YtbogpbjddaoeiaaGreatDoor
open Go.RowKit Go.Shelf Go.Sort Go.Lib
theorem above_pred (x : RP) (w : World) (hw : Good w) : Calls Tryz.prog 86 #[.agg #[.string x.1.1, .string x.1.2]] w fun e w' => e = .returned (.bool false) ∧ Below w.heap.size w w' := by
  have hba := alloc_below w (Obj.cells #[.string x.1.1, .string x.1.2] 33)
  have hpa := PartAt.alloc x.1.1 x.1.2 w 33
  obtain ⟨_, _, s1, s2⟩ := x.isR
  have HL := Lib.hid x.2.1
  have HH := Lib.hid x.2.2
  go_enter Tryz.func86, Tryz.ntmps86
  go_wp2_with fail
  generalize w.alloc (Obj.cells #[.string x.1.1, .string x.1.2] 33) = wA at hba hpa ⊢
  refine (ranges_wrong x.1.1 (by omega) _ (hw.below hba)).mono ?_
  rintro e w1 ⟨rfl, hb1⟩
  rw [HL.out]
  obtain ⟨p0, p1, p2⟩ := hpa.below hb1
  have hb01 := hba.trans (hb1.mono hba.size)
  go_wp2_with fail
  refine (ranges_wrong x.1.2 (by omega) _ (hw.below hb01)).mono ?_
  rintro e w2 ⟨rfl, hb2⟩
  rw [HH.out]
  go_wp2
  go_ret
  exact ⟨rfl, hb01.trans (hb2.mono hb01.size)⟩
set_option maxRecDepth 100000 in
theorem above_has (b off n c : Nat) (zs : List RP) (w : World) (hw : Good w) (hz : n = zs.length) (hbig : n ≤ 1000000) (hb : b < w.heap.size)
    (hc : ∀ j u, (cellsP zs)[j]? = some u → w.cell? ⟨b, off + j, none⟩ = some u) :
    Calls Tryz.prog 85 #[.slice (some ⟨b, off, none⟩) n c, .func (.func 86) #[] #[]] w fun e w' => e = .returned (.bool false) ∧ Below w.heap.size w w' := by
  have eg : ∀ args w, (callFunc 86 args).run Tryz.prog w = .ok (.enter 86 args) w := enters_of Tryz.func86 (by kernel_rfl) rfl
  have h := AnyQ.slices_ContainsFunc (ρ := hasPart_ren) hasPart 2 Tryz.isAgg33 Tryz.sizeOf33 encP (fun _ => rfl) (fun _ => false) 86 #[] eg b off n c zs w
    (fun W x hW => (above_pred x W (hw.below hW)).mono fun e w' h => ⟨h.1, hW.trans (h.2.mono hW.size)⟩) (by omega) (by omega) hb (fun j hj i v hv => by
      refine (show w.cell? ⟨b, off + j * 2 + i, none⟩ = w.cell? ⟨b, off + (j * 2 + i), none⟩ by rw [Nat.add_assoc]) ▸ hc (j * 2 + i) v ?_
      have hi : i < 2 := by
        rcases Nat.lt_or_ge i 2 with h | h
        · exact h
        · rw [List.getElem?_eq_none (by simpa [encP] using h)] at hv; cases hv
      rw [cellsP_get zs _ (by omega), show (j * 2 + i) / 2 = j by omega, show (j * 2 + i) % 2 = i by omega]
      rw [getElem!_pos _ i (by simpa [encP] using hi)]
      rw [List.getElem?_eq_getElem (by simpa [encP] using hi)] at hv
      exact hv)
  refine Calls.mono h ?_
  rintro e w' ⟨rfl, hb'⟩
  exact ⟨by simp, hb'⟩
end Go.Proofs.YtbogpbjddaoeiaaGreatDoor
namespace Go.Proofs.YtbogpbjddaoeiaaGreatDoor
open Go.RowKit Go.Shelf
open Go.Lib (decDigits itoa nDigits)
attribute [local go_sem] Oper.semAt_some
def StSt2 (Ok : Pair → Prop) (L : List Pair) (lo hi : ByteArray) (J : List {p : Pair // Ok p} → World → Prop) (n₀ Bw Bf : Nat) (W : World) (k : Nat) (f : ByteArray) (pre : List {p : Pair // Ok p}) (wr : World) : Prop :=
  k ≤ L.length ∧ ratB f.data.toList = true ∧ pre.length ≤ k ∧ pre.map (·.1) ++ stepsP hi f (L.drop k) = stepsP hi lo L ∧ J pre wr ∧ KeepC n₀ Bw Bf W wr
set_option maxRecDepth 100000 in
set_option maxHeartbeats 4000000 in
theorem steps2_in (Ok : Pair → Prop) (n : Nat) (_hn : 1 ≤ n) (l Bw Bf n₀ : Nat) (sv : Value) (lo hi : ByteArray) (L : List Pair) (hlo : ratB lo.data.toList = true) (hhi : ratB hi.data.toList = true) (hok : AllOk L) (hall : ∀ p ∈ stepsP hi lo L, Ok p) (hlen : L.length ≤ 1000000) (J Jx : List {p : Pair // Ok p} → World → Prop) (w0 : World) (hg0 : Good w0)
    (W : World) (hbW : Below w0.heap.size w0 W) (hJ : AbidesFrom W.heap.size J)
    (hY : ∀ pre (x : {p : Pair // Ok p}) W, J pre W → pre.length < L.length + 1 → YieldAt Fence.wide (n - 1) Tryz.prog l #[.agg #[.string x.1.1, .string x.1.2]] W fun e W' =>
      (e = .returned (.bool true) ∧ J (pre ++ [x]) W' ∧ KeepC n₀ Bw Bf W W') ∨ (e = .returned (.bool false) ∧ Jx (pre ++ [x]) W'))
    (hn0 : n₀ ≤ w0.heap.size) (hn1 : 6 ≤ n₀) (hbw1 : Bw < w0.heap.size) (hbf1 : Bf < w0.heap.size) (hB1 : W.cell? ⟨Bw, 0, none⟩ = some (.string lo)) (hB2 : W.cell? ⟨Bw, 1, none⟩ = some (.string hi)) (hBf : W.cell? ⟨Bf, 0, none⟩ = some sv) (hfr : ∀ a k c, sv = .slice (some a) k c → a.block < n₀) (hI : Pairs W sv L) (h0 : J [] W) :
    CallsIn Fence.wide n Tryz.prog 130 #[.func (.yield l) #[] #[], .pointer (some ⟨Bw, 0, none⟩), .pointer (some ⟨Bf, 0, none⟩)] W fun e W' => (∃ v, e = .returned v) ∧
      ((∃ ys : List {p : Pair // Ok p}, ys.map (·.1) = stepsP hi lo L ∧ J ys W') ∨ (∃ pre : List {p : Pair // Ok p}, True ∧ Jx pre W')) := by
  obtain ⟨p, c, rfl, hc, hm, hxx⟩ := hI
  have hst0 : StSt2 Ok L lo hi J n₀ Bw Bf W 0 lo [] W := ⟨Nat.zero_le _, hlo, Nat.le_refl _, by simp, h0, KeepC.refl _ _ _ _⟩
  have HHI := Lib.hid hhi
  have HJ := Lib.hid hJ
  clear h0 hJ hlo hhi
  refine callsIn_of_wp Tryz.func130 rfl trivial ?_ rfl
  simp only [Tryz.ntmps130, List.size_toArray, List.length_cons, List.length_nil, Nat.reduceAdd, Nat.reduceSub, Array.replicate_succ, Array.replicate_zero, List.push_toArray, List.append_toArray, List.nil_append, List.cons_append]
  gi_wp2
  gi_loopw [4, 6, 11] (fun fv kv iv wr => ∃ (k : Nat) (f : ByteArray) (pre : List {p : Pair // Ok p}), fv = .string f ∧ iv = .int .i64 (k : Int) ∧ StSt2 Ok L lo hi J n₀ Bw Bf W k f pre wr)
    (fun _ _ iv _ => L.length - (intOf iv).toNat)
  case atStart => exact ⟨0, lo, [], rfl, rfl, hst0⟩
  case round =>
    obtain ⟨k, f, pre, rfl, rfl, hst⟩ := hrel
    obtain ⟨hk, hrf, hpl, hmap, hJs, hnx⟩ := hst
    have hszw := hbW.size
    have hszr := hnx.1.size
    have hcw1 := (hnx.cell (a := ⟨Bw, 0, none⟩) (.inr (.inl rfl))).trans hB1
    have hcw2 := (hnx.cell (a := ⟨Bw, 1, none⟩) (.inr (.inl rfl))).trans hB2
    have HMAP := Lib.hid hmap
    have HRF := Lib.hid hrf
    have HNX := Lib.hid hnx
    have hfs := ratB_size hrf
    have hhs := ratB_size HHI.out
    have hgr : Good wr := hg0.mono ((hbW.mono hn0).trans hnx.1) hn1
    clear hmap hrf
    by_cases hkl : k < L.length
    · obtain ⟨b, off, rfl, hbl, hcell⟩ := hxx (by omega)
      have hbn : b < n₀ := hfr _ _ _ rfl
      obtain ⟨c0, c1⟩ := hcell k hkl
      replace c0 := (hnx.cell (a := ⟨b, off + k * 2, none⟩) (.inl hbn)).trans c0
      replace c1 := (hnx.cell (a := ⟨b, off + k * 2 + 1, none⟩) (.inl hbn)).trans c1
      obtain ⟨x1, x2, s1, s2⟩ := hok.at hkl
      have X1 := Lib.hid x1
      have HOK := Lib.hid (hok _ (List.getElem_mem hkl)).1
      have hkn : decide ((k : Int) < (L.length : Int)) = true := decide_eq_true (by omega)
      obtain ⟨wA, hwA⟩ : ∃ wA, wA = wr.alloc (Obj.cells #[.string L[k].1, .string L[k].2] 97) := ⟨_, rfl⟩
      have hkb : wA.heap[wr.heap.size]? = some (.cells #[.string L[k].1, .string L[k].2] 97 (0, 0)) := by rw [hwA]; exact World.alloc_heap_new _ _
      have hrA : Below wr.heap.size wr wA := by rw [hwA]; exact alloc_below _ _
      have hgA : Good wA := hgr.below hrA
      have hcw2A : wA.cell? ⟨Bw, 1, none⟩ = some (.string hi) := (hrA.cell (by simp; omega)).trans hcw2
      have hwAs : wA.heap.size = wr.heap.size + 1 := by rw [hwA]; simp
      clear hcell x1 x2 hnx
      obtain ⟨lt, hlt⟩ : ∃ lt : Bool, lt = decide (ratV f < ratV L[k].1) := ⟨_, rfl⟩
      have HLT := Lib.hid hlt
      clear hlt
      cases lt
      · have HEQ := Lib.hid (stepsP_skip (hi := hi) hkl HLT.out)
        gi_wp2
        refine ⟨trivial, ?_⟩
        rw [← hwA]
        refine (callsIn_wide.2 (ranges_less f L[k].1 _ _ (ratV_isR HRF.out) X1.out (by omega) (by omega) _ hgA)).mono ?_
        rintro e w1 ⟨rfl, hb1⟩
        have hg1 := hgA.below hb1
        have hcw21 : w1.cell? ⟨Bw, 1, none⟩ = some (.string hi) := (hb1.cell (by simp; omega)).trans hcw2A
        have hkb1 := (hb1.block _ (lt_of_some hkb)).trans hkb
        have hkc1 : w1.cell? ⟨wr.heap.size, 0, none⟩ = some (.string L[k].1) := by simp [World.cell?, hkb1]
        have hrw1 : Below wr.heap.size wr w1 := hrA.trans (hb1.mono hrA.size)
        rw [← HLT.out]
        have hJ2 : J pre w1 := abides_below (W := wr) (B := wr.heap.size) (fun s A B row hs hg hr => HJ.out s A B row hs hg (fun r e => ⟨Nat.le_trans hszr (hr r e).1, (hr r e).2⟩)) hJs hrw1
        have hK2 : KeepC n₀ Bw Bf W w1 := HNX.out.trans (KeepC.of_below hrw1 (by omega) (by omega) (by omega))
        gi_wp2
        go_roundw
        case rel => exact ⟨k + 1, f, pre, rfl, int_succ k, hkl, HRF.out, by omega, by rw [← HEQ.out]; exact HMAP.out, hJ2, hK2⟩
        case measure => show L.length - ((k : Int) + 1).toNat < L.length - ((k : Int)).toNat; omega
      · obtain ⟨lt2, hlt2⟩ : ∃ lt : Bool, lt = decide (ratV L[k].1 < ratV hi) := ⟨_, rfl⟩
        have HLT2 := Lib.hid hlt2
        clear hlt2
        cases lt2
        · have HEQ := Lib.hid (stepsP_stop (hi := hi) hkl HLT.out HLT2.out)
          gi_wp2
          refine ⟨trivial, ?_⟩
          rw [← hwA]
          refine (callsIn_wide.2 (ranges_less f L[k].1 _ _ (ratV_isR HRF.out) X1.out (by omega) (by omega) _ hgA)).mono ?_
          rintro e w1 ⟨rfl, hb1⟩
          have hg1 := hgA.below hb1
          have hcw21 : w1.cell? ⟨Bw, 1, none⟩ = some (.string hi) := (hb1.cell (by simp; omega)).trans hcw2A
          have hkb1 := (hb1.block _ (lt_of_some hkb)).trans hkb
          have hkc1 : w1.cell? ⟨wr.heap.size, 0, none⟩ = some (.string L[k].1) := by simp [World.cell?, hkb1]
          have hrw1 : Below wr.heap.size wr w1 := hrA.trans (hb1.mono hrA.size)
          rw [← HLT.out]
          gi_wp2
          refine ⟨trivial, ?_⟩
          refine (callsIn_wide.2 (ranges_less L[k].1 hi _ _ X1.out (ratV_isR HHI.out) (by omega) (by omega) _ hg1)).mono ?_
          rintro e w2 ⟨rfl, hb2⟩
          have hkb2 := (hb2.block _ (lt_of_some hkb1)).trans hkb1
          have hkc2 : w2.cell? ⟨wr.heap.size, 0, none⟩ = some (.string L[k].1) := by simp [World.cell?, hkb2]
          have hcw22 : w2.cell? ⟨Bw, 1, none⟩ = some (.string hi) := (hb2.cell (by simp; have := hb1.size; have := hrA.size; omega)).trans hcw21
          have hrw2 : Below wr.heap.size wr w2 := hrw1.trans (hb2.mono hrw1.size)
          have hJ2 : J pre w2 := abides_below (W := wr) (B := wr.heap.size) (fun s A B row hs hg hr => HJ.out s A B row hs hg (fun r e => ⟨Nat.le_trans hszr (hr r e).1, (hr r e).2⟩)) hJs hrw2
          have hK2 : KeepC n₀ Bw Bf W w2 := HNX.out.trans (KeepC.of_below hrw2 (by omega) (by omega) (by omega))
          rw [← HLT2.out]
          have HOKX := Lib.hid (hall (f, hi) (by rw [← HMAP.out, HEQ.out]; simp))
          obtain ⟨fn, tmps, assign, body, hy, hR⟩ := hY pre ⟨(f, hi), HOKX.out⟩ w2 hJ2 (by omega)
          dsimp only at hy
          have HEND := Lib.hid (show (pre ++ [(⟨(f, hi), HOKX.out⟩ : {p : Pair // Ok p})]).map (·.1) = stepsP hi lo L by rw [← HMAP.out, HEQ.out]; simp)
          clear hJs
          gi_wp2
          refine hR.mono ?_
          rintro e W9 (⟨rfl, hJ9, hk9⟩ | ⟨rfl, hJx9⟩)
          · gi_wp2
            go_end0
            exact ⟨⟨_, rfl⟩, .inl ⟨_, HEND.out, hJ9⟩⟩
          · gi_wp2
            go_end0
            exact ⟨⟨_, rfl⟩, .inr ⟨_, trivial, hJx9⟩⟩
        · have HEQ := Lib.hid (stepsP_go (hi := hi) hkl HLT.out HLT2.out)
          gi_wp2
          refine ⟨trivial, ?_⟩
          rw [← hwA]
          refine (callsIn_wide.2 (ranges_less f L[k].1 _ _ (ratV_isR HRF.out) X1.out (by omega) (by omega) _ hgA)).mono ?_
          rintro e w1 ⟨rfl, hb1⟩
          have hg1 := hgA.below hb1
          have hcw21 : w1.cell? ⟨Bw, 1, none⟩ = some (.string hi) := (hb1.cell (by simp; omega)).trans hcw2A
          have hkb1 := (hb1.block _ (lt_of_some hkb)).trans hkb
          have hkc1 : w1.cell? ⟨wr.heap.size, 0, none⟩ = some (.string L[k].1) := by simp [World.cell?, hkb1]
          have hrw1 : Below wr.heap.size wr w1 := hrA.trans (hb1.mono hrA.size)
          rw [← HLT.out]
          gi_wp2
          refine ⟨trivial, ?_⟩
          refine (callsIn_wide.2 (ranges_less L[k].1 hi _ _ X1.out (ratV_isR HHI.out) (by omega) (by omega) _ hg1)).mono ?_
          rintro e w2 ⟨rfl, hb2⟩
          have hkb2 := (hb2.block _ (lt_of_some hkb1)).trans hkb1
          have hkc2 : w2.cell? ⟨wr.heap.size, 0, none⟩ = some (.string L[k].1) := by simp [World.cell?, hkb2]
          have hcw22 : w2.cell? ⟨Bw, 1, none⟩ = some (.string hi) := (hb2.cell (by simp; have := hb1.size; have := hrA.size; omega)).trans hcw21
          have hrw2 : Below wr.heap.size wr w2 := hrw1.trans (hb2.mono hrw1.size)
          have hJ2 : J pre w2 := abides_below (W := wr) (B := wr.heap.size) (fun s A B row hs hg hr => HJ.out s A B row hs hg (fun r e => ⟨Nat.le_trans hszr (hr r e).1, (hr r e).2⟩)) hJs hrw2
          have hK2 : KeepC n₀ Bw Bf W w2 := HNX.out.trans (KeepC.of_below hrw2 (by omega) (by omega) (by omega))
          rw [← HLT2.out]
          have HOKX := Lib.hid (hall (f, L[k].1) (by rw [← HMAP.out, HEQ.out]; simp))
          obtain ⟨fn, tmps, assign, body, hy, hR⟩ := hY pre ⟨(f, L[k].1), HOKX.out⟩ w2 hJ2 (by omega)
          dsimp only at hy
          clear hJs
          gi_wp2
          refine hR.mono ?_
          rintro e W9 (⟨rfl, hJ9, hk9⟩ | ⟨rfl, hJx9⟩)
          · have hkb9 := hk9.2.2 _ _ _ hkb2
            have hkc9 : W9.cell? ⟨wr.heap.size, 0, none⟩ = some (.string L[k].1) := by simp [World.cell?, hkb9]
            gi_wp2
            go_roundw
            case rel => exact ⟨k + 1, L[k].1, _, rfl, int_succ k, hkl, HOK.out, by simp; omega, by rw [← HMAP.out, HEQ.out]; simp, hJ9, hK2.trans hk9⟩
            case measure => show L.length - ((k : Int) + 1).toNat < L.length - ((k : Int)).toNat; omega
          · gi_wp2
            refine bodyPost_ret (results_none rfl _ _ _) rfl ?_
            exact ⟨⟨_, rfl⟩, .inr ⟨_, trivial, hJx9⟩⟩
    · obtain rfl : k = L.length := by omega
      have hkn : decide ((L.length : Int) < (L.length : Int)) = false := decide_eq_false (by omega)
      have HEQ := Lib.hid (show stepsP hi f (L.drop L.length) = [(f, hi)] by rw [List.drop_length]; rfl)
      have HOKX := Lib.hid (hall (f, hi) (by rw [← HMAP.out, HEQ.out]; simp))
      obtain ⟨fn, tmps, assign, body, hy, hR⟩ := hY pre ⟨(f, hi), HOKX.out⟩ wr hJs (by omega)
      dsimp only at hy
      have HEND := Lib.hid (show (pre ++ [(⟨(f, hi), HOKX.out⟩ : {p : Pair // Ok p})]).map (·.1) = stepsP hi lo L by rw [← HMAP.out, HEQ.out]; simp)
      clear hJs
      gi_wp2
      refine hR.mono ?_
      rintro e W9 (⟨rfl, hJ9, hk9⟩ | ⟨rfl, hJx9⟩)
      · gi_wp2
        go_end0
        exact ⟨⟨_, rfl⟩, .inl ⟨_, HEND.out, hJ9⟩⟩
      · gi_wp2
        go_end0
        exact ⟨⟨_, rfl⟩, .inr ⟨_, trivial, hJx9⟩⟩
theorem steps_stops2 (Ok : Pair → Prop) (n : Nat) (hn : 1 ≤ n) (Bw Bf n₀ : Nat) (sv : Value) (lo hi : ByteArray) (L : List Pair) (hlo : ratB lo.data.toList = true) (hhi : ratB hi.data.toList = true) (hok : AllOk L) (hall : ∀ p ∈ stepsP hi lo L, Ok p) (hlen : L.length ≤ 1000000) (w : World) (hw : Good w)
    (hn0 : n₀ ≤ w.heap.size) (hn1 : 6 ≤ n₀) (hbw1 : Bw < w.heap.size) (hbf1 : Bf < w.heap.size) (hB1 : w.cell? ⟨Bw, 0, none⟩ = some (.string lo)) (hB2 : w.cell? ⟨Bw, 1, none⟩ = some (.string hi)) (hBf : w.cell? ⟨Bf, 0, none⟩ = some sv) (hfr : ∀ a k c, sv = .slice (some a) k c → a.block < n₀) (hI : Pairs w sv L) :
    SeqStopsK Fence.wide n Tryz.prog 130 #[.pointer (some ⟨Bw, 0, none⟩), .pointer (some ⟨Bf, 0, none⟩)] (fun x : {p : Pair // Ok p} => #[Value.agg #[.string x.1.1, .string x.1.2]]) (KeepC n₀ Bw Bf) (fun ys => ys.map (·.1) = stepsP hi lo L)
      (fun _ => True) (L.length + 1) w := fun l J Jx W hW hJ _ hY h0 =>
  steps2_in Ok n hn l Bw Bf n₀ sv lo hi L hlo hhi hok hall hlen J Jx w hw W hW hJ hY hn0 hn1 hbw1 hbf1 ((hW.cell (p := ⟨Bw, 0, none⟩) hbw1).trans hB1) ((hW.cell (p := ⟨Bw, 1, none⟩) hbw1).trans hB2) ((hW.cell (p := ⟨Bf, 0, none⟩) hbf1).trans hBf) hfr (hI.below hW) h0
end Go.Proofs.YtbogpbjddaoeiaaGreatDoor
namespace Go.Proofs.YtbogpbjddaoeiaaGreatDoor
open Go.RowKit Go.Shelf
open Go.Lib (decDigits itoa nDigits)
attribute [local go_sem] Oper.semAt_some
noncomputable def overV (L : List Pair) (h : Rat) (t : ByteArray) : Rat := valueV L (ratV t) - h
/-- where the height is passed -/
noncomputable def aboveX (L : List Pair) (h : Rat) (p : Pair) : Rat := ratV p.1 + overV L h p.1 * (overV L h p.1 - overV L h p.2)⁻¹ * (ratV p.2 - ratV p.1)
def OkA (L : List Pair) (h : Rat) (p : Pair) : Prop := ratB p.1.data.toList = true ∧ ratB p.2.data.toList = true ∧ ratB (rtext (aboveX L h p)) = true
abbrev AP (L : List Pair) (h : Rat) := { p : Pair // OkA L h p }
noncomputable def crossP {L : List Pair} {h : Rat} (x : AP L h) : RP :=
  if (0 ≤ overV L h x.1.1) = (0 ≤ overV L h x.1.2) then ⟨x.1, x.2.1, x.2.2.1⟩
  else if 0 ≤ overV L h x.1.1 then ⟨(x.1.1, ⟨(rtext (aboveX L h x.1)).toArray⟩), x.2.1, by simpa using x.2.2.2⟩
  else ⟨(⟨(rtext (aboveX L h x.1)).toArray⟩, x.1.2), by simpa using x.2.2.2, x.2.2.1⟩
open Classical in
/-- what a round puts out -/
noncomputable def aboveP {L : List Pair} {h : Rat} (x : AP L h) : List RP :=
  if (0 ≤ overV L h x.1.1 ∨ 0 ≤ overV L h x.1.2) ∧ ratV (crossP x).1.1 < ratV (crossP x).1.2 then [crossP x] else []
theorem sgnR_nonneg (q : Rat) : decide (0 ≤ sgnR q) = decide (0 ≤ q) := by
  rw [decide_eq_decide]
  unfold sgnR
  by_cases h : q.num < 0
  · rw [sgn_neg h]
    have : q < 0 := num_neg_iff.2 h
    constructor
    · intro h2; omega
    · intro h2; exact absurd this (Rat.not_lt.2 h2)
  · have hq : ¬ q < 0 := fun h2 => h (num_neg_iff.1 h2)
    have h3 : 0 ≤ q := Rat.not_lt.1 hq
    constructor
    · intro _; exact h3
    · intro _
      rcases Int.lt_or_le 0 q.num with h4 | h4
      · rw [sgn_pos h4]; decide
      · rw [sgn_zero (by omega)]; exact Int.le_refl _
/-- what is known between two rounds -/
structure AbvInv (w2 : World) (s0 s1 : Nat) (L : List Pair) (h : Rat) (pre : List (AP L h)) (W : World) : Prop where
  low : Below s0 w2 W
  out : ∃ v : Value, Boxed W s0 22 v ∧ W.ownsRow s1 33 2 v (pre.flatMap aboveP).length (cellsP (pre.flatMap aboveP)) ∧ (v = .slice none 0 0 ↔ pre.flatMap aboveP = [])
  sz : s1 ≤ W.heap.size
theorem abvInv_own {w2 : World} {s0 s1 B : Nat} {L : List Pair} {h : Rat} (hB : s0 ≤ B) (hs : s0 ≤ w2.heap.size) : OwnFrom B (AbvInv w2 s0 s1 L h) := fun s X Y row hs' hg hr => by
  obtain ⟨h1, ⟨v, h2, h3, h4⟩, h5⟩ := hs'
  exact ⟨ownFrom_below (β := Unit) hs hB () _ _ _ h1 hg hr, ⟨v, cells_kept hg hr h2, ownsRow_kept hg hr h3, h4⟩, Nat.le_trans h5 hg.size⟩
/-- a store into a block that is no knot's -/
theorem KeepC.setT {n₀ B1 B2 s0 i : Nat} {W : World} {t : TypeId} {cs : Array Value} {fz : Nat × Nat} (v : Value) (hb : W.heap[s0]? = some (.cells cs t fz)) (ht : t ≠ 97) (h1 : n₀ ≤ s0) (h2 : B1 ≠ s0) (h3 : B2 ≠ s0) : KeepC n₀ B1 B2 W (W.setCell ⟨s0, i, none⟩ v) := by
  have one : ∀ k, k ≠ s0 → (W.setCell ⟨s0, i, none⟩ v).heap[k]? = W.heap[k]? := fun k hk => Below.heap_setCell _ _ _ k hk
  refine ⟨(Below.refl n₀ W).setCell (p := ⟨s0, i, none⟩) h1 _, fun k hk => one k (by omega), fun k c fz' hk => ?_⟩
  rw [one k ?_]
  · exact hk
  · intro e
    subst e
    rw [hb] at hk
    cases hk
    exact ht rfl
/-- behind 'out = append(out, p)' -/
theorem append_all {W w1 : World} {s0 s1 B1 B2 k m : Nat} {v v' : Value} {xs ys : List Value} {tmp : Obj} (hv : Boxed W s0 22 v) (hrow : W.ownsRow s1 33 2 v k xs) (h01 : s0 < s1) (hs : s1 ≤ W.heap.size)
    (hb1 : B1 < s1) (hb2 : B2 < s1) (hn1 : B1 ≠ s0) (hn2 : B2 ≠ s0) (hown' : w1.ownsRow s1 33 2 v' m ys) (hgrow : (W.alloc tmp).grownBy w1 v.ownBlock) :
    Boxed w1 s0 22 v ∧ Boxed (w1.setCell ⟨s0, 0, none⟩ v') s0 22 v' ∧ (w1.setCell ⟨s0, 0, none⟩ v').ownsRow s1 33 2 v' m ys ∧ KeepsOthers W (w1.setCell ⟨s0, 0, none⟩ v') ∧ KeepC s0 B1 B2 W (w1.setCell ⟨s0, 0, none⟩ v') ∧ W.heap.size ≤ (w1.setCell ⟨s0, 0, none⟩ v').heap.size := by
  obtain ⟨c1, c2, _, c4, c5⟩ := hv.appended (n₀ := s0) (by decide) (owns_base hrow (Nat.le_of_lt h01)) (by omega) (Nat.le_refl _) (owns_base hown' (Nat.le_of_lt h01)) hgrow
  have hg1 : ∀ g, v.ownBlock = some g → s1 ≤ g := fun g hg => by
    rcases hrow.2 with ⟨rfl, _⟩ | ⟨g', cap, cur, rfl, hb, _, _⟩
    · simp [Value.ownBlock] at hg
    · obtain rfl : g' = g := by simpa [Value.ownBlock] using hg
      exact hb
  have hg2 : ∀ g, v'.ownBlock = some g → s1 ≤ g := fun g hg => by
    rcases hown'.2 with ⟨rfl, _⟩ | ⟨g', cap, cur, rfl, hb, _, _⟩
    · simp [Value.ownBlock] at hg
    · obtain rfl : g' = g := by simpa [Value.ownBlock] using hg
      exact hb
  have one : ∀ k, k ≠ s0 → k < W.heap.size → some k ≠ v.ownBlock → (w1.setCell ⟨s0, 0, none⟩ v').heap[k]? = W.heap[k]? := fun k hk hkl hkr => by
    rw [Below.heap_setCell _ _ _ k hk, hgrow.block k (by simp; omega) hkr]
    exact (alloc_below W tmp).block k hkl
  refine ⟨c1, c2, ownsRow_setCell_other hown' (fun h => ?_) _, c4, ⟨c5, fun k hk => ?_, fun k c fz hk => ?_⟩, c5.size⟩
  · have := hg2 _ h
    dsimp only at this
    omega
  · refine one k (by omega) (by omega) (fun h => ?_)
    have := hg1 _ h.symm
    omega
  · rw [one k ?_ (lt_of_some hk) ?_]
    · exact hk
    · intro e
      subst e
      rw [show W.heap[k]? = _ from hv] at hk
      cases hk
    · intro h
      rcases hrow.2 with ⟨rfl, _⟩ | ⟨g', cap, cur, rfl, hb, hgb, _⟩
      · simp [Value.ownBlock] at h
      · obtain rfl : k = g' := by simpa [Value.ownBlock] using h
        rw [hgb] at hk
        cases hk
theorem two_cells {W : World} {B : Nat} {t : TypeId} {a b : Value} (h : W.heap[B]? = some (.cells #[a, b] t (0, 0))) : W.cell? ⟨B, 0, none⟩ = some a ∧ W.cell? ⟨B, 1, none⟩ = some b ∧ W.frozen? ⟨B, 0, none⟩ = false ∧ W.frozen? ⟨B, 1, none⟩ = false := by
  refine ⟨by simp [World.cell?, h], by simp [World.cell?, h], by simp [World.frozen?, h], by simp [World.frozen?, h]⟩
theorem two_set0 {W : World} {B : Nat} {t : TypeId} {a b : Value} (v : Value) (h : W.heap[B]? = some (.cells #[a, b] t (0, 0))) : (W.setCell ⟨B, 0, none⟩ v).heap[B]? = some (.cells #[v, b] t (0, 0)) := by
  obtain ⟨hlt, hk⟩ := Array.getElem?_eq_some_iff.1 h
  show (W.heap.modify B _)[B]? = _
  rw [Array.getElem?_eq_getElem (by rw [Array.size_modify]; exact hlt), Array.getElem_modify_self, hk]
  rfl
theorem two_set1 {W : World} {B : Nat} {t : TypeId} {a b : Value} (v : Value) (h : W.heap[B]? = some (.cells #[a, b] t (0, 0))) : (W.setCell ⟨B, 1, none⟩ v).heap[B]? = some (.cells #[a, v] t (0, 0)) := by
  obtain ⟨hlt, hk⟩ := Array.getElem?_eq_some_iff.1 h
  show (W.heap.modify B _)[B]? = _
  rw [Array.getElem?_eq_getElem (by rw [Array.size_modify]; exact hlt), Array.getElem_modify_self, hk]
  rfl
theorem cell_two_new (w : World) (a b : Value) (t : TypeId) : ∀ (j : Nat) (u : Value), [a, b][j]? = some u → (w.alloc (.cells #[a, b] t)).cell? ((⟨w.heap.size, 0, none⟩ : Addr).add j) = some u := by
  intro j u hj
  rw [adr_add, World.cell?_alloc_new]
  simpa using hj
end Go.Proofs.YtbogpbjddaoeiaaGreatDoor
namespace Go.Proofs.YtbogpbjddaoeiaaGreatDoor
open Go.RowKit Go.Shelf
theorem pairs_of_owns {w : World} {base g n cap : Nat} {L : List RP} (h : w.ownsRow base 33 2 (.slice (some ⟨g, 0, none⟩) n cap) n (cellsP L)) : Pairs w (.slice (some ⟨g, 0, none⟩) L.length cap) (L.map (·.1)) ∧ n = L.length := by
  have hn : n = L.length := by have := h.1; rw [cellsP_len] at this; omega
  refine ⟨⟨some ⟨g, 0, none⟩, cap, by rw [List.length_map], ?_⟩, hn⟩
  rw [hn] at h
  rcases h.2 with ⟨h2, _⟩ | ⟨g', cap', cur, hv', hb, hg, hnc, hm, hs, ht⟩
  · cases h2
  · have hv2 := hv'
    simp only [Value.slice.injEq, Option.some.injEq, Addr.mk.injEq, and_true, true_and] at hv2
    obtain ⟨rfl, rfl⟩ := hv2
    refine ⟨by simpa using hnc, hm, fun _ => ⟨g, 0, rfl, lt_of_some hg, fun i hi => ?_⟩⟩
    have hi' : i < L.length := by simpa using hi
    have e0 := (owns_row_cells h rfl (cellsP_get L (i * 2) (by omega))).1
    have e1 := (owns_row_cells h rfl (cellsP_get L (i * 2 + 1) (by omega))).1
    rw [show i * 2 / 2 = i by omega, show i * 2 % 2 = 0 by omega, getElem!_pos L i hi'] at e0
    rw [show (i * 2 + 1) / 2 = i by omega, show (i * 2 + 1) % 2 = 1 by omega, getElem!_pos L i hi'] at e1
    rw [Nat.zero_add]
    simp only [List.getElem_map]
    exact ⟨e0, e1⟩
set_option maxHeartbeats 1000000 in
theorem index_nil (f : Value) (w : World) : Calls Tryz.prog 134 #[.slice none 0 0, f] w fun e w' => e = .returned (.int .i64 (-1)) ∧ w = w' := by
  go_enter Tryz.func134, Tryz.ntmps134
  go_wp2_with fail
  go_loopw [5, 8] (fun _ iv wr => iv = .int .i64 0 ∧ wr = w) (fun _ _ _ => 0)
  case atStart => exact ⟨rfl, rfl⟩
  case round =>
    obtain ⟨rfl, rfl⟩ := hrel
    go_wp2
    go_ret
    exact ⟨rfl, rfl⟩
theorem has_nil (f : Value) (w : World) : Calls Tryz.prog 85 #[.slice none 0 0, f] w fun e w' => e = .returned (.bool false) ∧ w = w' := by
  go_enter Tryz.func85, Tryz.ntmps85
  go_wp2_with fail
  refine (index_nil f w).mono ?_
  rintro e w1 ⟨rfl, rfl⟩
  go_wp2
  go_ret
  exact ⟨rfl, rfl⟩
end Go.Proofs.YtbogpbjddaoeiaaGreatDoor
