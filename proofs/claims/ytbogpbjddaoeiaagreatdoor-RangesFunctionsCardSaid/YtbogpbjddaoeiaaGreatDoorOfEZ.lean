import Derived.Test.YtbogpbjddaoeiaaGreatDoorJoin0Z
import Derived.Test.YtbogpbjddaoeiaaGreatDoorJoinZ
import Derived.Test.YtbogpbjddaoeiaaGreatDoorMergeQZ
import Derived.Test.YtbogpbjddaoeiaaGreatDoorPlainQZ
import Derived.Test.YtbogpbjddaoeiaaGreatDoorValsZ
namespace Go.Proofs.YtbogpbjddaoeiaaGreatDoor
open Go.RowKit Go.Shelf Go.Sort Go.Lib
set_option maxHeartbeats 1000000 in
theorem clone_empty (a : Option Addr) (c : Nat) (w : World) : Calls Tryz.prog 122 #[.slice a 0 c] w fun e w' => ∃ p c', e = .returned (.slice p 0 c') ∧ Below w.heap.size w w' := by
  cases a with
  | none =>
    have hcl := AnyE.slices_Clone_nil (ρ := clonePart_ren) clonePart 0 c w
    change Calls Tryz.prog 122 _ _ _ at hcl
    exact hcl.mono fun e w' ⟨he, hw⟩ => ⟨none, 0, he, by rw [hw]; exact Below.refl _ _⟩
  | some a =>
    have q22 : ∀ w, (binOp .eql 22 (.slice (some a) 0 c) (.slice none 0 0)).run Tryz.prog w = .ok (.bool false) w := fun w => Lib.run_eql_slice_nil w _ _ (some a) 0 c 0 0 Tryz.underlying22
    obtain ⟨i0, hi, hz0, hz1, hz2⟩ := info_parts slPart.info
    have hown0 := World.ownsRow_made (e := 33) (size := 2) w #[] 0 (Nat.le_refl _) (Nat.zero_le _) (by simp)
    go_enter Tryz.func122, Tryz.ntmps122
    go_wp2_with (at_builtin; refine wpList_append_own _ rfl (.tmp 5) (.tmp 6) 22 rfl w.heap.size 33 i0 (.agg #[.string ⟨#[]⟩, .string ⟨#[]⟩]) 2 32 slPart.ht hi hz0 hz1 hz2 slPart.hzs slPart.hsz _ _ _ rfl hown0 a 0 c [] rfl rfl (fun j u hj => (by simp at hj)) (fun u hu => (by cases hu)) (by decide) (by decide) (by simp) ?_; intro v' w1 hown hgrow _)
    have hb := ((Below.refl w.heap.size w).alloc (Nat.le_refl _) (Obj.cells #[] 33)).grown hgrow (by simp) (fun g hg => (hown0.lt g hg).1)
    obtain ⟨_, p', c', rfl, _⟩ := Reads.of_owns hown
    clear hown hgrow
    go_wp2
    go_ret
    exact ⟨⟨p', c', rfl⟩, hb⟩
theorem joined_empty (a : Option Addr) (c : Nat) (w : World) : Calls Tryz.prog 68 #[.slice a 0 c] w fun e w' => e = .returned (.slice none 0 0) ∧ Below w.heap.size w w' := by
  have HCL := Lib.hid (clone_empty a c w)
  go_enter Tryz.func68, Tryz.ntmps68
  go_wp2_with fail
  refine HCL.out.mono ?_
  rintro e w1 ⟨p, c', rfl, hb1⟩
  go_wp2_with fail
  have hs := AnyF.slices_SortFunc_none (ρ := sortPart_ren) sortPart p c' (.func (.func 124) #[] #[]) w1
  change Calls Tryz.prog 123 _ _ _ at hs
  refine hs.mono ?_
  clear hs
  rintro e w2 ⟨rfl, rfl⟩
  go_wp2_with fail
  go_loopw [3, 5, 6, 13] (fun ov _ _ iv wr => ov = .slice none 0 0 ∧ iv = .int .i64 0 ∧ wr = w2) (fun _ _ _ _ _ => 0)
  case atStart => exact ⟨rfl, rfl, rfl⟩
  case round =>
    obtain ⟨rfl, rfl, rfl⟩ := hrel
    go_wp2
    go_ret
    exact ⟨rfl, hb1⟩
theorem of_empty (a : Option Addr) (c : Nat) (w : World) : Calls Tryz.prog 17 #[.slice a 0 c] w fun e w' => e = .returned (.tuple #[.slice none 0 0, .int .i64 0]) ∧ Below w.heap.size w w' := by
  have HJ := Lib.hid (joined_empty a c w)
  go_enter Tryz.func17, Tryz.ntmps17
  go_wp2_with fail
  go_loopw [2, 3, 5, 6, 12] (fun rv ev _ _ iv wr => rv = .slice none 0 0 ∧ ev = .int .i64 0 ∧ iv = .int .i64 0 ∧ wr = w) (fun _ _ _ _ _ _ => 0)
  case atStart => exact ⟨rfl, rfl, rfl, rfl⟩
  case round =>
    obtain ⟨rfl, rfl, rfl, rfl⟩ := hrel
    go_wp2_with fail
    refine HJ.out.mono ?_
    rintro e w1 ⟨rfl, hb1⟩
    go_wp2
    go_ret2
    exact ⟨rfl, hb1⟩
theorem cellsP_S (M : List RP) : cellsP M = cellsS (M.map (·.1)) := by unfold cellsP cellsS; rw [List.flatMap_map]; rfl
/-- Of's word on any list -/
def OfP (L : List Pair) (w : World) (e : Ending) (w' : World) : Prop :=
  (ofErrs L = 0 → ∃ (v : Value) (R M : List RP), e = .returned (.tuple #[v, .int .i64 0]) ∧ R.map (·.1) = L ∧ M.Perm R ∧ M.Pairwise (fun x y => ¬ ratV y.1.1 < ratV x.1.1) ∧ Pairs w' v ((mergeP M).map (·.1)) ∧ Below w.heap.size w w') ∧
  (ofErrs L ≠ 0 → e = .returned (.tuple #[.slice none 0 0, .int .i64 (ofErrs L)]) ∧ Below w.heap.size w w')
theorem of_any (v : Value) (L : List Pair) (w : World) (hw : Good w) (hv : Pairs w v L) (hsz : SzOk L) :
    Calls Tryz.prog 17 #[v] w (OfP L w) := by
  by_cases h0 : 0 < L.length
  · have hv' := hv
    obtain ⟨p, c, rfl, _, _, hx⟩ := hv'
    obtain ⟨b, off, rfl, _⟩ := hx h0
    refine (ranges_Of b off c L w hw hv hsz h0).mono fun e w' ⟨h1, h2⟩ => ⟨fun he => ?_, h2⟩
    obtain ⟨v, R, M, a1, a2, a3, a4, a5, a6⟩ := h1 he
    exact ⟨v, R, M, a1, a2, a3, a4, pairs_of_cells (by rw [List.length_map, ← cellsP_S]; exact a5), a6⟩
  · have hL : L = [] := List.eq_nil_of_length_eq_zero (by omega)
    subst hL
    obtain ⟨p, c, rfl, _, _, _⟩ := hv
    refine (of_empty p c w).mono fun e w' ⟨h1, h2⟩ => ⟨fun _ => ?_, fun hn => (hn (by unfold ofErrs ofErr; simp)).elim⟩
    exact ⟨.slice none 0 0, [], [], h1, rfl, .refl _, List.Pairwise.nil, ⟨none, 0, rfl, Nat.le_refl _, by decide, fun h => (by simp [mergeP] at h)⟩, h2⟩
/-- Of's word on a description's intervals -/
def OfHalf (E : List ZP) (w : World) (e : Ending) (w' : World) : Prop := ∃ (v : Value) (C : List ZP), e = .returned (.tuple #[v, .int .i64 0]) ∧ Pairs w' v (C.map halfP) ∧ IsSet (setOf E) C ∧ Below w.heap.size w w'
theorem of_half (v : Value) (E : List ZP) (w : World) (hw : Good w) (hv : Pairs w v (E.map halfP)) (hE : ∀ p ∈ E, -300 ≤ p.1 ∧ p.1 < p.2 ∧ p.2 ≤ 300) (hl : E.length ≤ 200) :
    Calls Tryz.prog 17 #[v] w (OfHalf E w) := by
  have hsm : SmallZ E := fun p hp => by have := hE p hp; omega
  have hpe : ∀ p ∈ E.map halfP, partErr p.1 p.2 = 0 := by
    intro p hp
    obtain ⟨z, hz, rfl⟩ := List.mem_map.1 hp
    obtain ⟨a, b, c, d⟩ := halfP_ok (hsm z hz)
    exact partErr_zero a b (by rw [c, d]; exact hf_lt.2 (hE z hz).2.1)
  have hsz : SzOk (E.map halfP) := szOk_of fun p hp => by
    obtain ⟨z, hz, rfl⟩ := List.mem_map.1 hp
    obtain ⟨a, b, _, _⟩ := halfP_ok (hsm z hz)
    exact ⟨a, b⟩
  have he0 : ofErrs (E.map halfP) = 0 := ofErrs_zero (by rw [List.length_map]; exact hl) hpe
  refine (of_any v _ w hw hv hsz).mono fun e w' ⟨h1, _⟩ => ?_
  obtain ⟨v', R, M, a1, a2, a3, a4, a5, a6⟩ := h1 he0
  obtain ⟨C, c1, c2, c3⟩ := merged_half hsm (fun p hp => (hE p hp).2.1) a2 a3 a4
  rw [c1] at a5
  exact ⟨v', C, a1, a5, setOf_isSet hE c2 c3, a6⟩
end Go.Proofs.YtbogpbjddaoeiaaGreatDoor
namespace Go.Proofs.YtbogpbjddaoeiaaGreatDoor
open Go.RowKit Go.Shelf Go.Sort Go.Lib
/-- a union has a number -/
noncomputable def inP (q : Rat) (p : Pair) : Bool := !decide (q < ratV p.1) && !decide (ratV p.2 < q)
noncomputable def hasV (L : List Pair) (q : Rat) : Bool := L.any (inP q)
set_option maxHeartbeats 1000000 in
theorem has_pred (x : ByteArray) (q : Rat) (hx : IsR x q) (hxs : x.size ≤ 1000000000) (B : Nat) (p : RP) (w : World) (hw : Good w) (hB : w.cell? ⟨B, 0, none⟩ = some (.string x)) :
    Calls Tryz.prog 131 #[.agg #[.string p.1.1, .string p.1.2], .pointer (some ⟨B, 0, none⟩)] w fun e w' => e = .returned (.bool (inP q p.1)) ∧ Below w.heap.size w w' := by
  have hba := alloc_below w (Obj.cells #[.string p.1.1, .string p.1.2] 33)
  have hpa := PartAt.alloc p.1.1 p.1.2 w 33
  obtain ⟨x1, x2, s1, s2⟩ := p.isR
  have hBl : B < w.heap.size := block_lt_of_cell hB
  have hBA := (hba.cell (p := ⟨B, 0, none⟩) hBl).trans hB
  have HX := Lib.hid hx
  have H1 := Lib.hid x1
  have H2 := Lib.hid x2
  obtain ⟨l1, hl1⟩ : ∃ l : Bool, l = decide (q < ratV p.1.1) := ⟨_, rfl⟩
  obtain ⟨l2, hl2⟩ : ∃ l : Bool, l = decide (ratV p.1.2 < q) := ⟨_, rfl⟩
  have HL1 := Lib.hid hl1
  have HL2 := Lib.hid hl2
  have HR := Lib.hid (show inP q p.1 = (!l1 && !l2) by unfold inP; rw [hl1, hl2])
  clear hx x1 x2 hl1 hl2 hB
  go_enter Tryz.func131, Tryz.ntmps131
  go_wp2_with fail
  generalize w.alloc (Obj.cells #[.string p.1.1, .string p.1.2] 33) = wA at hba hpa hBA ⊢
  have hgA := hw.below hba
  have hlA := hpa.1
  have hpa1 := hpa
  obtain ⟨_, p1, p2⟩ := hpa1
  go_wp2_with fail
  refine (ranges_less x p.1.1 _ _ HX.out H1.out (by omega) (by omega) wA hgA).mono ?_
  rintro e w1 ⟨rfl, hb1⟩
  rw [← HL1.out]
  have hb01 := hba.trans (hb1.mono hba.size)
  have hBl1 : B < wA.heap.size := Nat.lt_of_lt_of_le hBl hba.size
  have hB1 := (hb1.cell (p := ⟨B, 0, none⟩) hBl1).trans hBA
  obtain ⟨_, q1, q2⟩ := hpa.below hb1
  clear p1 p2 hBA hpa
  cases l1
  · go_wp2_with fail
    refine (ranges_less p.1.2 x _ _ H2.out HX.out (by omega) (by omega) w1 (hw.below hb01)).mono ?_
    rintro e w2 ⟨rfl, hb2⟩
    rw [← HL2.out]
    cases l2
    · go_wp2
      go_ret
      exact ⟨ret_bool (by rw [HR.out]; rfl), hb01.trans (hb2.mono hb01.size)⟩
    · go_wp2
      go_ret
      exact ⟨ret_bool (by rw [HR.out]; rfl), hb01.trans (hb2.mono hb01.size)⟩
  · go_wp2
    go_ret
    exact ⟨ret_bool (by rw [HR.out]; rfl), hb01⟩
set_option maxHeartbeats 1000000 in
theorem index_empty (a : Option Addr) (c : Nat) (f : Value) (w : World) : Calls Tryz.prog 134 #[.slice a 0 c, f] w fun e w' => e = .returned (.int .i64 (-1)) ∧ w = w' := by
  go_enter Tryz.func134, Tryz.ntmps134
  go_wp2_with fail
  go_loopw [5, 8] (fun _ iv wr => iv = .int .i64 0 ∧ wr = w) (fun _ _ _ => 0)
  case atStart => exact ⟨rfl, rfl⟩
  case round =>
    obtain ⟨rfl, rfl⟩ := hrel
    go_wp2
    go_ret
    exact ⟨rfl, rfl⟩
theorem contains_empty (a : Option Addr) (c : Nat) (f : Value) (w : World) : Calls Tryz.prog 85 #[.slice a 0 c, f] w fun e w' => e = .returned (.bool false) ∧ Below w.heap.size w w' := by
  go_enter Tryz.func85, Tryz.ntmps85
  go_wp2_with fail
  refine (index_empty a c f w).mono ?_
  rintro e w1 ⟨rfl, rfl⟩
  go_wp2
  go_ret
  exact ⟨rfl, Below.refl _ _⟩
theorem contains_has (x : ByteArray) (q : Rat) (hx : IsR x q) (hxs : x.size ≤ 1000000000) (B : Nat) (v : Value) (zs : List RP) (w : World) (hw : Good w) (hB : w.cell? ⟨B, 0, none⟩ = some (.string x)) (hv : Pairs w v (zs.map (·.1))) (hl : zs.length ≤ 1000000) :
    Calls Tryz.prog 85 #[v, .func (.func 131) #[] #[.pointer (some ⟨B, 0, none⟩)]] w fun e w' => e = .returned (.bool (hasV (zs.map (·.1)) q)) ∧ Below w.heap.size w w' := by
  have hBl : B < w.heap.size := block_lt_of_cell hB
  by_cases h0 : 0 < zs.length
  · obtain ⟨p, c, rfl, hc, hm, hxx⟩ := hv
    obtain ⟨b, off, rfl, hbl, hcell⟩ := hxx (by rw [List.length_map]; exact h0)
    have hcp := cellsP_of_pairs hcell
    have eg : ∀ args w, (callFunc 131 args).run Tryz.prog w = .ok (.enter 131 args) w := enters_of Tryz.func131 (by kernel_rfl) rfl
    have h := AnyQ.slices_ContainsFunc (ρ := hasPart_ren) hasPart 2 Tryz.isAgg33 Tryz.sizeOf33 encP (fun _ => rfl) (fun p => inP q p.1) 131 #[.pointer (some ⟨B, 0, none⟩)] eg b off (zs.map (·.1)).length c zs w
      (fun W p hW => (has_pred x q hx hxs B p W (hw.below hW) ((hW.cell (p := ⟨B, 0, none⟩) hBl).trans hB)).mono fun e w' h => ⟨h.1, hW.trans (h.2.mono hW.size)⟩) (by rw [List.length_map]; exact Nat.le_refl _) (by rw [List.length_map]; omega) hbl (fun j hj i v hv => by
        refine (show w.cell? ⟨b, off + j * 2 + i, none⟩ = w.cell? ⟨b, off + (j * 2 + i), none⟩ by rw [Nat.add_assoc]) ▸ hcp (j * 2 + i) v ?_
        have hi : i < 2 := by
          rcases Nat.lt_or_ge i 2 with h | h
          · exact h
          · rw [List.getElem?_eq_none (by simpa [encP] using h)] at hv; cases hv
        rw [cellsP_get zs _ (by omega), show (j * 2 + i) / 2 = j by omega, show (j * 2 + i) % 2 = i by omega]
        rw [getElem!_pos _ i (by simpa [encP] using hi)]
        rw [List.getElem?_eq_getElem (by simpa [encP] using hi)] at hv
        exact hv)
    refine Calls.mono h ?_
    rintro e w' ⟨rfl, hb'⟩
    refine ⟨ret_bool ?_, hb'⟩
    unfold hasV
    rw [List.length_map, List.take_length, List.any_map]
    rfl
  · have hz : zs = [] := List.eq_nil_of_length_eq_zero (by omega)
    subst hz
    obtain ⟨p, c, rfl, _⟩ := hv
    exact contains_empty p c _ w
theorem ranges_has (x : ByteArray) (q : Rat) (hx : IsR x q) (hxs : x.size ≤ 1000000000) (v : Value) (zs : List RP) (w : World) (hw : Good w) (hv : Pairs w v (zs.map (·.1))) (hl : zs.length ≤ 1000000) :
    Calls Tryz.prog 81 #[v, .string x] w fun e w' => e = .returned (.bool (hasV (zs.map (·.1)) q)) ∧ Below w.heap.size w w' := by
  obtain ⟨wA, hwA⟩ : ∃ wA, wA = w.alloc (Obj.cells #[.string x] 31) := ⟨_, rfl⟩
  have hbA : Below w.heap.size w wA := by rw [hwA]; exact alloc_below _ _
  have hxA : wA.cell? ⟨w.heap.size, 0, none⟩ = some (.string x) := by rw [hwA, World.cell?_alloc_new]; rfl
  have HC := Lib.hid (contains_has x q hx hxs w.heap.size v zs wA (hw.below hbA) hxA (hv.below hbA) hl)
  have HWA := Lib.hid hwA
  obtain ⟨p, c, rfl, _⟩ := hv
  obtain ⟨nl, hnl⟩ : ∃ nl, (zs.map (·.1)).length = nl := ⟨_, rfl⟩
  rw [hnl] at HC ⊢
  clear hwA hx hxA hnl hl
  generalize hasV (zs.map (·.1)) q = r at *
  go_enter Tryz.func81, Tryz.ntmps81
  go_wp2_with fail
  rw [← HWA.out]
  refine HC.out.mono ?_
  rintro e w1 ⟨rfl, hb1⟩
  go_wp2
  go_ret
  exact ⟨rfl, hbA.trans (hb1.mono hbA.size)⟩
theorem check_rps {L : List Pair} (h : checkErr L = 0) : ∃ zs : List RP, zs.map (·.1) = L ∧ zs.length ≤ 200 := by
  obtain ⟨hok, hl⟩ := checkErr_ok h
  have : ∀ L : List Pair, AllOk L → ∃ zs : List RP, zs.map (·.1) = L := by
    intro L
    induction L with
    | nil => exact fun _ => ⟨[], rfl⟩
    | cons p l ih =>
      intro h
      obtain ⟨R, hR⟩ := ih fun q hq => h q (List.mem_cons_of_mem _ hq)
      exact ⟨⟨p, h p (List.mem_cons_self ..)⟩ :: R, by rw [List.map_cons, hR]⟩
  obtain ⟨zs, hz⟩ := this L hok
  exact ⟨zs, hz, by rw [← hz, List.length_map] at hl; exact hl⟩
theorem contains_ok (v : Value) (L : List Pair) (x : ByteArray) (w : World) (hw : Good w) (hv : Pairs w v L) (hk : checkErr L = 0) (hxb : ratB x.data.toList = true) :
    Calls Tryz.prog 31 #[v, .string x] w fun e w' => e = .returned (.tuple #[.bool (hasV L (ratV x)), .int .i64 0]) ∧ Below w.heap.size w w' := by
  obtain ⟨zs, hz, hzl⟩ := check_rps hk
  have hxs := ratB_size hxb
  have h1 := ranges_Check v L w hw hv (szOk_of (checkErr_ok hk).1)
  rw [hk] at h1
  have H1 := Lib.hid h1
  have HX := Lib.hid hxb
  have HH := Lib.hid (fun w' (hb : Below w.heap.size w w') => ranges_has x (ratV x) (ratV_isR hxb) (by omega) v zs w' (hw.below hb) (by rw [hz]; exact hv.below hb) (by omega))
  rw [hz] at HH
  obtain ⟨p, c, rfl, _⟩ := hv
  generalize hasV L (ratV x) = r at *
  clear h1 hz hk hxb
  go_enter Tryz.func31, Tryz.ntmps31
  go_wp2_with fail
  refine H1.out.mono ?_
  rintro e w1 ⟨rfl, hb1⟩
  go_wp2_with fail
  refine (ranges_wrong x (by omega) _ (hw.below hb1)).mono ?_
  rintro e w2 ⟨rfl, hb2⟩
  rw [HX.out]
  have hb02 := hb1.trans (hb2.mono hb1.size)
  go_wp2_with fail
  refine (HH.out _ hb02).mono ?_
  rintro e w3 ⟨rfl, hb3⟩
  go_wp2
  go_ret2
  exact ⟨rfl, hb02.trans (hb3.mono hb02.size)⟩
theorem contains_num (v : Value) (L : List Pair) (x : ByteArray) (w : World) (hw : Good w) (hv : Pairs w v L) (hk : checkErr L = 0) (hxs : x.size ≤ 4000000000) (hxb : ratB x.data.toList = false) :
    Calls Tryz.prog 31 #[v, .string x] w fun e w' => e = .returned (.tuple #[.bool false, .int .i64 2]) ∧ Below w.heap.size w w' := by
  have h1 := ranges_Check v L w hw hv (szOk_of (checkErr_ok hk).1)
  rw [hk] at h1
  have H1 := Lib.hid h1
  have HX := Lib.hid hxb
  obtain ⟨p, c, rfl, _⟩ := hv
  clear h1 hk hxb
  go_enter Tryz.func31, Tryz.ntmps31
  go_wp2_with fail
  refine H1.out.mono ?_
  rintro e w1 ⟨rfl, hb1⟩
  go_wp2_with fail
  refine (ranges_wrong x hxs _ (hw.below hb1)).mono ?_
  rintro e w2 ⟨rfl, hb2⟩
  rw [HX.out]
  go_wp2
  go_ret2
  exact ⟨rfl, hb1.trans (hb2.mono hb1.size)⟩
end Go.Proofs.YtbogpbjddaoeiaaGreatDoor
