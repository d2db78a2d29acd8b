import Derived.Test.YtbogpbjddaoeiaaGreatDoorConcatZ
import Derived.Test.YtbogpbjddaoeiaaGreatDoorEndsVZ
import Derived.Test.YtbogpbjddaoeiaaGreatDoorValsZ
namespace Go.Proofs.YtbogpbjddaoeiaaGreatDoor
open Go.RowKit Go.Shelf Go.Sort Go.Lib
theorem knots1_ok (a b : ByteArray) (hb : ratB b.data.toList = true) (w : World) (hw : Good w) :
    Calls Tryz.prog 141 #[.agg #[.string a, .string b]] w fun e w' => e = .returned (.bool false) ∧ Below w.heap.size w w' := by
  have hbs := ratB_size hb
  have hba := alloc_below w (Obj.cells #[.string a, .string b] 97)
  have c1 := alloc_cells w #[.string a, .string b] 97 1 (by simp)
  have c0 := alloc_cells w #[.string a, .string b] 97 0 (by simp)
  have HW := Lib.hid (fun w' (hb' : Below w.heap.size w w') => ranges_wrong b (by omega) w' (hw.below hb'))
  rw [hb] at HW
  clear hb
  go_enter Tryz.func141, Tryz.ntmps141
  go_wp2_with fail
  refine (HW.out _ (by assumption)).mono ?_
  rintro e w1 ⟨rfl, hb1⟩
  have hb01 := hba.trans (hb1.mono hba.size)
  go_wp2
  go_ret
  exact ⟨rfl, hb01⟩
set_option maxRecDepth 100000 in
set_option maxHeartbeats 4000000 in
theorem index_wrong (v : Value) (L : List Pair) (w : World) (hw : Good w) (hv : Pairs w v L) (hr : ∀ p ∈ L, ratB p.2.data.toList = true) (hl : L.length ≤ 1000000) :
    Calls Tryz.prog 182 #[v, .func (.func 141) #[] #[]] w fun e w' => e = .returned (.int .i64 (-1)) ∧ Below w.heap.size w w' := by
  obtain ⟨p, c, rfl, hc, hm, hxx⟩ := hv
  have hbw := Below.refl w.heap.size w
  have eg : ∀ args w, (callFunc 141 args).run Tryz.prog w = .ok (.enter 141 args) w := enters_of Tryz.func141 (by kernel_rfl) rfl
  go_enter Tryz.func182, Tryz.ntmps182
  go_wp2_with fail
  go_loopw [4, 5, 8] (fun rv _ iv wr => ∃ k : Nat, k ≤ L.length ∧ rv = .int .i64 0 ∧ iv = .int .i64 (k : Int) ∧ Below w.heap.size w wr) (fun _ _ iv _ => L.length - (intOf iv).toNat)
  case atStart => exact ⟨0, Nat.zero_le _, rfl, rfl, hbw⟩
  case round =>
    obtain ⟨k, hk2, rfl, rfl, hbr⟩ := hrel
    by_cases hk : k < L.length
    · obtain ⟨b, off, rfl, hbl, hcell⟩ := hxx (by omega)
      obtain ⟨c0, c1⟩ := hcell k hk
      rw [← hbr.cell (p := ⟨b, off + k * 2, none⟩) hbl] at c0
      rw [← hbr.cell (p := ⟨b, off + k * 2 + 1, none⟩) hbl] at c1
      have HK := Lib.hid (hr L[k] (List.getElem_mem hk))
      have hkn : decide ((k : Int) < (L.length : Int)) = true := decide_eq_true (by omega)
      have i1 : (0 : Int) ≤ (k : Int) := by omega
      have i2 : (k : Int) < (L.length : Int) := by omega
      generalize L[k] = x at *
      clear hcell hxx hr
      go_wp2_with fail
      refine (knots1_ok x.1 x.2 HK.out _ (hw.below hbr)).mono ?_
      rintro e w1 ⟨rfl, hb1⟩
      have hb01 := hbr.trans (hb1.mono hbr.size)
      go_wp2
      refine ⟨⟨k + 1, hk, rfl, int_succ k, hb01⟩, ?_⟩
      show L.length - ((k : Int) + 1).toNat < L.length - ((k : Int)).toNat
      omega
    · have hkn : decide ((k : Int) < (L.length : Int)) = false := decide_eq_false (by omega)
      clear hxx hr
      go_wp2
      go_ret
      exact ⟨rfl, hbr⟩
theorem contains_wrong (v : Value) (L : List Pair) (w : World) (hw : Good w) (hv : Pairs w v L) (hr : ∀ p ∈ L, ratB p.2.data.toList = true) (hl : L.length ≤ 1000000) :
    Calls Tryz.prog 140 #[v, .func (.func 141) #[] #[]] w fun e w' => e = .returned (.bool false) ∧ Below w.heap.size w w' := by
  have HI := Lib.hid (index_wrong v L w hw hv hr hl)
  obtain ⟨p, c, rfl, hzv⟩ := hv
  clear hzv
  clear hr
  generalize L.length = n at *
  go_enter Tryz.func140, Tryz.ntmps140
  go_wp2_with fail
  refine HI.out.mono ?_
  rintro e w1 ⟨rfl, hb1⟩
  go_wp2
  go_ret
  exact ⟨rfl, hb1⟩
theorem ranges_knots (v : Value) (L : List Pair) (w : World) (hw : Good w) (hv : Pairs w v L) (hr : ∀ p ∈ L, ratB p.2.data.toList = true) (hl : L.length ≤ 100) :
    Calls Tryz.prog 97 #[v] w fun e w' => e = .returned (.tuple #[v, .int .i64 0]) ∧ Below w.heap.size w w' := by
  have HI := Lib.hid (contains_wrong v L w hw hv hr (by omega))
  obtain ⟨p, c, rfl, hzv⟩ := hv
  clear hzv
  have h1 : decide ((100 : Int) < (L.length : Int)) = false := decide_eq_false (by omega)
  clear hr
  generalize L.length = n at *
  go_enter Tryz.func97, Tryz.ntmps97
  go_wp2_with fail
  refine HI.out.mono ?_
  rintro e w1 ⟨rfl, hb1⟩
  go_wp2
  go_ret2
  exact ⟨rfl, hb1⟩
/-! Add -/
def atT (x : RP) : TP := ⟨x.1.1, x.2.1⟩
def atsT (L : List RP) : List TP := L.map atT
theorem atsT_len (L : List RP) : (atsT L).length = L.length := by unfold atsT; rw [List.length_map]
/-- the sum's knot at a number -/
noncomputable def sumP (LA LB : List Pair) (x : TP) : Pair := (x.1, tx (valueV LA (ratV x.1) + valueV LB (ratV x.1)))
def AddPost (ZA ZB : List RP) (w : World) (e : Ending) (w' : World) : Prop :=
  ∃ (v : Value) (E : List TP), e = .returned (.tuple #[v, .int .i64 0]) ∧ E.Pairwise (fun x y => ratV x.1 < ratV y.1) ∧ (∀ x, x ∈ E ↔ x ∈ atsT (ZA ++ ZB)) ∧ Pairs w' v (E.map (sumP (ZA.map (·.1)) (ZB.map (·.1)))) ∧ Below w.heap.size w w'
def AtSt (L : List RP) (w : World) (ov : Value) (wr : World) : Prop := wr.ownsRow w.heap.size 31 1 ov L.length (cellsT (atsT L)) ∧ Below w.heap.size w wr
theorem AtSt.put {L : List RP} {w : World} {v' : Value} {w' : World} (x : RP) (ho : w'.ownsRow w.heap.size 31 1 v' (L.length + 1) (cellsT (atsT L) ++ [.string x.1.1])) (hb : Below w.heap.size w w') : AtSt (L ++ [x]) w v' w' := by
  refine ⟨?_, hb⟩
  unfold atsT at *
  rw [List.map_append, cellsT_append, List.length_append]
  exact ho
theorem AtSt.zero (w : World) : AtSt [] w (.slice none 0 0) w := ⟨World.ownsRow_nil _ _ _ _, Below.refl _ _⟩
theorem oneOne (a : ByteArray) : ∀ u ∈ (#[Value.string a] : Array Value).toList, u.oneCell' = true := by
  intro u hu
  simp at hu
  subst hu
  rfl
def SmSt (f : TP → Pair) (E : List TP) (w : World) (k : Nat) (ov : Value) (wr : World) : Prop := k ≤ E.length ∧ wr.ownsRow w.heap.size 97 2 ov k (cellsS ((E.take k).map f)) ∧ Below w.heap.size w wr
theorem SmSt.zero (f : TP → Pair) (E : List TP) (w wr : World) (h : Below w.heap.size w wr) : SmSt f E w 0 (.slice none 0 0) wr := ⟨Nat.zero_le _, World.ownsRow_nil _ _ _ _, h⟩
theorem SmSt.put {f : TP → Pair} {E : List TP} {w : World} {k : Nat} {v' : Value} {w' : World} (hk : k < E.length) (ho : w'.ownsRow w.heap.size 97 2 v' (k + 1) (cellsS ((E.take k).map f) ++ [.string (f E[k]).1, .string (f E[k]).2])) (hb : Below w.heap.size w w') : SmSt f E w (k + 1) v' w' :=
  ⟨hk, by rw [List.take_succ_eq_append_getElem hk, List.map_append, List.map_cons, List.map_nil, cellsS_snoc]; exact ho, hb⟩
set_option maxRecDepth 100000 in
set_option maxHeartbeats 16000000 in
theorem ranges_Add (va vb : Value) (ZA ZB : List RP) (w : World) (hw : Good w) (hA : Pairs w va (ZA.map (·.1))) (hB : Pairs w vb (ZB.map (·.1))) (kA : knotsErr (ZA.map (·.1)) = 0) (kB : knotsErr (ZB.map (·.1)) = 0) (hl : ZA.length + ZB.length ≤ 100)
    (hs : ∀ x ∈ atsT (ZA ++ ZB), ratB (rtext (valueV (ZA.map (·.1)) (ratV x.1) + valueV (ZB.map (·.1)) (ratV x.1))) = true) :
    Calls Tryz.prog 51 #[va, vb] w (AddPost ZA ZB w) := by
  obtain ⟨okA, ascA, _, lA0⟩ := knotsErr_ok kA
  obtain ⟨okB, ascB, _, lB0⟩ := knotsErr_ok kB
  have lzA : 0 < ZA.length := by rw [List.length_map] at lA0; exact lA0
  have lzB : 0 < ZB.length := by rw [List.length_map] at lB0; exact lB0
  have hszA := szOk_of okA
  have hszB := szOk_of okB
  have HCA := Lib.hid (fun w' (hb : Below w.heap.size w w') => ranges_CheckKnots va _ w' (hw.below hb) (hA.below hb) hszA)
  have HCB := Lib.hid (fun w' (hb : Below w.heap.size w w') => ranges_CheckKnots vb _ w' (hw.below hb) (hB.below hb) hszB)
  rw [kA] at HCA
  rw [kB] at HCB
  have HVA := Lib.hid (fun (x : TP) w' (hb : Below w.heap.size w w') => ranges_value va _ x.1 (ratV x.1) (ratV_isR x.2) (by have := ratB_size x.2; omega) w' (hw.below hb) (hA.below hb) okA ascA (by rw [List.length_map]; omega) lA0)
  have HVB := Lib.hid (fun (x : TP) w' (hb : Below w.heap.size w w') => ranges_value vb _ x.1 (ratV x.1) (ratV_isR x.2) (by have := ratB_size x.2; omega) w' (hw.below hb) (hB.below hb) okB ascB (by rw [List.length_map]; omega) lB0)
  have HCC := Lib.hid (fun (B : Nat) (w' : World) (hb : Below w.heap.size w w') (hBl : B < w'.heap.size) (h0 : w'.cell? ⟨B, 0, none⟩ = some va) (h1 : w'.cell? ⟨B, 1, none⟩ = some vb) => slices_concat B 2 va vb _ _ w' hBl h0 h1 (hA.below hb) (hB.below hb) lA0 lB0 (by rw [List.length_map]; omega) (by rw [List.length_map]; omega))
  have HS := Lib.hid hs
  obtain ⟨f, hf⟩ : ∃ f, f = sumP (ZA.map (·.1)) (ZB.map (·.1)) := ⟨_, rfl⟩
  have HF := Lib.hid hf
  have hfx : ∀ x : TP, (f x).1 = x.1 ∧ (f x).2 = tx (valueV (ZA.map (·.1)) (ratV x.1) + valueV (ZB.map (·.1)) (ratV x.1)) := fun x => by rw [hf]; exact ⟨rfl, rfl⟩
  have HFX := Lib.hid hfx
  unfold AddPost
  rw [← hf]
  have hsum : ZA.map (·.1) ++ ZB.map (·.1) = (ZA ++ ZB).map (·.1) := by rw [List.map_append]
  rw [hsum] at HCC
  have hZl : (ZA ++ ZB).length ≤ 100 := by rw [List.length_append]; omega
  have hZ0 : 0 < (ZA ++ ZB).length := by rw [List.length_append]; omega
  generalize valueV (ZA.map (·.1)) = VA at *
  generalize valueV (ZB.map (·.1)) = VB at *
  obtain ⟨pa, ca, rfl, hza⟩ := hA
  obtain ⟨pb, cb, rfl, hzb⟩ := hB
  clear hza hzb hfx hf hsum hs hszA hszB okA okB ascA ascB kA kB lA0 lB0 lzA lzB hl
  generalize (ZA.map (·.1)).length = na at *
  generalize (ZB.map (·.1)).length = nb at *
  generalize ZA ++ ZB = Z at *
  unfold CatPost at HCC
  unfold ValuePost at HVA HVB
  have hbw := Below.refl w.heap.size w
  go_enter Tryz.func51, Tryz.ntmps51
  go_wp2_with fail
  refine (HCA.out _ hbw).mono ?_
  rintro e w1 ⟨rfl, hb1⟩
  go_wp2_with fail
  refine (HCB.out _ hb1).mono ?_
  rintro e w2 ⟨rfl, hb2⟩
  have hb02 := hb1.trans (hb2.mono hb1.size)
  have hb3 := alloc_below w2 (Obj.cells #[.slice pa na ca, .slice pb nb cb] 51)
  have c0 := alloc_cells w2 #[.slice pa na ca, .slice pb nb cb] 51 0 (by simp)
  have c1 := alloc_cells w2 #[.slice pa na ca, .slice pb nb cb] 51 1 (by simp)
  have HC := Lib.hid (HCC.out w2.heap.size _ (hb02.trans (hb3.mono hb02.size)) (by simp) c0 c1)
  clear c0 c1
  go_wp2_with fail
  refine HC.out.mono ?_
  rintro e w3 ⟨v3, rfl, hp3, hb3'⟩
  have hb03 := hb02.trans ((hb3.trans (hb3'.mono hb3.size)).mono hb02.size)
  obtain ⟨p3, c3, rfl, hc3, hm3, hxx⟩ := hp3
  obtain ⟨b, off, rfl, hbl, hcell⟩ := hxx (by rw [List.length_map]; exact hZ0)
  rw [List.length_map]
  have HST0 := Lib.hid (AtSt.zero w3)
  clear hxx hb3 hb3' hc3
  go_wp2_with fail
  go_loopw [8, 10, 29] (fun ov _ iv wr => ∃ (k : Nat) (vv : Value), k ≤ Z.length ∧ AtSt (Z.take k) w3 vv wr ∧ vv = ov ∧ iv = .int .i64 (k : Int)) (fun _ _ iv _ => Z.length - (intOf iv).toNat)
  case atStart => exact ⟨0, _, Nat.zero_le _, HST0.out, rfl, rfl⟩
  case round =>
    obtain ⟨k, ov, hk2, hst, rfl, rfl⟩ := hrel
    have hown := hst.1
    have hbr := hst.2
    by_cases hk : k < Z.length
    · have hkl : (Z.take k).length = k := by rw [List.length_take]; omega
      rw [hkl] at hown
      obtain ⟨d0, d1⟩ := hcell k (by rw [List.length_map]; exact hk)
      simp only [List.getElem_map] at d0 d1
      rw [← hbr.cell (p := ⟨b, off + k * 2, none⟩) hbl] at d0
      rw [← hbr.cell (p := ⟨b, off + k * 2 + 1, none⟩) hbl] at d1
      have hkn : decide ((k : Int) < (Z.length : Int)) = true := decide_eq_true (by omega)
      have i1 : (0 : Int) ≤ (k : Int) := by omega
      have i2 : (k : Int) < (Z.length : Int) := by omega
      have hba := alloc_below wr (Obj.cells #[.string Z[k].1.1, .string Z[k].1.2] 97)
      have e0 := alloc_cells wr #[.string Z[k].1.1, .string Z[k].1.2] 97 0 (by simp)
      have e1 := alloc_cells wr #[.string Z[k].1.1, .string Z[k].1.2] 97 1 (by simp)
      have HPUT := Lib.hid (fun (v' : Value) (w' : World) (ho : w'.ownsRow w3.heap.size 31 1 v' (k + 1) (cellsT (atsT (Z.take k)) ++ [.string Z[k].1.1])) (hb : Below w3.heap.size w3 w') => show AtSt (Z.take (k + 1)) w3 v' w' by
        rw [List.take_succ_eq_append_getElem hk]
        exact AtSt.put Z[k] (by rw [hkl]; exact ho) hb)
      generalize Z[k] = x at *
      have HOI := Lib.hid hown
      clear hown hst hkl hcell
      generalize cellsT (atsT (Z.take k)) = xs at *
      go_upto_region 11 with fail
      generalize wr.alloc (Obj.cells #[.string x.1.1, .string x.1.2] 97) = wA at hba e0 e1 ⊢
      have HOA := Lib.hid (owns_below HOI.out hba)
      have hbA := hbr.trans (hba.mono hbr.size)
      have hsA := hbA.size
      go_wp2_with (at_builtin; refine app_new slText rfl _ _ rfl w3.heap.size _ k _ rfl HOA.out 1 1 _ rfl rfl (oneOne _) (by omega) (by decide) hsA _ rfl ?_; intro v1 w9 hown2 hb9; have HO2 := Lib.hid hown2; clear hown2)
      refine ⟨⟨k + 1, v1, hk, HPUT.out _ _ HO2.out (hbA.trans hb9), rfl, int_succ k⟩, ?_⟩
      show Z.length - ((k : Int) + 1).toNat < Z.length - ((k : Int)).toNat
      omega
    · have hkn : decide ((k : Int) < (Z.length : Int)) = false := decide_eq_false (by omega)
      have hkz : k = Z.length := by omega
      subst hkz
      rw [List.take_length] at hown
      obtain ⟨E, hE⟩ : ∃ E, E = atsT Z := ⟨_, rfl⟩
      have hEl : E.length = Z.length := by rw [hE, atsT_len]
      rw [← hE, ← hEl] at hown
      obtain ⟨n, hn⟩ : ∃ n, n = E.length - 1 := ⟨_, rfl⟩
      rw [show E.length = n + 1 by omega] at hown
      obtain ⟨g, cp, rfl⟩ := ownsRow_succ hown
      rw [← show E.length = n + 1 by omega] at hown
      obtain ⟨g1, g2, g3, g4, _, _⟩ := owns_row_cells1 hown
      have hH := holdsT_of_owns hown
      have hb0r := hb03.trans (hbr.mono hb03.size)
      have hs3 := hb03.size
      have HSO := Lib.hid (sort_texts g 0 cp E.toArray wr (hw.below hb0r) (Nat.le_trans (hw.below hb03).big g1) g2 hH (by simp; omega))
      simp only [List.size_toArray] at HSO
      unfold SortT at HSO
      have HEE := Lib.hid hE
      rw [show n + 1 = E.length by omega]
      clear hn hown hst hH hE hcell hk2 hkn
      obtain ⟨n1, hn1⟩ : ∃ n1, E.length = n1 := ⟨_, rfl⟩
      rw [hn1] at HSO g3 ⊢
      have HN1 := Lib.hid hn1
      have HEL := Lib.hid hEl
      have hn1b : n1 ≤ 100 := by omega
      clear hn1 hEl
      go_wp2_with fail
      refine HSO.out.mono ?_
      rintro e w4 ⟨rfl, d', hds, hdp, hdo, hdh, hb4, hg4, _⟩
      have hn1 := HN1.out
      have hd1 : d'.size = E.length := by rw [hds]; simp
      have hcm := compact_texts g 0 cp d' w4 hdh (by omega) (by omega)
      obtain ⟨e1, e2, e3⟩ := ends_sorted (E := E) (d' := d') hd1 hdp hdo
      rw [hd1] at hcm e1 e2 e3
      unfold CompT at hcm
      rw [hd1, hn1] at hcm
      rw [hn1] at e1 e2 e3
      have HCM := Lib.hid hcm
      have hgb := hb4.mono g1
      clear hcm hdh hdo hdp hds hd1
      generalize compactUpTo d' n1 = C at *
      have E1 := Lib.hid e1
      have E2 := Lib.hid e2
      clear e1 e2 hn1
      have hb04 := hb0r.trans (hgb.mono hs3)
      go_wp2_with fail
      refine HCM.out.mono ?_
      rintro e w5 ⟨rfl, hcc, hb5, _⟩
      have HCC2 := Lib.hid hcc
      have hb05 := hb04.trans (hb5.mono (Nat.le_trans hs3 g1))
      have hg5 : g < w5.heap.size := Nat.lt_of_lt_of_le hg4 hb5.size
      have HS0 := Lib.hid (SmSt.zero f C w5 w5 (Below.refl _ _))
      clear hcc
      go_wp2_with fail
      go_loopw [11, 13, 44] (fun ov _ iv wq => ∃ (k : Nat) (vv : Value), SmSt f C w5 k vv wq ∧ vv = ov ∧ iv = .int .i64 (k : Int)) (fun _ _ iv _ => C.length - (intOf iv).toNat)
      case atStart => exact ⟨0, _, HS0.out, rfl, rfl⟩
      case round =>
        obtain ⟨k, ov, hst, rfl, rfl⟩ := hrel
        obtain ⟨hk2, hown, hb5q⟩ := hst
        have hbq := hb05.trans (hb5q.mono hb05.size)
        by_cases hk : k < C.length
        · have hc0 := HCC2.out k hk
          rw [Nat.zero_add] at hc0
          rw [← hb5q.cell (p := ⟨g, k, none⟩) hg5] at hc0
          have hkn : decide ((k : Int) < (C.length : Int)) = true := decide_eq_true (by omega)
          have i1 : (0 : Int) ≤ (k : Int) := by omega
          have i2 : (k : Int) < (C.length : Int) := by omega
          have HPUT := Lib.hid (fun (v' : Value) (w' : World) => @SmSt.put f C w5 k v' w' hk)
          obtain ⟨f1, f2⟩ := HFX.out C[k]
          have HF2 := Lib.hid f2
          rw [f1, f2] at HPUT
          unfold encT at hc0
          generalize C[k] = x at *
          have hxs := ratB_size x.2
          have HOWN := Lib.hid hown
          clear hown f1 f2
          go_wp2_with fail
          refine (HVA.out x _ hbq).mono ?_
          rintro e w6 ⟨r1, rfl, hr1, hrs1, hb6⟩
          have HR1 := Lib.hid hr1
          have hb06 := hbq.trans (hb6.mono hbq.size)
          clear hr1
          go_wp2_with fail
          refine (HVB.out x _ hb06).mono ?_
          rintro e w7 ⟨r2, rfl, hr2, hrs2, hb7⟩
          have HR2 := Lib.hid hr2
          have hb07 := hb06.trans (hb7.mono hb06.size)
          clear hr2
          go_wp2_with fail
          refine (rational_Add r1 r2 _ _ HR1.out HR2.out (by omega) (by omega) w7 (hw.below hb07)).mono ?_
          rintro e w8 ⟨r, rfl, hr, hb8⟩
          obtain rfl : r = tx (VA (ratV x.1) + VB (ratV x.1)) := hr.unique (isR_mk _)
          have hb08 := hb07.trans (hb8.mono hb07.size)
          have hbq8 : Below wr.heap.size wr w8 := (hb6.trans (hb7.mono hb6.size)).trans (hb8.mono (by have := hb6.size; have := hb7.size; omega))
          have HO8 := Lib.hid (owns_below HOWN.out hbq8)
          have hs8 : w5.heap.size ≤ w8.heap.size := Nat.le_trans hb5q.size hbq8.size
          have h58 := hb5q.trans (hbq8.mono hb5q.size)
          generalize tx (VA (ratV x.1) + VB (ratV x.1)) = t at *
          clear hr HOWN
          go_wp2_with (at_builtin; refine app_new slKnotA rfl _ _ rfl w5.heap.size _ k _ rfl HO8.out 1 1 _ rfl rfl (oneTwo _ _) (by omega) (by decide) hs8 _ rfl ?_; intro v1 w9 hown2 hb9; have HO2 := Lib.hid hown2; clear hown2)
          refine ⟨⟨k + 1, v1, HPUT.out _ _ HO2.out (h58.trans hb9), rfl, int_succ k⟩, ?_⟩
          show C.length - ((k : Int) + 1).toNat < C.length - ((k : Int)).toNat
          omega
        · have hkn : decide ((k : Int) < (C.length : Int)) = false := decide_eq_false (by omega)
          have hkz : k = C.length := by omega
          subst hkz
          rw [List.take_length] at hown
          have hrows : wr.ownsRow w5.heap.size 97 2 ov (C.map f).length (cellsS (C.map f)) := by rw [List.length_map]; exact hown
          have hpc := pairs_of_cells hrows
          have HPC := Lib.hid hpc
          have HKN := Lib.hid (ranges_knots ov (C.map f) wr (hw.below hbq) hpc (fun p hp => by
            obtain ⟨x, hx, rfl⟩ := List.mem_map.1 hp
            rw [(HFX.out x).2]
            have := HS.out x (by rw [← HEE.out]; exact (E2.out x).1 hx)
            simpa using this) (by rw [List.length_map]; have := HN1.out; omega))
          obtain ⟨pv, cv, rfl, hzz⟩ := hpc
          clear hzz hown hrows
          generalize (C.map f).length = nc at *
          go_wp2_with fail
          refine HKN.out.mono ?_
          rintro e w6 ⟨rfl, hb6⟩
          go_wp2
          go_ret2
          exact ⟨_, C, rfl, E1.out, fun x => (E2.out x).trans (by rw [HEE.out]), HPC.out.below hb6, hbq.trans (hb6.mono hbq.size)⟩
end Go.Proofs.YtbogpbjddaoeiaaGreatDoor
