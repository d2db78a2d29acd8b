import Derived.Test.YtbogpbjddaoeiaaGreatDoorEndsPZ
namespace Go.Proofs.YtbogpbjddaoeiaaGreatDoor
open Go.RowKit Go.Shelf Go.Sort Go.Lib
/-- what is behind k of the two unions -/
def preL (LA LB : List RP) : Nat → List RP
  | 0 => []
  | 1 => LA
  | _ => LA ++ LB
theorem preL_step {LA LB : List RP} {va vb : Value} {w : World} {B k : Nat} (hk : k < 2) (h0 : w.cell? ⟨B, 0, none⟩ = some va) (h1 : w.cell? ⟨B, 1, none⟩ = some vb) (hA : Pairs w va (LA.map (·.1))) (hB : Pairs w vb (LB.map (·.1))) (la : LA.length ≤ 1000) (lb : LB.length ≤ 1000) :
    ∃ (u : Value) (R : List RP), w.cell? ⟨B, k, none⟩ = some u ∧ Pairs w u (R.map (·.1)) ∧ R.length ≤ 1000 ∧ (preL LA LB k).length ≤ 1000 ∧ preL LA LB (k + 1) = preL LA LB k ++ R := by
  match k, hk with
  | 0, _ => exact ⟨va, LA, h0, hA, la, Nat.zero_le _, rfl⟩
  | 1, _ => exact ⟨vb, LB, h1, hB, lb, la, rfl⟩
theorem EnSt.zero (w : World) : EnSt [] w (.slice none 0 0) w := ⟨World.ownsRow_nil _ _ _ _, Below.refl _ _⟩
theorem compactT_empty (a : Option Addr) (c : Nat) (w : World) : Calls Tryz.prog 96 #[.slice a 0 c] w fun e w' => e = .returned (.slice a 0 c) ∧ w = w' := by
  go_enter Tryz.func96, Tryz.ntmps96
  go_wp2
  go_ret
  exact ⟨rfl, rfl⟩
set_option maxRecDepth 100000 in
set_option maxHeartbeats 8000000 in
theorem ranges_ends (B cap : Nat) (va vb : Value) (LA LB : List RP) (w : World) (hw : Good w) (hBl : B < w.heap.size) (h0 : w.cell? ⟨B, 0, none⟩ = some va) (h1 : w.cell? ⟨B, 1, none⟩ = some vb)
    (hA : Pairs w va (LA.map (·.1))) (hB : Pairs w vb (LB.map (·.1))) (la : LA.length ≤ 1000) (lb : LB.length ≤ 1000) :
    Calls Tryz.prog 171 #[.slice (some ⟨B, 0, none⟩) 2 cap] w (EndsTP (LA ++ LB) w) := by
  have HST0 := Lib.hid (EnSt.zero w)
  have HSTEP := Lib.hid (fun k (hk : k < 2) => preL_step hk h0 h1 hA hB la lb)
  have hall : (LA ++ LB).length ≤ 2000 := by rw [List.length_append]; omega
  clear h0 h1 hA hB
  go_enter Tryz.func171, Tryz.ntmps171
  go_wp2_with fail
  go_loopw [3, 10] (fun ov iv wr => ∃ (k : Nat) (vv : Value), k ≤ 2 ∧ EnSt (preL LA LB k) w vv wr ∧ vv = ov ∧ iv = .int .i64 (k : Int)) (fun _ iv _ => 2 - (intOf iv).toNat)
  case atStart => exact ⟨0, _, Nat.zero_le _, HST0.out, rfl, rfl⟩
  case round =>
    obtain ⟨k, ov, hk2, hst, rfl, rfl⟩ := hrel
    have HST := Lib.hid hst
    have hbr := hst.2
    clear hst
    by_cases hk : k < 2
    · obtain ⟨u, R, hu, hR, hRl, hpl, hnx⟩ := HSTEP.out k hk
      have HNX := Lib.hid hnx
      have HR := Lib.hid hR
      obtain ⟨p, c, rfl, hc, hm, hxx⟩ := hR
      have hxx' : 0 < R.length → _ := fun h => hxx (by rw [List.length_map]; exact h)
      simp only [List.length_map] at hc
      rw [← hbr.cell (p := ⟨B, k, none⟩) hBl] at hu
      have hkn : decide ((k : Int) < (2 : Int)) = true := decide_eq_true (by omega)
      have i1 : (0 : Int) ≤ (k : Int) := by omega
      have i2 : (k : Int) < (2 : Int) := by omega
      obtain ⟨P, hP⟩ : ∃ P, P = preL LA LB k := ⟨_, rfl⟩
      rw [← hP] at HST HNX hpl
      have HST1 := Lib.hid (show EnSt (P ++ R.take 0) w ov wr by rw [List.take_zero, List.append_nil]; exact HST.out)
      obtain ⟨nl, hnl⟩ : ∃ nl, (R.map (·.1)).length = nl := ⟨_, rfl⟩
      have hnR : R.length = nl := by rw [← hnl, List.length_map]
      rw [hnl] at hu
      have hnl0 := Lib.hid hnl
      clear hnx hP hnl
      go_wp2_with fail
      go_loopw [3, 16] (fun ov iv wi => ∃ (j : Nat) (vv : Value), j ≤ R.length ∧ EnSt (P ++ R.take j) w vv wi ∧ vv = ov ∧ iv = .int .i64 (j : Int)) (fun _ iv _ => R.length - (intOf iv).toNat)
      case atStart => exact ⟨0, ov, Nat.zero_le _, HST1.out, rfl, rfl⟩
      case round =>
        obtain ⟨j, ov2, hj2, hst2, rfl, rfl⟩ := hrel
        have hbi := hst2.2
        have hown := hst2.1
        have hlen := endsT_len (P ++ R.take j)
        rw [List.length_append, List.length_take] at hlen
        by_cases hj : j < R.length
        · obtain ⟨b, off, rfl, hbl, hcell⟩ := hxx' (by omega)
          obtain ⟨c0, c1⟩ := hcell j (by rw [List.length_map]; exact hj)
          simp only [List.getElem_map] at c0 c1
          rw [← hbi.cell (p := ⟨b, off + j * 2, none⟩) hbl] at c0
          rw [← hbi.cell (p := ⟨b, off + j * 2 + 1, none⟩) hbl] at c1
          have hjn : decide ((j : Int) < (nl : Int)) = true := decide_eq_true (by omega)
          have j1 : (0 : Int) ≤ (j : Int) := by omega
          have j2 : (j : Int) < (nl : Int) := by omega
          have hba := alloc_below wr (Obj.cells #[.string R[j].1.1, .string R[j].1.2] 33)
          have hpa := PartAt.alloc R[j].1.1 R[j].1.2 wr 33
          have HTK := Lib.hid (show P ++ R.take (j + 1) = (P ++ R.take j) ++ [R[j]] by rw [List.take_succ_eq_append_getElem hj, List.append_assoc])
          generalize R[j] = x at *
          have HPUT := Lib.hid (fun (v' : Value) (w' : World) => @EnSt.put (P ++ R.take j) w v' w' x)
          clear hcell hxx hxx' hst2
          obtain ⟨n8, hn8⟩ : ∃ n8, (endsT (P ++ R.take j)).length = n8 := ⟨_, rfl⟩
          rw [hn8] at hown hlen HPUT
          have hk8 : (n8 + 2) * 16 ≤ 140737488355328 := by omega
          generalize cellsT (endsT (P ++ R.take j)) = xs at *
          clear hn8 hlen
          have HOI := Lib.hid hown
          clear hown
          go_upto_region 8 with fail
          generalize wr.alloc (Obj.cells #[.string x.1.1, .string x.1.2] 33) = wA at hba hpa ⊢
          have HOA := Lib.hid (owns_below HOI.out hba)
          have hbA := hbi.trans (hba.mono hbi.size)
          have hsA := hbA.size
          obtain ⟨hp0, hp1, hp2⟩ := hpa
          go_wp2_with (at_builtin; refine app_new slText rfl _ _ rfl w.heap.size _ n8 _ rfl HOA.out 2 2 _ rfl rfl (oneTwo _ _) hk8 (by decide) hsA _ rfl ?_; intro v1 w9 hown2 hb9; have HO2 := Lib.hid hown2; clear hown2)
          refine ⟨⟨j + 1, v1, hj, ?_, rfl, int_succ j⟩, ?_⟩
          · rw [HTK.out]
            exact HPUT.out _ _ HO2.out (hbA.trans hb9)
          · show R.length - ((j : Int) + 1).toNat < R.length - ((j : Int)).toNat
            omega
        · have hjn : decide ((j : Int) < (nl : Int)) = false := decide_eq_false (by omega)
          have HE := Lib.hid (show EnSt (preL LA LB (k + 1)) w ov2 wr by rw [HNX.out]; rw [show R.take j = R from List.take_of_length_le (by omega)] at hst2; exact hst2)
          clear hst2 hown
          go_wp2
          refine ⟨⟨k + 1, ov2, hk, HE.out, rfl, int_succ k⟩, ?_⟩
          show 2 - ((k : Int) + 1).toNat < 2 - ((k : Int)).toNat
          omega
    · obtain rfl : k = 2 := by omega
      have hkn : decide ((2 : Int) < (2 : Int)) = false := by decide
      have hst : EnSt (LA ++ LB) w ov wr := HST.out
      obtain ⟨hown, _⟩ := hst
      have hel := endsT_len (LA ++ LB)
      have HEL := Lib.hid hel
      by_cases h0 : (endsT (LA ++ LB)).length = 0
      · have HNIL := Lib.hid (List.eq_nil_of_length_eq_zero h0)
        obtain ⟨a0, cp0, rfl, hcp⟩ : ∃ a0 cp0, ov = .slice a0 0 cp0 ∧ cp0 ≤ maxLen := by
          rcases hown.2 with ⟨h, _⟩ | ⟨g', cap', _, h, _, _, _, hm, _⟩
          · exact ⟨none, 0, h, by decide⟩
          · rw [h0] at h
            exact ⟨_, _, h, hm⟩
        have HRET := Lib.hid (fun (w' : World) (hb : Below w.heap.size w w') => show EndsTP (LA ++ LB) w (.returned (.slice a0 0 cp0)) w' from ⟨_, [], rfl, List.Pairwise.nil, fun x => by rw [HNIL.out], Nat.zero_le _, ⟨a0, cp0, rfl, Nat.zero_le _, hcp, fun h => (Nat.lt_irrefl _ h).elim⟩, hb⟩)
        clear hown hel h0
        go_wp2_with fail
        have hs := AnyF.slices_SortFunc_none (ρ := sortTextN_ren) sortTextN a0 cp0 (.func (.func 70) #[] #[]) wr
        change Calls Tryz.prog 95 _ _ _ at hs
        refine hs.mono ?_
        clear hs
        rintro e w2 ⟨rfl, rfl⟩
        go_wp2_with fail
        refine (compactT_empty a0 cp0 _).mono ?_
        rintro e w3 ⟨rfl, rfl⟩
        go_wp2
        go_ret
        exact HRET.out _ hbr
      · obtain ⟨E, hE⟩ : ∃ E, E = endsT (LA ++ LB) := ⟨_, rfl⟩
        rw [← hE] at hown h0 hel HEL
        obtain ⟨n, hn⟩ : ∃ n, n = E.length - 1 := ⟨_, rfl⟩
        rw [show E.length = n + 1 by omega] at hown
        obtain ⟨g, cp, rfl⟩ := ownsRow_succ hown
        rw [← show E.length = n + 1 by omega] at hown
        obtain ⟨g1, g2, g3, g4, ⟨cs, hcs⟩, _⟩ := owns_row_cells1 hown
        have hH := holdsT_of_owns hown
        have HSO := Lib.hid (sort_texts g 0 cp E.toArray wr (hw.below hbr) (Nat.le_trans hw.big g1) g2 hH (by simp; omega))
        simp only [List.size_toArray] at HSO
        have HCS := Lib.hid hcs
        have HEE := Lib.hid hE
        clear hH hcs hE
        unfold SortT at HSO
        rw [show n + 1 = E.length by omega]
        have h8 : E.length ≤ 4611686018427387903 := by omega
        clear hn hel h0 hown hall
        obtain ⟨n1, hn1⟩ : ∃ n1, E.length = n1 := ⟨_, rfl⟩
        rw [hn1] at HSO ⊢
        have HN1 := Lib.hid hn1
        clear hn1
        go_wp2_with fail
        refine HSO.out.mono ?_
        have hn1 := HN1.out
        rintro e w2 ⟨rfl, d', hds, hdp, hdo, hdh, hb2, hg2, hkt⟩
        have hcm := compact_texts g 0 cp d' w2 hdh (by rw [hds]; simp; omega) (by rw [hds]; simpa using g3)
        rw [show d'.size = E.length by rw [hds]; simp] at hcm
        have HCM := Lib.hid hcm
        unfold CompT at HCM
        have HKT := Lib.hid (hkt _ _ _ HCS.out)
        obtain ⟨e1, e2, e3⟩ := ends_sorted (E := E) (d' := d') (by rw [hds]; simp) hdp hdo
        rw [show d'.size = E.length by rw [hds]; simp] at e1 e2 e3
        rw [show d'.size = E.length by rw [hds]; simp] at HCM
        have hgb := hb2.mono g1
        have hb02 := hbr.trans hgb
        clear hcm hdh hdo hdp hds hkt
        generalize hC : compactUpTo d' E.length = C at *
        have E1 := Lib.hid e1
        have E2 := Lib.hid e2
        rw [hn1] at HCM
        clear e1 e2 hC hn1 hb2 hg2
        go_wp2_with fail
        refine HCM.out.mono ?_
        rintro e w3 ⟨rfl, hcc, hb3, hk3⟩
        have HCC := Lib.hid hcc
        clear hcc
        have hb03 := hb02.trans (hb3.mono g1)
        obtain ⟨c1, hc1⟩ := HKT.out
        obtain ⟨c2, hc2⟩ := hk3 _ _ _ hc1
        have HC2 := Lib.hid hc2
        clear hc1 hc2 hk3 HKT
        go_wp2
        go_ret
        refine ⟨_, C, rfl, E1.out, fun x => (E2.out x).trans (by rw [HEE.out]), ?_, ⟨_, cp, rfl, by omega, g4, fun _ => ⟨g, rfl, g1, ⟨_, _, HC2.out⟩, fun i hi => ?_⟩⟩, hb03⟩
        · have := HEL.out
          omega
        · have := HCC.out i hi
          rw [Nat.zero_add] at this
          exact this
end Go.Proofs.YtbogpbjddaoeiaaGreatDoor
