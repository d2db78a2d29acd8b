import Derived.Test.YtbogpbjddaoeiaaGreatDoorPlainQZ
import Derived.Test.YtbogpbjddaoeiaaGreatDoorAddsPZ
import Derived.Test.YtbogpbjddaoeiaaGreatDoorEqKZ
import Derived.Test.YtbogpbjddaoeiaaGreatDoorOfEZ
import Derived.Test.YtbogpbjddaoeiaaGreatDoorHeldAZ
namespace Go.Proofs.YtbogpbjddaoeiaaGreatDoor
open Go.RowKit Go.Shelf
open Go.Lib (decDigits itoa nDigits)
/-- a slice of texts comes back, and no error -/
def OkList (L : List Pair) (w : World) (e : Ending) (w' : World) : Prop := ∃ v, e = .returned (.tuple #[v, .int .i64 0]) ∧ Pairs w' v L ∧ Below w.heap.size w w'
theorem rps_of {L : List Pair} (h : AllOk L) : ∃ Z : List RP, Z.map (·.1) = L := by
  induction L with
  | nil => exact ⟨[], rfl⟩
  | cons p L ih =>
    obtain ⟨Z, hZ⟩ := ih fun q hq => h q (List.mem_cons_of_mem _ hq)
    exact ⟨⟨p, h p (List.mem_cons_self ..)⟩ :: Z, by rw [List.map_cons, hZ]⟩
/-- what is known of a description's knots -/
structure Fn (Q : List QP) : Prop where
  fr : FrAll Q
  hv : Halved Q
  asc : AscQ Q
  pos : 0 < Q.length
  len : Q.length ≤ 8
theorem Fn.of {D : List Duo} (h : ∀ d ∈ D, okDuo d) : Fn (ptsQ D) := ⟨ptsQ_fr h, halved_ptsQ h, ptsQ_asc D, (ptsQ_len D).1, (ptsQ_len D).2⟩
theorem Fn.rats {Q : List QP} (h : Fn Q) : rats (Q.map textP) = Q := texts_rats h.fr
theorem Fn.err {Q : List QP} (h : Fn Q) : knotsErr (Q.map textP) = 0 := texts_err h.fr h.asc h.pos (by have := h.len; omega)
theorem add_fn {F G : List QP} (hF : Fn F) (hG : Fn G) (u1 u2 : Value) (w : World) (hw : Good w) (h1 : Pairs w u1 (F.map textP)) (h2 : Pairs w u2 (G.map textP)) :
    Calls Tryz.prog 51 #[u1, u2] w (OkList ((addF F G).map textP) w) := by
  obtain ⟨ZA, eA⟩ := rps_of (texts_ok hF.fr)
  obtain ⟨ZB, eB⟩ := rps_of (texts_ok hG.fr)
  have lA : ZA.length = F.length := by have := congrArg List.length eA; rwa [List.length_map, List.length_map] at this
  have lB : ZB.length = G.length := by have := congrArg List.length eB; rwa [List.length_map, List.length_map] at this
  have := hF.len
  have := hG.len
  refine (ranges_Add u1 u2 ZA ZB w hw (by rw [eA]; exact h1) (by rw [eB]; exact h2) (by rw [eA]; exact hF.err) (by rw [eB]; exact hG.err) (by omega) (add_right hF.hv hG.hv hF.asc hG.asc hF.pos hG.pos eA eB hF.rats hG.rats)).mono ?_
  rintro e w' ⟨v, E, he, hE, hm, hp, hb⟩
  rw [add_same hF.asc hG.asc eA eB hF.rats hG.rats hE hm] at hp
  exact ⟨v, he, hp, hb⟩
theorem Fn.sum {F G : List QP} (hF : Fn F) (hG : Fn G) : FrW (addF F G) ∧ AscQ (addF F G) ∧ 0 < (addF F G).length ∧ (addF F G).length ≤ 16 :=
  ⟨addF_fr hF.hv hG.hv hF.asc hG.asc hF.pos hG.pos, addF_asc hF.asc hG.asc, addF_pos hF.asc hG.asc hF.pos, by have := addF_len hF.asc hG.asc; have := hF.len; have := hG.len; omega⟩
theorem simp_fn {S : List QP} (hS : FrW S) (aS : AscQ S) (l0 : 0 < S.length) (l1 : S.length ≤ 16) (u : Value) (w : World) (hw : Good w) (h : Pairs w u (S.map textP)) :
    Calls Tryz.prog 52 #[u] w (OkList ((simpG (slopeQ S) S).map textP) w) := by
  refine (ranges_Simplify u _ w hw h (texts_errW hS aS l0 (by omega))).mono ?_
  rintro e w' ⟨v, he, hp, hb⟩
  have e1 : slopeV (S.map textP) = slopeQ S := by funext n; rw [slopeV_rats, texts_ratsW hS]
  rw [e1, simpG_map] at hp
  exact ⟨v, he, hp, hb⟩
theorem simpG_fr {S : List QP} (hS : FrW S) (s : Nat → Rat) : FrW (simpG s S) := fun p hp => hS p (simpG_mem p hp)
def RetA (w : World) (e : Ending) (w' : World) : Prop := e = .returned (.bool true) ∧ Below w.heap.size w w'
set_option maxRecDepth 100000 in
set_option maxHeartbeats 16000000 in
theorem law_RangesAdds (hT : NeqT 97) (va vb : Value) (DA DB : List Duo) (w : World) (hw : Good w) (hA : Duos w va DA) (hB : Duos w vb DB) :
    Calls Tryz.prog 9 #[va, vb] w (RetA w) := by
  have HKN := Lib.hid (fun w' (hb : Below w.heap.size w w') => law_known w' (hw.below hb))
  have HPA := Lib.hid (fun w' (hb : Below w.heap.size w w') => law_points va DA w' (hA.below hb))
  have HPB := Lib.hid (fun w' (hb : Below w.heap.size w w') => law_points vb DB w' (hB.below hb))
  have hF := Fn.of hA.ok
  have hG := Fn.of hB.ok
  obtain ⟨pa, ca, rfl, hca, hma, hza⟩ := hA
  obtain ⟨pb, cb, rfl, hcb, hmb, hzb⟩ := hB
  clear hza hzb
  by_cases h8 : 8 < DA.length
  · have e1 : decide ((8 : Int) < (DA.length : Int)) = true := decide_eq_true (by omega)
    clear HPA HPB hF hG h8
    generalize DA.length = na at *
    generalize DB.length = nb at *
    go_enter Tryz.func9, Tryz.ntmps9
    go_wp2_with fail
    refine (HKN.out w (Below.refl _ _)).mono ?_
    rintro e w1 ⟨rfl, hb1⟩
    go_wp2_with fail
    refine (HKN.out w1 hb1).mono ?_
    rintro e w2 ⟨rfl, hb2⟩
    go_wp2
    go_ret
    exact ⟨rfl, hb1.trans (hb2.mono hb1.size)⟩
  · have e1 : decide ((8 : Int) < (DA.length : Int)) = false := decide_eq_false (by omega)
    by_cases h9 : 8 < DB.length
    · have e2 : decide ((8 : Int) < (DB.length : Int)) = true := decide_eq_true (by omega)
      clear HPA HPB hF hG h8 h9
      generalize DA.length = na at *
      generalize DB.length = nb at *
      go_enter Tryz.func9, Tryz.ntmps9
      go_wp2_with fail
      refine (HKN.out w (Below.refl _ _)).mono ?_
      rintro e w1 ⟨rfl, hb1⟩
      go_wp2_with fail
      refine (HKN.out w1 hb1).mono ?_
      rintro e w2 ⟨rfl, hb2⟩
      go_wp2
      go_ret
      exact ⟨rfl, hb1.trans (hb2.mono hb1.size)⟩
    · have e2 : decide ((8 : Int) < (DB.length : Int)) = false := decide_eq_false (by omega)
      clear h8 h9
      unfold PtsPost at HPA HPB
      generalize ptsQ DA = F at *
      generalize ptsQ DB = G at *
      have hlF := hF.len
      have hlG := hG.len
      obtain ⟨hS1, hS2, hS3, hS4⟩ := Fn.sum hF hG
      have HDF := Lib.hid (fun (i : Nat) (hi : i < F.length) => (hF.hv.all _ (List.getElem_mem hi)).1)
      have HDG := Lib.hid (fun (i : Nat) (hi : i < G.length) => (hG.hv.all _ (List.getElem_mem hi)).1)
      have CF0 := Lib.hid (fun (t : Rat) (ht : Dn 96 2 t) w' u (h : Quads w' u F) => ref_Value u F t w' h hF.fr hF.asc ((ht.fr (by decide)).mono (by decide) (by decide)) (by omega) hF.pos)
      have CG0 := Lib.hid (fun (t : Rat) (ht : Dn 96 2 t) w' u (h : Quads w' u G) => ref_Value u G t w' h hG.fr hG.asc ((ht.fr (by decide)).mono (by decide) (by decide)) (by omega) hG.pos)
      have CA0 := Lib.hid (fun (t : Rat) (ht : Dn 96 2 t) w' => ref_Add (valueQ F t) (valueQ G t) 268800000 3360 268800000 3360 w' ((hF.hv.value hF.asc (ht.mono (B' := 192) (by decide)) hF.pos).fr (by decide)) ((hG.hv.value hG.asc (ht.mono (B' := 192) (by decide)) hG.pos).fr (by decide)) (by decide) (by decide))
      have CL0 := Lib.hid (fun (s t : Rat) (hs : Dn 96 2 s) (ht : Dn 96 2 t) w' => ref_Less s t 192 2 192 2 w' (hs.fr (by decide)) (ht.fr (by decide)) (by decide))
      have HKF := Lib.hid (fun w' u (h : Quads w' u F) => law_knots u F w' h hF.fr (by omega))
      have HKG := Lib.hid (fun w' u (h : Quads w' u G) => law_knots u G w' h hG.fr (by omega))
      have HADD := Lib.hid (fun w' u1 u2 (hg : Good w') h1 h2 => add_fn hF hG u1 u2 w' hg h1 h2)
      have HSIM := Lib.hid (fun w' u (hg : Good w') h => simp_fn hS1 hS2 hS3 hS4 u w' hg h)
      have HKS := Lib.hid (fun w' u (h : Quads w' u (addF F G)) => law_knotsW u (addF F G) w' h hS1 (by omega))
      have HRS := Lib.hid (fun w' u (h : Quads w' u (addF F G)) => ref_Simplify u (addF F G) w' h hS1 hS2 (by omega) hS3)
      have HKT := Lib.hid (fun w' u (h : Quads w' u (simpG (slopeQ (addF F G)) (addF F G))) => law_knotsW u _ w' h (simpG_fr hS1 _) (by have := simpG_len (slopeQ (addF F G)) (addF F G); omega))
      have HSK := Lib.hid (fun w' u1 u2 (L : List Pair) (h1 : Pairs w' u1 L) (h2 : Pairs w' u2 L) => (by
        have := law_sameKnots hT u1 u2 L L w' h1 h2
        rw [decide_eq_true (show L = L from rfl)] at this
        exact this : Calls Tryz.prog 53 #[u1, u2] w' fun e w'' => e = .returned (.bool true) ∧ Below w'.heap.size w' w''))
      unfold FracPost fracV at CF0 CG0
      unfold fracV at CA0 CL0
      unfold OkList at HADD HSIM
      unfold KntPost at HKF HKG HKS HKT
      unfold RSimpPost at HRS
      have hF0 := hF.pos
      have hG0 := hG.pos
      have HALL := Lib.hid (show (addAts F G).length ≤ 16 by have := addAts_len hF.asc hG.asc; omega)
      clear hF hG hS1 hS2 hS3 hS4
      generalize DA.length = na at *
      generalize DB.length = nb at *
      go_enter Tryz.func9, Tryz.ntmps9
      go_wp2_with fail
      refine (HKN.out w (Below.refl _ _)).mono ?_
      rintro e w1 ⟨rfl, hb1⟩
      go_wp2_with fail
      refine (HPA.out w1 hb1).mono ?_
      rintro e w2 ⟨v2, rfl, hq2, hb2⟩
      have hb02 := hb1.trans (hb2.mono hb1.size)
      obtain ⟨pf, cf, rfl, hcf, hmf, _⟩ := id hq2
      have HQF2 := Lib.hid hq2
      clear hq2
      go_wp2_with fail
      refine (HPB.out w2 hb02).mono ?_
      rintro e w3 ⟨v3, rfl, hq3, hb3⟩
      have hb03 := hb02.trans (hb3.mono hb02.size)
      obtain ⟨pg, cg, rfl, hcg, hmg, hxg⟩ := id hq3
      have HQG := Lib.hid hq3
      have HQF := Lib.hid (HQF2.out.below hb3)
      obtain ⟨pf', cf', hvf, _, _, hxf⟩ := id HQF.out
      simp only [Value.slice.injEq, true_and] at hvf
      obtain ⟨rfl, rfl⟩ := hvf
      obtain ⟨b1, off1, rfl, hbl1, hcell1⟩ := hxf hF0
      obtain ⟨b2, off2, rfl, hbl2, hcell2⟩ := hxg hG0
      have HST0 := Lib.hid (AdSt.zero F G w3 w3 (Below.refl _ _))
      clear hq3 hxf hxg hb2 hb3 HQF2 HPA HPB
      go_wp2_with fail
      go_loopw [7, 8, 9, 10] (fun ov iv kv _ wr => ∃ (i k : Nat) (vv : Value), AdSt F G w3 i k vv wr ∧ vv = ov ∧ iv = .int .i64 (i : Int) ∧ kv = .int .i64 (k : Int)) (fun _ iv kv _ _ => F.length + G.length - ((intOf iv).toNat + (intOf kv).toNat))
      case atStart => exact ⟨0, 0, _, HST0.out, rfl, rfl, rfl⟩
      case round =>
        obtain ⟨i, k, ov, hst, rfl, rfl, rfl⟩ := hrel
        have HST := Lib.hid hst
        have hiF := hst.hi
        have hkG := hst.hk
        have hbr := hst.low
        clear hst
        by_cases hi : i < F.length
        · by_cases hk : k < G.length
          · obtain ⟨P, hP, hown⟩ := HST.out.pre
            have hPl := Nat.le_trans (mem_len hP) HALL.out
            obtain ⟨xs, hxs⟩ : ∃ xs, xs = cellsQ (P.map (sumV F G)) := ⟨_, rfl⟩
            obtain ⟨n8, hn8⟩ : ∃ n8, n8 = P.length := ⟨_, rfl⟩
            rw [← hn8, ← hxs] at hown
            have HPUT := Lib.hid (fun (i' k' : Nat) (t : Rat) (hn : NextAt F G i k i' k' t) (v' : Value) (w' : World) (ho : w'.ownsRow w3.heap.size 66 4 v' (n8 + 1) (xs ++ [.int .i64 t.num, .int .i64 (t.den : Int), .int .i64 (valueQ F t + valueQ G t).num, .int .i64 ((valueQ F t + valueQ G t).den : Int)])) (hb : Below w3.heap.size w3 w') => AdSt.put hP hn (by rw [← hn8, ← hxs]; exact ho) hb)
            rw [← hn8] at hPl
            clear hP hxs hn8
            have HOW := Lib.hid hown
            clear hown
            obtain ⟨wA, hwA⟩ : ∃ wA, wA = wr.alloc (Obj.cells #[.int .i64 0, .int .i64 0] 47) := ⟨_, rfl⟩
            have hbA : Below wr.heap.size wr wA := by rw [hwA]; exact alloc_below _ _
            have hpA : wA.heap[wr.heap.size]? = some (.cells #[.int .i64 0, .int .i64 0] 47 (0, 0)) := by rw [hwA]; exact World.alloc_heap_new _ _
            have hbrA := hbr.trans (hbA.mono hbr.size)
            have HWA := Lib.hid hwA
            clear hwA
            have hsr := hbr.size
            have hb1A : b1 < wA.heap.size := Nat.lt_of_lt_of_le hbl1 hbrA.size
            obtain ⟨c0, c1, _, _⟩ := hcell1 i hi
            rw [← hbrA.cell (p := ⟨b1, off1 + i * 4, none⟩) hbl1] at c0
            rw [← hbrA.cell (p := ⟨b1, off1 + i * 4 + 1, none⟩) hbl1] at c1
            have i1 : (0 : Int) ≤ (i : Int) := by omega
            have i2 : (i : Int) < (F.length : Int) := by omega
            have hdF := HDF.out i hi
            have hb2A : b2 < wA.heap.size := Nat.lt_of_lt_of_le hbl2 hbrA.size
            obtain ⟨d0, d1, _, _⟩ := hcell2 k hk
            rw [← hbrA.cell (p := ⟨b2, off2 + k * 4, none⟩) hbl2] at d0
            rw [← hbrA.cell (p := ⟨b2, off2 + k * 4 + 1, none⟩) hbl2] at d1
            have j1 : (0 : Int) ≤ (k : Int) := by omega
            have j2 : (k : Int) < (G.length : Int) := by omega
            have hdG := HDG.out k hk
            have hin : decide ((i : Int) < (F.length : Int)) = true := decide_eq_true (by omega)
            have hkn : decide ((k : Int) < (G.length : Int)) = true := decide_eq_true (by omega)
            have hin2 : ((i : Int) == (F.length : Int)) = false := by simp; omega
            have hkn2 : ((k : Int) == (G.length : Int)) = false := by simp; omega
            obtain ⟨lt1, hlt1⟩ : ∃ lt1 : Bool, lt1 = decide (F[i].1 < G[k].1) := ⟨_, rfl⟩
            obtain ⟨lt2, hlt2⟩ : ∃ lt2 : Bool, lt2 = decide (G[k].1 < F[i].1) := ⟨_, rfl⟩
            have HLT1 := Lib.hid hlt1
            have HLT2 := Lib.hid hlt2
            have HL1 := Lib.hid (CL0.out _ _ hdF hdG)
            have HL2 := Lib.hid (CL0.out _ _ hdG hdF)
            have HCF := Lib.hid (And.intro c0 c1)
            have HCG := Lib.hid (And.intro d0 d1)
            obtain ⟨p0, hp0⟩ : ∃ p0, p0 = F[i].1.num := ⟨_, rfl⟩
            obtain ⟨p1, hp1⟩ : ∃ p1, p1 = ((F[i].1.den : Nat) : Int) := ⟨_, rfl⟩
            obtain ⟨q0, hq0⟩ : ∃ q0, q0 = G[k].1.num := ⟨_, rfl⟩
            obtain ⟨q1, hq1⟩ : ∃ q1, q1 = ((G[k].1.den : Nat) : Int) := ⟨_, rfl⟩
            rw [← hp0, ← hp1, ← hq0, ← hq1] at HL1 HL2
            rw [← hp0] at c0
            rw [← hp1] at c1
            rw [← hq0] at d0
            rw [← hq1] at d1
            have HP0 := Lib.hid hp0
            have HP1 := Lib.hid hp1
            have HQ0 := Lib.hid hq0
            have HQ1 := Lib.hid hq1
            clear hp0 hp1 hq0 hq1 hlt1 hlt2
            cases lt1
            · go_wp2_with fail
              rw [← HWA.out]
              go_region_held3 (fun W => W.cell? ⟨b1, off1 + i * 4, none⟩ = some (.int .i64 p0) ∧ W.cell? ⟨b1, off1 + i * 4 + 1, none⟩ = some (.int .i64 p1) ∧ W.cell? ⟨b2, off2 + k * 4, none⟩ = some (.int .i64 q0) ∧ W.cell? ⟨b2, off2 + k * 4 + 1, none⟩ = some (.int .i64 q1) ∧ Below wA.heap.size wA W)
                (first | exact FourS.drew c0 c1 d0 d1 | (refine FourS.keep hb1A hb1A hb2A hb2A (by assumption) ?_; first | assumption | (go_split_ands; refine ⟨?_, ?_, ?_, ?_, ?_⟩ <;> assumption)))
                ((go_at_call 49; refine (HL1.out _).mono ?_; rintro e wY ⟨rfl, hbwY⟩; rw [← HLT1.out]))
              have hlowwY : Below wA.heap.size wA wY := FourS.low (by assumption)
              have c0y := (hlowwY.cell (p := ⟨b1, off1 + i * 4, none⟩) hb1A).trans c0
              have c1y := (hlowwY.cell (p := ⟨b1, off1 + i * 4 + 1, none⟩) hb1A).trans c1
              have d0y := (hlowwY.cell (p := ⟨b2, off2 + k * 4, none⟩) hb2A).trans d0
              have d1y := (hlowwY.cell (p := ⟨b2, off2 + k * 4 + 1, none⟩) hb2A).trans d1
              have hb1y := Nat.lt_of_lt_of_le hb1A hlowwY.size
              have hb2y := Nat.lt_of_lt_of_le hb2A hlowwY.size
              clear c0 c1 d0 d1
              cases lt2
              · go_wp2_with fail
                go_region_held3 (fun W => W.cell? ⟨b1, off1 + i * 4, none⟩ = some (.int .i64 p0) ∧ W.cell? ⟨b1, off1 + i * 4 + 1, none⟩ = some (.int .i64 p1) ∧ W.cell? ⟨b2, off2 + k * 4, none⟩ = some (.int .i64 q0) ∧ W.cell? ⟨b2, off2 + k * 4 + 1, none⟩ = some (.int .i64 q1) ∧ Below wY.heap.size wY W)
                  (first | exact FourS.drew c0y c1y d0y d1y | (refine FourS.keep hb1y hb1y hb2y hb2y (by assumption) ?_; first | assumption | (go_split_ands; refine ⟨?_, ?_, ?_, ?_, ?_⟩ <;> assumption)))
                  ((go_at_call 49; refine (HL2.out _).mono ?_; rintro e wZ ⟨rfl, hbwZ⟩; rw [← HLT2.out]))
                have hlowwZ : Below wY.heap.size wY wZ := FourS.low (by assumption)
                have hbZ := hlowwY.trans (hlowwZ.mono hlowwY.size)
                obtain ⟨c0, c1⟩ := HCF.out
                clear c0y c1y d0y d1y hlowwY hlowwZ
                have HNX := Lib.hid (HPUT.out (i + 1) (k + 1) _ (next_both hi hk (of_decide_eq_false HLT1.out.symm) (of_decide_eq_false HLT2.out.symm)))
                have CF := Lib.hid (CF0.out F[i].1 hdF)
                have CG := Lib.hid (CG0.out F[i].1 hdF)
                have CA := Lib.hid (CA0.out F[i].1 hdF)
                rw [← hbZ.cell (p := ⟨b1, off1 + i * 4, none⟩) hb1A] at c0
                rw [← hbZ.cell (p := ⟨b1, off1 + i * 4 + 1, none⟩) hb1A] at c1
                have hpZ := (hbZ.block _ (lt_of_some hpA)).trans hpA
                obtain ⟨_, _, _, _⟩ := two_cells hpZ
                generalize valueQ F F[i].1 + valueQ G F[i].1 = sm at *
                generalize valueQ F F[i].1 = vf at *
                generalize valueQ G F[i].1 = vg at *
                generalize F[i].1 = t at *
                generalize sm.num = s0 at *
                generalize (sm.den : Int) = s1 at *
                generalize vf.num = f0 at *
                generalize (vf.den : Int) = f1 at *
                generalize vg.num = g0 at *
                generalize (vg.den : Int) = g1 at *
                generalize t.num = t0 at *
                generalize (t.den : Int) = t1 at *
                obtain rfl : t0 = p0 := HP0.out.symm
                obtain rfl : t1 = p1 := HP1.out.symm
                obtain ⟨wC, hwC⟩ : ∃ wC, wC = (wZ.setCell ⟨wr.heap.size, 0, none⟩ (.int .i64 t0)).setCell ⟨wr.heap.size, 1, none⟩ (.int .i64 t1) := ⟨_, rfl⟩
                have hpC : wC.heap[wr.heap.size]? = some (.cells #[.int .i64 t0, .int .i64 t1] 47 (0, 0)) := by rw [hwC]; exact two_set1 (.int .i64 t1) (two_set0 (.int .i64 t0) hpZ)
                have hbrZ : Below wr.heap.size wr wZ := hbA.trans (hbZ.mono hbA.size)
                have hbrC : Below wr.heap.size wr wC := by rw [hwC]; exact (hbrZ.setCell (p := ⟨wr.heap.size, 0, none⟩) (Nat.le_refl _) _).setCell (p := ⟨wr.heap.size, 1, none⟩) (Nat.le_refl _) _
                have hb3C := hbr.trans (hbrC.mono hbr.size)
                have HOC := Lib.hid (owns_below HOW.out hbrC)
                have HFC := Lib.hid (HQF.out.below hb3C)
                have HGC := Lib.hid (HQG.out.below hb3C)
                obtain ⟨u0, u1, _, _⟩ := two_cells hpC
                have hBC := lt_of_some hpC
                have HWC := Lib.hid hwC
                obtain ⟨ik, hik⟩ : ∃ ik, ik = slKnotF := ⟨_, rfl⟩
                obtain ⟨i0, hi0, hz0, hz1, hz2⟩ := info_parts slKnotF.info
                clear hwC hpZ hpC hpA hik
                go_wp2_with fail
                rw [← HWC.out]
                refine wp_held_list (fun W' => Below wC.heap.size wC W') [0, 1, 2, 3, 5, 6] [4, 7, 8, 9, 10] 11 (by kernel_rfl) (by kernel_rfl) ⟨rfl, rfl, rfl, Nat.le_refl _, fun _ _ => rfl⟩ ?_
                iterate 6
                  refine wpTakeL_step rfl ?_ rfl ?_ ?_
                  rotate_left
                  · intro W' hS'
                    have s0 := (hS'.cell (p := ⟨wr.heap.size, 0, none⟩) hBC).trans u0
                    have s1 := (hS'.cell (p := ⟨wr.heap.size, 1, none⟩) hBC).trans u1
                    go_simp
                    try with_reducible rfl
                  try simp only [List.getElem_toArray, List.getElem_cons_zero, List.getElem_cons_succ, Act.put, List.setIfInBounds_toArray, List.set_cons_zero, List.set_cons_succ]
                have hH0 : Below wC.heap.size wC wC.drew := ⟨rfl, rfl, rfl, Nat.le_refl _, fun _ _ => rfl⟩
                clear u0 u1
                refine wpKeepL_step rfl rfl (fun K hK => ?_)
                go_simp
                refine (CF.out _ _ (HFC.out.below hH0)).mono ?_
                rintro e wd ⟨rfl, hbwd⟩
                have hH1 := hH0.trans (hbwd.mono hH0.size)
                refine hK _ _ ⟨hH1, ?_⟩
                clear hK K
                try simp only [List.getElem_toArray, List.getElem_cons_zero, List.getElem_cons_succ, Act.put, List.setIfInBounds_toArray, List.set_cons_zero, List.set_cons_succ]
                refine wpKeepL_step rfl rfl (fun K hK => ?_)
                go_simp
                refine (CG.out _ _ (HGC.out.below hH1)).mono ?_
                rintro e we ⟨rfl, hbwe⟩
                have hH2 := hH1.trans (hbwe.mono hH1.size)
                refine hK _ _ ⟨hH2, ?_⟩
                clear hK K
                try simp only [List.getElem_toArray, List.getElem_cons_zero, List.getElem_cons_succ, Act.put, List.setIfInBounds_toArray, List.set_cons_zero, List.set_cons_succ]
                refine wpKeepL_step rfl rfl (fun K hK => ?_)
                go_simp
                refine (CA.out _).mono ?_
                rintro e wf ⟨rfl, hbwf⟩
                have hH3 := hH2.trans (hbwf.mono hH2.size)
                refine hK _ _ ⟨hH3, ?_⟩
                clear hK K
                try simp only [List.getElem_toArray, List.getElem_cons_zero, List.getElem_cons_succ, Act.put, List.setIfInBounds_toArray, List.set_cons_zero, List.set_cons_succ]
                refine wpKeepL_step rfl rfl (fun K hK => ?_)
                go_simp
                refine hK _ _ ⟨hH3, ?_⟩
                clear hK K
                try simp only [List.getElem_toArray, List.getElem_cons_zero, List.getElem_cons_succ, Act.put, List.setIfInBounds_toArray, List.set_cons_zero, List.set_cons_succ]
                refine wpKeepL_step rfl rfl (fun K hK => ?_)
                go_simp
                refine hK _ _ ⟨hH3.trans ((alloc_below _ _).mono hH3.size), ?_⟩
                clear hK K
                try simp only [List.getElem_toArray, List.getElem_cons_zero, List.getElem_cons_succ, Act.put, List.setIfInBounds_toArray, List.set_cons_zero, List.set_cons_succ]
                unfold wpKeepL
                simp only [List.drop_succ_cons, List.drop_zero]
                try simp only [List.getElem_toArray, List.getElem_cons_zero, List.getElem_cons_succ, Act.put, List.setIfInBounds_toArray, List.set_cons_zero, List.set_cons_succ]
                have hown4 := owns_below HOC.out hH3
                have hbw4 := hb3C.trans (hH3.mono hb3C.size)
                have hbs4 := hbw4.size
                clear hH0 hH1 hH2
                refine wpKeep_step rfl (fun K hK => ?_)
                refine wp_append_own _ (.tmp 107) (.tmp 117) 44 rfl w3.heap.size 66 i0 (.agg #[.int .i64 0, .int .i64 0, .int .i64 0, .int .i64 0]) 4 32 slKnotF.ht hi0 hz0 hz1 hz2 slKnotF.hzs slKnotF.hsz _ _ _ rfl (hown4.alloc _) ⟨wf.heap.size, 0, none⟩ 1 1 [.int .i64 t0, .int .i64 t1, .int .i64 s0, .int .i64 s1] rfl rfl (cell_four_new _ _ _ _ _ _) (by simp [Value.oneCell']) (by unfold maxLen; omega) (by omega) (by simp; omega) ?_
                intro v' w5 hown5 hgrow _
                have hb5 : Below w3.heap.size w3 w5 := (hbw4.trans ((alloc_below wf _).mono hbs4)).grown hgrow (by simp; omega) (fun g hg => (hown4.lt g hg).1)
                have HN := Lib.hid (HNX.out v' w5 hown5 hb5)
                clear hown5 hown4
                refine hK _ _ ⟨trivial, ?_⟩
                clear hK K
                try simp only [Act.put, List.setIfInBounds_toArray, List.set_cons_zero, List.set_cons_succ]
                refine wpKeep_step rfl (fun K hK => ?_)
                go_simp
                refine hK _ _ ⟨trivial, wpKeep_nil ?_⟩
                clear hK K
                try simp only [List.getElem_toArray, List.getElem_cons_zero, List.getElem_cons_succ, Act.put, List.setIfInBounds_toArray, List.set_cons_zero, List.set_cons_succ]
                refine NormalOnly.mk ?_
                go_wp2
                refine ⟨⟨(i + 1), (k + 1), v', HN.out, rfl, int_succ i, int_succ k⟩, ?_⟩
                show F.length + G.length - (((i : Int) + 1).toNat + ((k : Int) + 1).toNat) < F.length + G.length - (((i : Int)).toNat + ((k : Int)).toNat)
                omega
              · go_wp2_with fail
                go_region_held3 (fun W => W.cell? ⟨b1, off1 + i * 4, none⟩ = some (.int .i64 p0) ∧ W.cell? ⟨b1, off1 + i * 4 + 1, none⟩ = some (.int .i64 p1) ∧ W.cell? ⟨b2, off2 + k * 4, none⟩ = some (.int .i64 q0) ∧ W.cell? ⟨b2, off2 + k * 4 + 1, none⟩ = some (.int .i64 q1) ∧ Below wY.heap.size wY W)
                  (first | exact FourS.drew c0y c1y d0y d1y | (refine FourS.keep hb1y hb1y hb2y hb2y (by assumption) ?_; first | assumption | (go_split_ands; refine ⟨?_, ?_, ?_, ?_, ?_⟩ <;> assumption)))
                  ((go_at_call 49; refine (HL2.out _).mono ?_; rintro e wZ ⟨rfl, hbwZ⟩; rw [← HLT2.out]))
                have hlowwZ : Below wY.heap.size wY wZ := FourS.low (by assumption)
                have hbZ := hlowwY.trans (hlowwZ.mono hlowwY.size)
                obtain ⟨d0, d1⟩ := HCG.out
                clear c0y c1y d0y d1y hlowwY hlowwZ
                have HNX := Lib.hid (HPUT.out i (k + 1) _ (next_right2 hi hk (of_decide_eq_true HLT2.out.symm)))
                have CF := Lib.hid (CF0.out G[k].1 hdG)
                have CG := Lib.hid (CG0.out G[k].1 hdG)
                have CA := Lib.hid (CA0.out G[k].1 hdG)
                rw [← hbZ.cell (p := ⟨b2, off2 + k * 4, none⟩) hb2A] at d0
                rw [← hbZ.cell (p := ⟨b2, off2 + k * 4 + 1, none⟩) hb2A] at d1
                have hpZ := (hbZ.block _ (lt_of_some hpA)).trans hpA
                obtain ⟨_, _, _, _⟩ := two_cells hpZ
                generalize valueQ F G[k].1 + valueQ G G[k].1 = sm at *
                generalize valueQ F G[k].1 = vf at *
                generalize valueQ G G[k].1 = vg at *
                generalize G[k].1 = t at *
                generalize sm.num = s0 at *
                generalize (sm.den : Int) = s1 at *
                generalize vf.num = f0 at *
                generalize (vf.den : Int) = f1 at *
                generalize vg.num = g0 at *
                generalize (vg.den : Int) = g1 at *
                generalize t.num = t0 at *
                generalize (t.den : Int) = t1 at *
                obtain rfl : t0 = q0 := HQ0.out.symm
                obtain rfl : t1 = q1 := HQ1.out.symm
                obtain ⟨wC, hwC⟩ : ∃ wC, wC = (wZ.setCell ⟨wr.heap.size, 0, none⟩ (.int .i64 t0)).setCell ⟨wr.heap.size, 1, none⟩ (.int .i64 t1) := ⟨_, rfl⟩
                have hpC : wC.heap[wr.heap.size]? = some (.cells #[.int .i64 t0, .int .i64 t1] 47 (0, 0)) := by rw [hwC]; exact two_set1 (.int .i64 t1) (two_set0 (.int .i64 t0) hpZ)
                have hbrZ : Below wr.heap.size wr wZ := hbA.trans (hbZ.mono hbA.size)
                have hbrC : Below wr.heap.size wr wC := by rw [hwC]; exact (hbrZ.setCell (p := ⟨wr.heap.size, 0, none⟩) (Nat.le_refl _) _).setCell (p := ⟨wr.heap.size, 1, none⟩) (Nat.le_refl _) _
                have hb3C := hbr.trans (hbrC.mono hbr.size)
                have HOC := Lib.hid (owns_below HOW.out hbrC)
                have HFC := Lib.hid (HQF.out.below hb3C)
                have HGC := Lib.hid (HQG.out.below hb3C)
                obtain ⟨u0, u1, _, _⟩ := two_cells hpC
                have hBC := lt_of_some hpC
                have HWC := Lib.hid hwC
                obtain ⟨ik, hik⟩ : ∃ ik, ik = slKnotF := ⟨_, rfl⟩
                obtain ⟨i0, hi0, hz0, hz1, hz2⟩ := info_parts slKnotF.info
                clear hwC hpZ hpC hpA hik
                go_wp2_with fail
                rw [← HWC.out]
                refine wp_held_list (fun W' => Below wC.heap.size wC W') [0, 1, 2, 3, 5, 6] [4, 7, 8, 9, 10] 11 (by kernel_rfl) (by kernel_rfl) ⟨rfl, rfl, rfl, Nat.le_refl _, fun _ _ => rfl⟩ ?_
                iterate 6
                  refine wpTakeL_step rfl ?_ rfl ?_ ?_
                  rotate_left
                  · intro W' hS'
                    have s0 := (hS'.cell (p := ⟨wr.heap.size, 0, none⟩) hBC).trans u0
                    have s1 := (hS'.cell (p := ⟨wr.heap.size, 1, none⟩) hBC).trans u1
                    go_simp
                    try with_reducible rfl
                  try simp only [List.getElem_toArray, List.getElem_cons_zero, List.getElem_cons_succ, Act.put, List.setIfInBounds_toArray, List.set_cons_zero, List.set_cons_succ]
                have hH0 : Below wC.heap.size wC wC.drew := ⟨rfl, rfl, rfl, Nat.le_refl _, fun _ _ => rfl⟩
                clear u0 u1
                refine wpKeepL_step rfl rfl (fun K hK => ?_)
                go_simp
                refine (CF.out _ _ (HFC.out.below hH0)).mono ?_
                rintro e wd ⟨rfl, hbwd⟩
                have hH1 := hH0.trans (hbwd.mono hH0.size)
                refine hK _ _ ⟨hH1, ?_⟩
                clear hK K
                try simp only [List.getElem_toArray, List.getElem_cons_zero, List.getElem_cons_succ, Act.put, List.setIfInBounds_toArray, List.set_cons_zero, List.set_cons_succ]
                refine wpKeepL_step rfl rfl (fun K hK => ?_)
                go_simp
                refine (CG.out _ _ (HGC.out.below hH1)).mono ?_
                rintro e we ⟨rfl, hbwe⟩
                have hH2 := hH1.trans (hbwe.mono hH1.size)
                refine hK _ _ ⟨hH2, ?_⟩
                clear hK K
                try simp only [List.getElem_toArray, List.getElem_cons_zero, List.getElem_cons_succ, Act.put, List.setIfInBounds_toArray, List.set_cons_zero, List.set_cons_succ]
                refine wpKeepL_step rfl rfl (fun K hK => ?_)
                go_simp
                refine (CA.out _).mono ?_
                rintro e wf ⟨rfl, hbwf⟩
                have hH3 := hH2.trans (hbwf.mono hH2.size)
                refine hK _ _ ⟨hH3, ?_⟩
                clear hK K
                try simp only [List.getElem_toArray, List.getElem_cons_zero, List.getElem_cons_succ, Act.put, List.setIfInBounds_toArray, List.set_cons_zero, List.set_cons_succ]
                refine wpKeepL_step rfl rfl (fun K hK => ?_)
                go_simp
                refine hK _ _ ⟨hH3, ?_⟩
                clear hK K
                try simp only [List.getElem_toArray, List.getElem_cons_zero, List.getElem_cons_succ, Act.put, List.setIfInBounds_toArray, List.set_cons_zero, List.set_cons_succ]
                refine wpKeepL_step rfl rfl (fun K hK => ?_)
                go_simp
                refine hK _ _ ⟨hH3.trans ((alloc_below _ _).mono hH3.size), ?_⟩
                clear hK K
                try simp only [List.getElem_toArray, List.getElem_cons_zero, List.getElem_cons_succ, Act.put, List.setIfInBounds_toArray, List.set_cons_zero, List.set_cons_succ]
                unfold wpKeepL
                simp only [List.drop_succ_cons, List.drop_zero]
                try simp only [List.getElem_toArray, List.getElem_cons_zero, List.getElem_cons_succ, Act.put, List.setIfInBounds_toArray, List.set_cons_zero, List.set_cons_succ]
                have hown4 := owns_below HOC.out hH3
                have hbw4 := hb3C.trans (hH3.mono hb3C.size)
                have hbs4 := hbw4.size
                clear hH0 hH1 hH2
                refine wpKeep_step rfl (fun K hK => ?_)
                refine wp_append_own _ (.tmp 107) (.tmp 117) 44 rfl w3.heap.size 66 i0 (.agg #[.int .i64 0, .int .i64 0, .int .i64 0, .int .i64 0]) 4 32 slKnotF.ht hi0 hz0 hz1 hz2 slKnotF.hzs slKnotF.hsz _ _ _ rfl (hown4.alloc _) ⟨wf.heap.size, 0, none⟩ 1 1 [.int .i64 t0, .int .i64 t1, .int .i64 s0, .int .i64 s1] rfl rfl (cell_four_new _ _ _ _ _ _) (by simp [Value.oneCell']) (by unfold maxLen; omega) (by omega) (by simp; omega) ?_
                intro v' w5 hown5 hgrow _
                have hb5 : Below w3.heap.size w3 w5 := (hbw4.trans ((alloc_below wf _).mono hbs4)).grown hgrow (by simp; omega) (fun g hg => (hown4.lt g hg).1)
                have HN := Lib.hid (HNX.out v' w5 hown5 hb5)
                clear hown5 hown4
                refine hK _ _ ⟨trivial, ?_⟩
                clear hK K
                try simp only [Act.put, List.setIfInBounds_toArray, List.set_cons_zero, List.set_cons_succ]
                refine wpKeep_step rfl (fun K hK => ?_)
                go_simp
                refine hK _ _ ⟨trivial, wpKeep_nil ?_⟩
                clear hK K
                try simp only [List.getElem_toArray, List.getElem_cons_zero, List.getElem_cons_succ, Act.put, List.setIfInBounds_toArray, List.set_cons_zero, List.set_cons_succ]
                refine NormalOnly.mk ?_
                go_wp2
                refine ⟨⟨i, (k + 1), v', HN.out, rfl, rfl, int_succ k⟩, ?_⟩
                show F.length + G.length - (((i : Int)).toNat + ((k : Int) + 1).toNat) < F.length + G.length - (((i : Int)).toNat + ((k : Int)).toNat)
                omega
            · go_wp2_with fail
              rw [← HWA.out]
              go_region_held3 (fun W => W.cell? ⟨b1, off1 + i * 4, none⟩ = some (.int .i64 p0) ∧ W.cell? ⟨b1, off1 + i * 4 + 1, none⟩ = some (.int .i64 p1) ∧ W.cell? ⟨b2, off2 + k * 4, none⟩ = some (.int .i64 q0) ∧ W.cell? ⟨b2, off2 + k * 4 + 1, none⟩ = some (.int .i64 q1) ∧ Below wA.heap.size wA W)
                (first | exact FourS.drew c0 c1 d0 d1 | (refine FourS.keep hb1A hb1A hb2A hb2A (by assumption) ?_; first | assumption | (go_split_ands; refine ⟨?_, ?_, ?_, ?_, ?_⟩ <;> assumption)))
                ((go_at_call 49; refine (HL1.out _).mono ?_; rintro e wZ ⟨rfl, hbwZ⟩; rw [← HLT1.out]))
              have hlowwZ : Below wA.heap.size wA wZ := FourS.low (by assumption)
              have hbZ := hlowwZ
              clear c0 c1 d0 d1
              obtain ⟨c0, c1⟩ := HCF.out
              have HNX := Lib.hid (HPUT.out (i + 1) k _ (next_left2 hi hk (of_decide_eq_true HLT1.out.symm)))
              have CF := Lib.hid (CF0.out F[i].1 hdF)
              have CG := Lib.hid (CG0.out F[i].1 hdF)
              have CA := Lib.hid (CA0.out F[i].1 hdF)
              rw [← hbZ.cell (p := ⟨b1, off1 + i * 4, none⟩) hb1A] at c0
              rw [← hbZ.cell (p := ⟨b1, off1 + i * 4 + 1, none⟩) hb1A] at c1
              have hpZ := (hbZ.block _ (lt_of_some hpA)).trans hpA
              obtain ⟨_, _, _, _⟩ := two_cells hpZ
              generalize valueQ F F[i].1 + valueQ G F[i].1 = sm at *
              generalize valueQ F F[i].1 = vf at *
              generalize valueQ G F[i].1 = vg at *
              generalize F[i].1 = t at *
              generalize sm.num = s0 at *
              generalize (sm.den : Int) = s1 at *
              generalize vf.num = f0 at *
              generalize (vf.den : Int) = f1 at *
              generalize vg.num = g0 at *
              generalize (vg.den : Int) = g1 at *
              generalize t.num = t0 at *
              generalize (t.den : Int) = t1 at *
              obtain rfl : t0 = p0 := HP0.out.symm
              obtain rfl : t1 = p1 := HP1.out.symm
              obtain ⟨wC, hwC⟩ : ∃ wC, wC = (wZ.setCell ⟨wr.heap.size, 0, none⟩ (.int .i64 t0)).setCell ⟨wr.heap.size, 1, none⟩ (.int .i64 t1) := ⟨_, rfl⟩
              have hpC : wC.heap[wr.heap.size]? = some (.cells #[.int .i64 t0, .int .i64 t1] 47 (0, 0)) := by rw [hwC]; exact two_set1 (.int .i64 t1) (two_set0 (.int .i64 t0) hpZ)
              have hbrZ : Below wr.heap.size wr wZ := hbA.trans (hbZ.mono hbA.size)
              have hbrC : Below wr.heap.size wr wC := by rw [hwC]; exact (hbrZ.setCell (p := ⟨wr.heap.size, 0, none⟩) (Nat.le_refl _) _).setCell (p := ⟨wr.heap.size, 1, none⟩) (Nat.le_refl _) _
              have hb3C := hbr.trans (hbrC.mono hbr.size)
              have HOC := Lib.hid (owns_below HOW.out hbrC)
              have HFC := Lib.hid (HQF.out.below hb3C)
              have HGC := Lib.hid (HQG.out.below hb3C)
              obtain ⟨u0, u1, _, _⟩ := two_cells hpC
              have hBC := lt_of_some hpC
              have HWC := Lib.hid hwC
              obtain ⟨ik, hik⟩ : ∃ ik, ik = slKnotF := ⟨_, rfl⟩
              obtain ⟨i0, hi0, hz0, hz1, hz2⟩ := info_parts slKnotF.info
              clear hwC hpZ hpC hpA hik
              go_wp2_with fail
              rw [← HWC.out]
              refine wp_held_list (fun W' => Below wC.heap.size wC W') [0, 1, 2, 3, 5, 6] [4, 7, 8, 9, 10] 11 (by kernel_rfl) (by kernel_rfl) ⟨rfl, rfl, rfl, Nat.le_refl _, fun _ _ => rfl⟩ ?_
              iterate 6
                refine wpTakeL_step rfl ?_ rfl ?_ ?_
                rotate_left
                · intro W' hS'
                  have s0 := (hS'.cell (p := ⟨wr.heap.size, 0, none⟩) hBC).trans u0
                  have s1 := (hS'.cell (p := ⟨wr.heap.size, 1, none⟩) hBC).trans u1
                  go_simp
                  try with_reducible rfl
                try simp only [List.getElem_toArray, List.getElem_cons_zero, List.getElem_cons_succ, Act.put, List.setIfInBounds_toArray, List.set_cons_zero, List.set_cons_succ]
              have hH0 : Below wC.heap.size wC wC.drew := ⟨rfl, rfl, rfl, Nat.le_refl _, fun _ _ => rfl⟩
              clear u0 u1
              refine wpKeepL_step rfl rfl (fun K hK => ?_)
              go_simp
              refine (CF.out _ _ (HFC.out.below hH0)).mono ?_
              rintro e wd ⟨rfl, hbwd⟩
              have hH1 := hH0.trans (hbwd.mono hH0.size)
              refine hK _ _ ⟨hH1, ?_⟩
              clear hK K
              try simp only [List.getElem_toArray, List.getElem_cons_zero, List.getElem_cons_succ, Act.put, List.setIfInBounds_toArray, List.set_cons_zero, List.set_cons_succ]
              refine wpKeepL_step rfl rfl (fun K hK => ?_)
              go_simp
              refine (CG.out _ _ (HGC.out.below hH1)).mono ?_
              rintro e we ⟨rfl, hbwe⟩
              have hH2 := hH1.trans (hbwe.mono hH1.size)
              refine hK _ _ ⟨hH2, ?_⟩
              clear hK K
              try simp only [List.getElem_toArray, List.getElem_cons_zero, List.getElem_cons_succ, Act.put, List.setIfInBounds_toArray, List.set_cons_zero, List.set_cons_succ]
              refine wpKeepL_step rfl rfl (fun K hK => ?_)
              go_simp
              refine (CA.out _).mono ?_
              rintro e wf ⟨rfl, hbwf⟩
              have hH3 := hH2.trans (hbwf.mono hH2.size)
              refine hK _ _ ⟨hH3, ?_⟩
              clear hK K
              try simp only [List.getElem_toArray, List.getElem_cons_zero, List.getElem_cons_succ, Act.put, List.setIfInBounds_toArray, List.set_cons_zero, List.set_cons_succ]
              refine wpKeepL_step rfl rfl (fun K hK => ?_)
              go_simp
              refine hK _ _ ⟨hH3, ?_⟩
              clear hK K
              try simp only [List.getElem_toArray, List.getElem_cons_zero, List.getElem_cons_succ, Act.put, List.setIfInBounds_toArray, List.set_cons_zero, List.set_cons_succ]
              refine wpKeepL_step rfl rfl (fun K hK => ?_)
              go_simp
              refine hK _ _ ⟨hH3.trans ((alloc_below _ _).mono hH3.size), ?_⟩
              clear hK K
              try simp only [List.getElem_toArray, List.getElem_cons_zero, List.getElem_cons_succ, Act.put, List.setIfInBounds_toArray, List.set_cons_zero, List.set_cons_succ]
              unfold wpKeepL
              simp only [List.drop_succ_cons, List.drop_zero]
              try simp only [List.getElem_toArray, List.getElem_cons_zero, List.getElem_cons_succ, Act.put, List.setIfInBounds_toArray, List.set_cons_zero, List.set_cons_succ]
              have hown4 := owns_below HOC.out hH3
              have hbw4 := hb3C.trans (hH3.mono hb3C.size)
              have hbs4 := hbw4.size
              clear hH0 hH1 hH2
              refine wpKeep_step rfl (fun K hK => ?_)
              refine wp_append_own _ (.tmp 107) (.tmp 117) 44 rfl w3.heap.size 66 i0 (.agg #[.int .i64 0, .int .i64 0, .int .i64 0, .int .i64 0]) 4 32 slKnotF.ht hi0 hz0 hz1 hz2 slKnotF.hzs slKnotF.hsz _ _ _ rfl (hown4.alloc _) ⟨wf.heap.size, 0, none⟩ 1 1 [.int .i64 t0, .int .i64 t1, .int .i64 s0, .int .i64 s1] rfl rfl (cell_four_new _ _ _ _ _ _) (by simp [Value.oneCell']) (by unfold maxLen; omega) (by omega) (by simp; omega) ?_
              intro v' w5 hown5 hgrow _
              have hb5 : Below w3.heap.size w3 w5 := (hbw4.trans ((alloc_below wf _).mono hbs4)).grown hgrow (by simp; omega) (fun g hg => (hown4.lt g hg).1)
              have HN := Lib.hid (HNX.out v' w5 hown5 hb5)
              clear hown5 hown4
              refine hK _ _ ⟨trivial, ?_⟩
              clear hK K
              try simp only [Act.put, List.setIfInBounds_toArray, List.set_cons_zero, List.set_cons_succ]
              refine wpKeep_step rfl (fun K hK => ?_)
              go_simp
              refine hK _ _ ⟨trivial, wpKeep_nil ?_⟩
              clear hK K
              try simp only [List.getElem_toArray, List.getElem_cons_zero, List.getElem_cons_succ, Act.put, List.setIfInBounds_toArray, List.set_cons_zero, List.set_cons_succ]
              refine NormalOnly.mk ?_
              go_wp2
              refine ⟨⟨(i + 1), k, v', HN.out, rfl, int_succ i, rfl⟩, ?_⟩
              show F.length + G.length - (((i : Int) + 1).toNat + ((k : Int)).toNat) < F.length + G.length - (((i : Int)).toNat + ((k : Int)).toNat)
              omega
          · have hkG0 : k = G.length := by omega
            obtain ⟨P, hP, hown⟩ := HST.out.pre
            have hPl := Nat.le_trans (mem_len hP) HALL.out
            obtain ⟨xs, hxs⟩ : ∃ xs, xs = cellsQ (P.map (sumV F G)) := ⟨_, rfl⟩
            obtain ⟨n8, hn8⟩ : ∃ n8, n8 = P.length := ⟨_, rfl⟩
            rw [← hn8, ← hxs] at hown
            have HPUT := Lib.hid (fun (i' k' : Nat) (t : Rat) (hn : NextAt F G i k i' k' t) (v' : Value) (w' : World) (ho : w'.ownsRow w3.heap.size 66 4 v' (n8 + 1) (xs ++ [.int .i64 t.num, .int .i64 (t.den : Int), .int .i64 (valueQ F t + valueQ G t).num, .int .i64 ((valueQ F t + valueQ G t).den : Int)])) (hb : Below w3.heap.size w3 w') => AdSt.put hP hn (by rw [← hn8, ← hxs]; exact ho) hb)
            rw [← hn8] at hPl
            clear hP hxs hn8
            have HOW := Lib.hid hown
            clear hown
            obtain ⟨wA, hwA⟩ : ∃ wA, wA = wr.alloc (Obj.cells #[.int .i64 0, .int .i64 0] 47) := ⟨_, rfl⟩
            have hbA : Below wr.heap.size wr wA := by rw [hwA]; exact alloc_below _ _
            have hpA : wA.heap[wr.heap.size]? = some (.cells #[.int .i64 0, .int .i64 0] 47 (0, 0)) := by rw [hwA]; exact World.alloc_heap_new _ _
            have hbrA := hbr.trans (hbA.mono hbr.size)
            have HWA := Lib.hid hwA
            clear hwA
            have hsr := hbr.size
            have hb1A : b1 < wA.heap.size := Nat.lt_of_lt_of_le hbl1 hbrA.size
            obtain ⟨c0, c1, _, _⟩ := hcell1 i hi
            rw [← hbrA.cell (p := ⟨b1, off1 + i * 4, none⟩) hbl1] at c0
            rw [← hbrA.cell (p := ⟨b1, off1 + i * 4 + 1, none⟩) hbl1] at c1
            have i1 : (0 : Int) ≤ (i : Int) := by omega
            have i2 : (i : Int) < (F.length : Int) := by omega
            have hdF := HDF.out i hi
            have hin : decide ((i : Int) < (F.length : Int)) = true := decide_eq_true (by omega)
            have hkn2 : ((k : Int) == (G.length : Int)) = true := by simp; omega
            have HKG0 := Lib.hid hkG0
            clear hkG0
            go_wp2_with fail
            rw [← HWA.out]
            refine wp_held_list (fun W' => Below wA.heap.size wA W') [0, 1, 2, 3, 4, 5, 6, 7, 8, 9, 10, 11, 12, 13, 14, 15, 16, 17, 18, 19, 20, 21, 22] [] 23 (by kernel_rfl) (by kernel_rfl) ⟨rfl, rfl, rfl, Nat.le_refl _, fun _ _ => rfl⟩ ?_
            iterate 5
              refine wpTakeL_step rfl ?_ rfl ?_ ?_
              rotate_left
              · intro W' hS'
                go_simp
                try with_reducible rfl
              try simp only [List.getElem_toArray, List.getElem_cons_zero, List.getElem_cons_succ, Act.put, List.setIfInBounds_toArray, List.set_cons_zero, List.set_cons_succ]
            iterate 17
              refine wpTakeL_skip rfl rfl ?_
              try simp only [List.getElem_toArray, List.getElem_cons_zero, List.getElem_cons_succ, Act.put, List.setIfInBounds_toArray, List.set_cons_zero, List.set_cons_succ]
            iterate 1
              refine wpTakeL_step rfl ?_ rfl ?_ ?_
              rotate_left
              · intro W' hS'
                go_simp
                try with_reducible rfl
              try simp only [List.getElem_toArray, List.getElem_cons_zero, List.getElem_cons_succ, Act.put, List.setIfInBounds_toArray, List.set_cons_zero, List.set_cons_succ]
            unfold wpKeepL
            simp only [List.drop_succ_cons, List.drop_zero]
            try simp only [List.getElem_toArray, List.getElem_cons_zero, List.getElem_cons_succ, Act.put, List.setIfInBounds_toArray, List.set_cons_zero, List.set_cons_succ]
            refine wpKeep_step rfl (fun K hK => ?_)
            go_simp
            refine hK _ _ ⟨trivial, wpKeep_nil ?_⟩
            clear hK K
            try simp only [List.getElem_toArray, List.getElem_cons_zero, List.getElem_cons_succ, Act.put, List.setIfInBounds_toArray, List.set_cons_zero, List.set_cons_succ]
            refine NormalOnly.mk ?_
            obtain ⟨wZ, hwZ⟩ : ∃ wZ, wZ = wA.drew := ⟨_, rfl⟩
            have hbZ : Below wA.heap.size wA wZ := by rw [hwZ]; exact ⟨rfl, rfl, rfl, Nat.le_refl _, fun _ _ => rfl⟩
            rw [← hwZ]
            clear hwZ
            have HNX := Lib.hid (HPUT.out (i + 1) k _ (by rw [HKG0.out]; exact next_left1 hi))
            have CF := Lib.hid (CF0.out F[i].1 hdF)
            have CG := Lib.hid (CG0.out F[i].1 hdF)
            have CA := Lib.hid (CA0.out F[i].1 hdF)
            rw [← hbZ.cell (p := ⟨b1, off1 + i * 4, none⟩) hb1A] at c0
            rw [← hbZ.cell (p := ⟨b1, off1 + i * 4 + 1, none⟩) hb1A] at c1
            have hpZ := (hbZ.block _ (lt_of_some hpA)).trans hpA
            obtain ⟨_, _, _, _⟩ := two_cells hpZ
            generalize valueQ F F[i].1 + valueQ G F[i].1 = sm at *
            generalize valueQ F F[i].1 = vf at *
            generalize valueQ G F[i].1 = vg at *
            generalize F[i].1 = t at *
            generalize sm.num = s0 at *
            generalize (sm.den : Int) = s1 at *
            generalize vf.num = f0 at *
            generalize (vf.den : Int) = f1 at *
            generalize vg.num = g0 at *
            generalize (vg.den : Int) = g1 at *
            generalize t.num = t0 at *
            generalize (t.den : Int) = t1 at *
            obtain ⟨wC, hwC⟩ : ∃ wC, wC = (wZ.setCell ⟨wr.heap.size, 0, none⟩ (.int .i64 t0)).setCell ⟨wr.heap.size, 1, none⟩ (.int .i64 t1) := ⟨_, rfl⟩
            have hpC : wC.heap[wr.heap.size]? = some (.cells #[.int .i64 t0, .int .i64 t1] 47 (0, 0)) := by rw [hwC]; exact two_set1 (.int .i64 t1) (two_set0 (.int .i64 t0) hpZ)
            have hbrZ : Below wr.heap.size wr wZ := hbA.trans (hbZ.mono hbA.size)
            have hbrC : Below wr.heap.size wr wC := by rw [hwC]; exact (hbrZ.setCell (p := ⟨wr.heap.size, 0, none⟩) (Nat.le_refl _) _).setCell (p := ⟨wr.heap.size, 1, none⟩) (Nat.le_refl _) _
            have hb3C := hbr.trans (hbrC.mono hbr.size)
            have HOC := Lib.hid (owns_below HOW.out hbrC)
            have HFC := Lib.hid (HQF.out.below hb3C)
            have HGC := Lib.hid (HQG.out.below hb3C)
            obtain ⟨u0, u1, _, _⟩ := two_cells hpC
            have hBC := lt_of_some hpC
            have HWC := Lib.hid hwC
            obtain ⟨ik, hik⟩ : ∃ ik, ik = slKnotF := ⟨_, rfl⟩
            obtain ⟨i0, hi0, hz0, hz1, hz2⟩ := info_parts slKnotF.info
            clear hwC hpZ hpC hpA hik
            go_wp2_with fail
            rw [← HWC.out]
            refine wp_held_list (fun W' => Below wC.heap.size wC W') [0, 1, 2, 3, 5, 6] [4, 7, 8, 9, 10] 11 (by kernel_rfl) (by kernel_rfl) ⟨rfl, rfl, rfl, Nat.le_refl _, fun _ _ => rfl⟩ ?_
            iterate 6
              refine wpTakeL_step rfl ?_ rfl ?_ ?_
              rotate_left
              · intro W' hS'
                have s0 := (hS'.cell (p := ⟨wr.heap.size, 0, none⟩) hBC).trans u0
                have s1 := (hS'.cell (p := ⟨wr.heap.size, 1, none⟩) hBC).trans u1
                go_simp
                try with_reducible rfl
              try simp only [List.getElem_toArray, List.getElem_cons_zero, List.getElem_cons_succ, Act.put, List.setIfInBounds_toArray, List.set_cons_zero, List.set_cons_succ]
            have hH0 : Below wC.heap.size wC wC.drew := ⟨rfl, rfl, rfl, Nat.le_refl _, fun _ _ => rfl⟩
            clear u0 u1
            refine wpKeepL_step rfl rfl (fun K hK => ?_)
            go_simp
            refine (CF.out _ _ (HFC.out.below hH0)).mono ?_
            rintro e wd ⟨rfl, hbwd⟩
            have hH1 := hH0.trans (hbwd.mono hH0.size)
            refine hK _ _ ⟨hH1, ?_⟩
            clear hK K
            try simp only [List.getElem_toArray, List.getElem_cons_zero, List.getElem_cons_succ, Act.put, List.setIfInBounds_toArray, List.set_cons_zero, List.set_cons_succ]
            refine wpKeepL_step rfl rfl (fun K hK => ?_)
            go_simp
            refine (CG.out _ _ (HGC.out.below hH1)).mono ?_
            rintro e we ⟨rfl, hbwe⟩
            have hH2 := hH1.trans (hbwe.mono hH1.size)
            refine hK _ _ ⟨hH2, ?_⟩
            clear hK K
            try simp only [List.getElem_toArray, List.getElem_cons_zero, List.getElem_cons_succ, Act.put, List.setIfInBounds_toArray, List.set_cons_zero, List.set_cons_succ]
            refine wpKeepL_step rfl rfl (fun K hK => ?_)
            go_simp
            refine (CA.out _).mono ?_
            rintro e wf ⟨rfl, hbwf⟩
            have hH3 := hH2.trans (hbwf.mono hH2.size)
            refine hK _ _ ⟨hH3, ?_⟩
            clear hK K
            try simp only [List.getElem_toArray, List.getElem_cons_zero, List.getElem_cons_succ, Act.put, List.setIfInBounds_toArray, List.set_cons_zero, List.set_cons_succ]
            refine wpKeepL_step rfl rfl (fun K hK => ?_)
            go_simp
            refine hK _ _ ⟨hH3, ?_⟩
            clear hK K
            try simp only [List.getElem_toArray, List.getElem_cons_zero, List.getElem_cons_succ, Act.put, List.setIfInBounds_toArray, List.set_cons_zero, List.set_cons_succ]
            refine wpKeepL_step rfl rfl (fun K hK => ?_)
            go_simp
            refine hK _ _ ⟨hH3.trans ((alloc_below _ _).mono hH3.size), ?_⟩
            clear hK K
            try simp only [List.getElem_toArray, List.getElem_cons_zero, List.getElem_cons_succ, Act.put, List.setIfInBounds_toArray, List.set_cons_zero, List.set_cons_succ]
            unfold wpKeepL
            simp only [List.drop_succ_cons, List.drop_zero]
            try simp only [List.getElem_toArray, List.getElem_cons_zero, List.getElem_cons_succ, Act.put, List.setIfInBounds_toArray, List.set_cons_zero, List.set_cons_succ]
            have hown4 := owns_below HOC.out hH3
            have hbw4 := hb3C.trans (hH3.mono hb3C.size)
            have hbs4 := hbw4.size
            clear hH0 hH1 hH2
            refine wpKeep_step rfl (fun K hK => ?_)
            refine wp_append_own _ (.tmp 107) (.tmp 117) 44 rfl w3.heap.size 66 i0 (.agg #[.int .i64 0, .int .i64 0, .int .i64 0, .int .i64 0]) 4 32 slKnotF.ht hi0 hz0 hz1 hz2 slKnotF.hzs slKnotF.hsz _ _ _ rfl (hown4.alloc _) ⟨wf.heap.size, 0, none⟩ 1 1 [.int .i64 t0, .int .i64 t1, .int .i64 s0, .int .i64 s1] rfl rfl (cell_four_new _ _ _ _ _ _) (by simp [Value.oneCell']) (by unfold maxLen; omega) (by omega) (by simp; omega) ?_
            intro v' w5 hown5 hgrow _
            have hb5 : Below w3.heap.size w3 w5 := (hbw4.trans ((alloc_below wf _).mono hbs4)).grown hgrow (by simp; omega) (fun g hg => (hown4.lt g hg).1)
            have HN := Lib.hid (HNX.out v' w5 hown5 hb5)
            clear hown5 hown4
            refine hK _ _ ⟨trivial, ?_⟩
            clear hK K
            try simp only [Act.put, List.setIfInBounds_toArray, List.set_cons_zero, List.set_cons_succ]
            refine wpKeep_step rfl (fun K hK => ?_)
            go_simp
            refine hK _ _ ⟨trivial, wpKeep_nil ?_⟩
            clear hK K
            try simp only [List.getElem_toArray, List.getElem_cons_zero, List.getElem_cons_succ, Act.put, List.setIfInBounds_toArray, List.set_cons_zero, List.set_cons_succ]
            refine NormalOnly.mk ?_
            go_wp2
            refine ⟨⟨(i + 1), k, v', HN.out, rfl, int_succ i, rfl⟩, ?_⟩
            show F.length + G.length - (((i : Int) + 1).toNat + ((k : Int)).toNat) < F.length + G.length - (((i : Int)).toNat + ((k : Int)).toNat)
            omega
        · by_cases hk : k < G.length
          · have hiF0 : i = F.length := by omega
            obtain ⟨P, hP, hown⟩ := HST.out.pre
            have hPl := Nat.le_trans (mem_len hP) HALL.out
            obtain ⟨xs, hxs⟩ : ∃ xs, xs = cellsQ (P.map (sumV F G)) := ⟨_, rfl⟩
            obtain ⟨n8, hn8⟩ : ∃ n8, n8 = P.length := ⟨_, rfl⟩
            rw [← hn8, ← hxs] at hown
            have HPUT := Lib.hid (fun (i' k' : Nat) (t : Rat) (hn : NextAt F G i k i' k' t) (v' : Value) (w' : World) (ho : w'.ownsRow w3.heap.size 66 4 v' (n8 + 1) (xs ++ [.int .i64 t.num, .int .i64 (t.den : Int), .int .i64 (valueQ F t + valueQ G t).num, .int .i64 ((valueQ F t + valueQ G t).den : Int)])) (hb : Below w3.heap.size w3 w') => AdSt.put hP hn (by rw [← hn8, ← hxs]; exact ho) hb)
            rw [← hn8] at hPl
            clear hP hxs hn8
            have HOW := Lib.hid hown
            clear hown
            obtain ⟨wA, hwA⟩ : ∃ wA, wA = wr.alloc (Obj.cells #[.int .i64 0, .int .i64 0] 47) := ⟨_, rfl⟩
            have hbA : Below wr.heap.size wr wA := by rw [hwA]; exact alloc_below _ _
            have hpA : wA.heap[wr.heap.size]? = some (.cells #[.int .i64 0, .int .i64 0] 47 (0, 0)) := by rw [hwA]; exact World.alloc_heap_new _ _
            have hbrA := hbr.trans (hbA.mono hbr.size)
            have HWA := Lib.hid hwA
            clear hwA
            have hsr := hbr.size
            have hb2A : b2 < wA.heap.size := Nat.lt_of_lt_of_le hbl2 hbrA.size
            obtain ⟨d0, d1, _, _⟩ := hcell2 k hk
            rw [← hbrA.cell (p := ⟨b2, off2 + k * 4, none⟩) hbl2] at d0
            rw [← hbrA.cell (p := ⟨b2, off2 + k * 4 + 1, none⟩) hbl2] at d1
            have j1 : (0 : Int) ≤ (k : Int) := by omega
            have j2 : (k : Int) < (G.length : Int) := by omega
            have hdG := HDG.out k hk
            have hin : decide ((i : Int) < (F.length : Int)) = false := decide_eq_false (by omega)
            have hkn : decide ((k : Int) < (G.length : Int)) = true := decide_eq_true (by omega)
            have hin2 : ((i : Int) == (F.length : Int)) = true := by simp; omega
            have hkn2 : ((k : Int) == (G.length : Int)) = false := by simp; omega
            have HIF0 := Lib.hid hiF0
            clear hiF0
            go_wp2_with fail
            rw [← HWA.out]
            refine wp_held_list (fun W' => Below wA.heap.size wA W') [0, 1, 2, 3, 4, 5, 6, 7, 8, 9, 10, 11, 12, 13, 14, 15, 16, 17, 18, 19, 20, 21, 22] [] 23 (by kernel_rfl) (by kernel_rfl) ⟨rfl, rfl, rfl, Nat.le_refl _, fun _ _ => rfl⟩ ?_
            iterate 10
              refine wpTakeL_step rfl ?_ rfl ?_ ?_
              rotate_left
              · intro W' hS'
                go_simp
                try with_reducible rfl
              try simp only [List.getElem_toArray, List.getElem_cons_zero, List.getElem_cons_succ, Act.put, List.setIfInBounds_toArray, List.set_cons_zero, List.set_cons_succ]
            iterate 11
              refine wpTakeL_skip rfl rfl ?_
              try simp only [List.getElem_toArray, List.getElem_cons_zero, List.getElem_cons_succ, Act.put, List.setIfInBounds_toArray, List.set_cons_zero, List.set_cons_succ]
            iterate 2
              refine wpTakeL_step rfl ?_ rfl ?_ ?_
              rotate_left
              · intro W' hS'
                go_simp
                try with_reducible rfl
              try simp only [List.getElem_toArray, List.getElem_cons_zero, List.getElem_cons_succ, Act.put, List.setIfInBounds_toArray, List.set_cons_zero, List.set_cons_succ]
            unfold wpKeepL
            simp only [List.drop_succ_cons, List.drop_zero]
            try simp only [List.getElem_toArray, List.getElem_cons_zero, List.getElem_cons_succ, Act.put, List.setIfInBounds_toArray, List.set_cons_zero, List.set_cons_succ]
            refine wpKeep_step rfl (fun K hK => ?_)
            go_simp
            refine hK _ _ ⟨trivial, wpKeep_nil ?_⟩
            clear hK K
            try simp only [List.getElem_toArray, List.getElem_cons_zero, List.getElem_cons_succ, Act.put, List.setIfInBounds_toArray, List.set_cons_zero, List.set_cons_succ]
            refine NormalOnly.mk ?_
            obtain ⟨wY, hwY⟩ : ∃ wY, wY = wA.drew := ⟨_, rfl⟩
            have hbY : Below wA.heap.size wA wY := by rw [hwY]; exact ⟨rfl, rfl, rfl, Nat.le_refl _, fun _ _ => rfl⟩
            rw [← hwY]
            clear hwY
            go_wp2_with fail
            refine wp_held_list (fun W' => Below wY.heap.size wY W') [0, 1, 2, 3, 4, 5, 6, 7, 8, 9, 10, 11, 12, 13, 14, 15, 16] [] 17 (by kernel_rfl) (by kernel_rfl) ⟨rfl, rfl, rfl, Nat.le_refl _, fun _ _ => rfl⟩ ?_
            iterate 5
              refine wpTakeL_step rfl ?_ rfl ?_ ?_
              rotate_left
              · intro W' hS'
                go_simp
                try with_reducible rfl
              try simp only [List.getElem_toArray, List.getElem_cons_zero, List.getElem_cons_succ, Act.put, List.setIfInBounds_toArray, List.set_cons_zero, List.set_cons_succ]
            iterate 11
              refine wpTakeL_skip rfl rfl ?_
              try simp only [List.getElem_toArray, List.getElem_cons_zero, List.getElem_cons_succ, Act.put, List.setIfInBounds_toArray, List.set_cons_zero, List.set_cons_succ]
            iterate 1
              refine wpTakeL_step rfl ?_ rfl ?_ ?_
              rotate_left
              · intro W' hS'
                go_simp
                try with_reducible rfl
              try simp only [List.getElem_toArray, List.getElem_cons_zero, List.getElem_cons_succ, Act.put, List.setIfInBounds_toArray, List.set_cons_zero, List.set_cons_succ]
            unfold wpKeepL
            simp only [List.drop_succ_cons, List.drop_zero]
            try simp only [List.getElem_toArray, List.getElem_cons_zero, List.getElem_cons_succ, Act.put, List.setIfInBounds_toArray, List.set_cons_zero, List.set_cons_succ]
            refine wpKeep_step rfl (fun K hK => ?_)
            go_simp
            refine hK _ _ ⟨trivial, wpKeep_nil ?_⟩
            clear hK K
            try simp only [List.getElem_toArray, List.getElem_cons_zero, List.getElem_cons_succ, Act.put, List.setIfInBounds_toArray, List.set_cons_zero, List.set_cons_succ]
            refine NormalOnly.mk ?_
            obtain ⟨wZ, hwZ⟩ : ∃ wZ, wZ = wY.drew := ⟨_, rfl⟩
            have hbZ : Below wA.heap.size wA wZ := by rw [hwZ]; exact hbY.trans ⟨rfl, rfl, rfl, Nat.le_refl _, fun _ _ => rfl⟩
            rw [← hwZ]
            clear hwZ hbY
            have HNX := Lib.hid (HPUT.out i (k + 1) _ (by rw [HIF0.out]; exact next_right1 hk))
            have CF := Lib.hid (CF0.out G[k].1 hdG)
            have CG := Lib.hid (CG0.out G[k].1 hdG)
            have CA := Lib.hid (CA0.out G[k].1 hdG)
            rw [← hbZ.cell (p := ⟨b2, off2 + k * 4, none⟩) hb2A] at d0
            rw [← hbZ.cell (p := ⟨b2, off2 + k * 4 + 1, none⟩) hb2A] at d1
            have hpZ := (hbZ.block _ (lt_of_some hpA)).trans hpA
            obtain ⟨_, _, _, _⟩ := two_cells hpZ
            generalize valueQ F G[k].1 + valueQ G G[k].1 = sm at *
            generalize valueQ F G[k].1 = vf at *
            generalize valueQ G G[k].1 = vg at *
            generalize G[k].1 = t at *
            generalize sm.num = s0 at *
            generalize (sm.den : Int) = s1 at *
            generalize vf.num = f0 at *
            generalize (vf.den : Int) = f1 at *
            generalize vg.num = g0 at *
            generalize (vg.den : Int) = g1 at *
            generalize t.num = t0 at *
            generalize (t.den : Int) = t1 at *
            obtain ⟨wC, hwC⟩ : ∃ wC, wC = (wZ.setCell ⟨wr.heap.size, 0, none⟩ (.int .i64 t0)).setCell ⟨wr.heap.size, 1, none⟩ (.int .i64 t1) := ⟨_, rfl⟩
            have hpC : wC.heap[wr.heap.size]? = some (.cells #[.int .i64 t0, .int .i64 t1] 47 (0, 0)) := by rw [hwC]; exact two_set1 (.int .i64 t1) (two_set0 (.int .i64 t0) hpZ)
            have hbrZ : Below wr.heap.size wr wZ := hbA.trans (hbZ.mono hbA.size)
            have hbrC : Below wr.heap.size wr wC := by rw [hwC]; exact (hbrZ.setCell (p := ⟨wr.heap.size, 0, none⟩) (Nat.le_refl _) _).setCell (p := ⟨wr.heap.size, 1, none⟩) (Nat.le_refl _) _
            have hb3C := hbr.trans (hbrC.mono hbr.size)
            have HOC := Lib.hid (owns_below HOW.out hbrC)
            have HFC := Lib.hid (HQF.out.below hb3C)
            have HGC := Lib.hid (HQG.out.below hb3C)
            obtain ⟨u0, u1, _, _⟩ := two_cells hpC
            have hBC := lt_of_some hpC
            have HWC := Lib.hid hwC
            obtain ⟨ik, hik⟩ : ∃ ik, ik = slKnotF := ⟨_, rfl⟩
            obtain ⟨i0, hi0, hz0, hz1, hz2⟩ := info_parts slKnotF.info
            clear hwC hpZ hpC hpA hik
            go_wp2_with fail
            rw [← HWC.out]
            refine wp_held_list (fun W' => Below wC.heap.size wC W') [0, 1, 2, 3, 5, 6] [4, 7, 8, 9, 10] 11 (by kernel_rfl) (by kernel_rfl) ⟨rfl, rfl, rfl, Nat.le_refl _, fun _ _ => rfl⟩ ?_
            iterate 6
              refine wpTakeL_step rfl ?_ rfl ?_ ?_
              rotate_left
              · intro W' hS'
                have s0 := (hS'.cell (p := ⟨wr.heap.size, 0, none⟩) hBC).trans u0
                have s1 := (hS'.cell (p := ⟨wr.heap.size, 1, none⟩) hBC).trans u1
                go_simp
                try with_reducible rfl
              try simp only [List.getElem_toArray, List.getElem_cons_zero, List.getElem_cons_succ, Act.put, List.setIfInBounds_toArray, List.set_cons_zero, List.set_cons_succ]
            have hH0 : Below wC.heap.size wC wC.drew := ⟨rfl, rfl, rfl, Nat.le_refl _, fun _ _ => rfl⟩
            clear u0 u1
            refine wpKeepL_step rfl rfl (fun K hK => ?_)
            go_simp
            refine (CF.out _ _ (HFC.out.below hH0)).mono ?_
            rintro e wd ⟨rfl, hbwd⟩
            have hH1 := hH0.trans (hbwd.mono hH0.size)
            refine hK _ _ ⟨hH1, ?_⟩
            clear hK K
            try simp only [List.getElem_toArray, List.getElem_cons_zero, List.getElem_cons_succ, Act.put, List.setIfInBounds_toArray, List.set_cons_zero, List.set_cons_succ]
            refine wpKeepL_step rfl rfl (fun K hK => ?_)
            go_simp
            refine (CG.out _ _ (HGC.out.below hH1)).mono ?_
            rintro e we ⟨rfl, hbwe⟩
            have hH2 := hH1.trans (hbwe.mono hH1.size)
            refine hK _ _ ⟨hH2, ?_⟩
            clear hK K
            try simp only [List.getElem_toArray, List.getElem_cons_zero, List.getElem_cons_succ, Act.put, List.setIfInBounds_toArray, List.set_cons_zero, List.set_cons_succ]
            refine wpKeepL_step rfl rfl (fun K hK => ?_)
            go_simp
            refine (CA.out _).mono ?_
            rintro e wf ⟨rfl, hbwf⟩
            have hH3 := hH2.trans (hbwf.mono hH2.size)
            refine hK _ _ ⟨hH3, ?_⟩
            clear hK K
            try simp only [List.getElem_toArray, List.getElem_cons_zero, List.getElem_cons_succ, Act.put, List.setIfInBounds_toArray, List.set_cons_zero, List.set_cons_succ]
            refine wpKeepL_step rfl rfl (fun K hK => ?_)
            go_simp
            refine hK _ _ ⟨hH3, ?_⟩
            clear hK K
            try simp only [List.getElem_toArray, List.getElem_cons_zero, List.getElem_cons_succ, Act.put, List.setIfInBounds_toArray, List.set_cons_zero, List.set_cons_succ]
            refine wpKeepL_step rfl rfl (fun K hK => ?_)
            go_simp
            refine hK _ _ ⟨hH3.trans ((alloc_below _ _).mono hH3.size), ?_⟩
            clear hK K
            try simp only [List.getElem_toArray, List.getElem_cons_zero, List.getElem_cons_succ, Act.put, List.setIfInBounds_toArray, List.set_cons_zero, List.set_cons_succ]
            unfold wpKeepL
            simp only [List.drop_succ_cons, List.drop_zero]
            try simp only [List.getElem_toArray, List.getElem_cons_zero, List.getElem_cons_succ, Act.put, List.setIfInBounds_toArray, List.set_cons_zero, List.set_cons_succ]
            have hown4 := owns_below HOC.out hH3
            have hbw4 := hb3C.trans (hH3.mono hb3C.size)
            have hbs4 := hbw4.size
            clear hH0 hH1 hH2
            refine wpKeep_step rfl (fun K hK => ?_)
            refine wp_append_own _ (.tmp 107) (.tmp 117) 44 rfl w3.heap.size 66 i0 (.agg #[.int .i64 0, .int .i64 0, .int .i64 0, .int .i64 0]) 4 32 slKnotF.ht hi0 hz0 hz1 hz2 slKnotF.hzs slKnotF.hsz _ _ _ rfl (hown4.alloc _) ⟨wf.heap.size, 0, none⟩ 1 1 [.int .i64 t0, .int .i64 t1, .int .i64 s0, .int .i64 s1] rfl rfl (cell_four_new _ _ _ _ _ _) (by simp [Value.oneCell']) (by unfold maxLen; omega) (by omega) (by simp; omega) ?_
            intro v' w5 hown5 hgrow _
            have hb5 : Below w3.heap.size w3 w5 := (hbw4.trans ((alloc_below wf _).mono hbs4)).grown hgrow (by simp; omega) (fun g hg => (hown4.lt g hg).1)
            have HN := Lib.hid (HNX.out v' w5 hown5 hb5)
            clear hown5 hown4
            refine hK _ _ ⟨trivial, ?_⟩
            clear hK K
            try simp only [Act.put, List.setIfInBounds_toArray, List.set_cons_zero, List.set_cons_succ]
            refine wpKeep_step rfl (fun K hK => ?_)
            go_simp
            refine hK _ _ ⟨trivial, wpKeep_nil ?_⟩
            clear hK K
            try simp only [List.getElem_toArray, List.getElem_cons_zero, List.getElem_cons_succ, Act.put, List.setIfInBounds_toArray, List.set_cons_zero, List.set_cons_succ]
            refine NormalOnly.mk ?_
            go_wp2
            refine ⟨⟨i, (k + 1), v', HN.out, rfl, rfl, int_succ k⟩, ?_⟩
            show F.length + G.length - (((i : Int)).toNat + ((k : Int) + 1).toNat) < F.length + G.length - (((i : Int)).toNat + ((k : Int)).toNat)
            omega
          · have hin : decide ((i : Int) < (F.length : Int)) = false := decide_eq_false (by omega)
            have hkn : decide ((k : Int) < (G.length : Int)) = false := decide_eq_false (by omega)
            have hqs := HST.out.done hi hk
            obtain ⟨ps, cs, rfl, hzz⟩ := id hqs
            clear hzz
            have HPQ := Lib.hid hqs
            have HPF := Lib.hid (HQF.out.below hbr)
            have HPG := Lib.hid (HQG.out.below hbr)
            have hb010 := hb03.trans (hbr.mono hb03.size)
            obtain ⟨w10, hw10⟩ : ∃ w10, w10 = wr := ⟨_, rfl⟩
            rw [← hw10] at hb010 HPQ HPF HPG ⊢
            clear hqs hw10 hcell1 hcell2 HST hbr HDF HDG CF0 CG0 CA0 CL0 HQF HQG
            generalize addF F G = S at *
            generalize S.length = nS at *
            go_wp2_with fail
            refine (HKF.out _ _ HPF.out).mono ?_
            rintro e w11 ⟨v, rfl, hp, hb11⟩
            have hb011 := hb010.trans (hb11.mono hb010.size)
            replace HPQ := Lib.hid (HPQ.out.below hb11)
            replace HPF := Lib.hid (HPF.out.below hb11)
            replace HPG := Lib.hid (HPG.out.below hb11)
            obtain ⟨pA, cA, rfl, hzz⟩ := id hp
            clear hzz
            obtain ⟨nA, hn⟩ : ∃ n, (F.map textP).length = n := ⟨_, rfl⟩
            rw [hn] at hp ⊢
            clear hn
            have HPA := Lib.hid hp
            clear hp
            go_wp2_with fail
            refine (HKG.out _ _ HPG.out).mono ?_
            rintro e w12 ⟨v, rfl, hp, hb12⟩
            have hb012 := hb011.trans (hb12.mono hb011.size)
            replace HPQ := Lib.hid (HPQ.out.below hb12)
            replace HPF := Lib.hid (HPF.out.below hb12)
            replace HPG := Lib.hid (HPG.out.below hb12)
            replace HPA := Lib.hid (HPA.out.below hb12)
            obtain ⟨pB, cB, rfl, hzz⟩ := id hp
            clear hzz
            obtain ⟨nB, hn⟩ : ∃ n, (G.map textP).length = n := ⟨_, rfl⟩
            rw [hn] at hp ⊢
            clear hn
            have HPB := Lib.hid hp
            clear hp
            go_wp2_with fail
            refine (HADD.out _ _ _ (hw.below hb012) HPA.out HPB.out).mono ?_
            rintro e w13 ⟨v, rfl, hp, hb13⟩
            have hb013 := hb012.trans (hb13.mono hb012.size)
            replace HPQ := Lib.hid (HPQ.out.below hb13)
            replace HPF := Lib.hid (HPF.out.below hb13)
            replace HPG := Lib.hid (HPG.out.below hb13)
            replace HPA := Lib.hid (HPA.out.below hb13)
            replace HPB := Lib.hid (HPB.out.below hb13)
            obtain ⟨pC, cC, rfl, hzz⟩ := id hp
            clear hzz
            obtain ⟨nC, hn⟩ : ∃ n, (S.map textP).length = n := ⟨_, rfl⟩
            rw [hn] at hp ⊢
            clear hn
            have HPC := Lib.hid hp
            clear hp
            go_wp2_with fail
            refine (HKS.out _ _ HPQ.out).mono ?_
            rintro e w14 ⟨v, rfl, hp, hb14⟩
            have hb014 := hb013.trans (hb14.mono hb013.size)
            replace HPQ := Lib.hid (HPQ.out.below hb14)
            replace HPF := Lib.hid (HPF.out.below hb14)
            replace HPG := Lib.hid (HPG.out.below hb14)
            replace HPA := Lib.hid (HPA.out.below hb14)
            replace HPB := Lib.hid (HPB.out.below hb14)
            replace HPC := Lib.hid (HPC.out.below hb14)
            obtain ⟨pD, cD, rfl, hzz⟩ := id hp
            clear hzz
            obtain ⟨nD, hn⟩ : ∃ n, (S.map textP).length = n := ⟨_, rfl⟩
            rw [hn] at hp ⊢
            clear hn
            have HPD := Lib.hid hp
            clear hp
            go_wp2_with fail
            refine (HSIM.out _ _ (hw.below hb014) HPD.out).mono ?_
            rintro e w15 ⟨v, rfl, hp, hb15⟩
            have hb015 := hb014.trans (hb15.mono hb014.size)
            replace HPQ := Lib.hid (HPQ.out.below hb15)
            replace HPF := Lib.hid (HPF.out.below hb15)
            replace HPG := Lib.hid (HPG.out.below hb15)
            replace HPA := Lib.hid (HPA.out.below hb15)
            replace HPB := Lib.hid (HPB.out.below hb15)
            replace HPC := Lib.hid (HPC.out.below hb15)
            replace HPD := Lib.hid (HPD.out.below hb15)
            obtain ⟨pE, cE, rfl, hzz⟩ := id hp
            clear hzz
            obtain ⟨nE, hn⟩ : ∃ n, ((simpG (slopeQ S) S).map textP).length = n := ⟨_, rfl⟩
            rw [hn] at hp ⊢
            clear hn
            have HPE := Lib.hid hp
            clear hp
            go_wp2_with fail
            refine (HKS.out _ _ HPQ.out).mono ?_
            rintro e w16 ⟨v, rfl, hp, hb16⟩
            have hb016 := hb015.trans (hb16.mono hb015.size)
            replace HPQ := Lib.hid (HPQ.out.below hb16)
            replace HPF := Lib.hid (HPF.out.below hb16)
            replace HPG := Lib.hid (HPG.out.below hb16)
            replace HPA := Lib.hid (HPA.out.below hb16)
            replace HPB := Lib.hid (HPB.out.below hb16)
            replace HPC := Lib.hid (HPC.out.below hb16)
            replace HPD := Lib.hid (HPD.out.below hb16)
            replace HPE := Lib.hid (HPE.out.below hb16)
            obtain ⟨pH, cH, rfl, hzz⟩ := id hp
            clear hzz
            obtain ⟨nH, hn⟩ : ∃ n, (S.map textP).length = n := ⟨_, rfl⟩
            rw [hn] at hp ⊢
            clear hn
            have HPH := Lib.hid hp
            clear hp
            go_wp2_with fail
            refine (HSK.out _ _ _ _ HPC.out HPH.out).mono ?_
            rintro e w17 ⟨rfl, hb17⟩
            have hb017 := hb016.trans (hb17.mono hb016.size)
            replace HPQ := Lib.hid (HPQ.out.below hb17)
            replace HPF := Lib.hid (HPF.out.below hb17)
            replace HPG := Lib.hid (HPG.out.below hb17)
            replace HPA := Lib.hid (HPA.out.below hb17)
            replace HPB := Lib.hid (HPB.out.below hb17)
            replace HPC := Lib.hid (HPC.out.below hb17)
            replace HPD := Lib.hid (HPD.out.below hb17)
            replace HPE := Lib.hid (HPE.out.below hb17)
            replace HPH := Lib.hid (HPH.out.below hb17)
            go_wp2_with fail
            refine (HRS.out _ _ HPQ.out).mono ?_
            rintro e w18 ⟨v, rfl, hp, hb18⟩
            have hb018 := hb017.trans (hb18.mono hb017.size)
            replace HPQ := Lib.hid (HPQ.out.below hb18)
            replace HPF := Lib.hid (HPF.out.below hb18)
            replace HPG := Lib.hid (HPG.out.below hb18)
            replace HPA := Lib.hid (HPA.out.below hb18)
            replace HPB := Lib.hid (HPB.out.below hb18)
            replace HPC := Lib.hid (HPC.out.below hb18)
            replace HPD := Lib.hid (HPD.out.below hb18)
            replace HPE := Lib.hid (HPE.out.below hb18)
            replace HPH := Lib.hid (HPH.out.below hb18)
            obtain ⟨pI, cI, rfl, hzz⟩ := id hp
            clear hzz
            obtain ⟨nI, hn⟩ : ∃ n, (simpG (slopeQ S) S).length = n := ⟨_, rfl⟩
            rw [hn] at hp ⊢
            clear hn
            have HPI := Lib.hid hp
            clear hp
            go_wp2_with fail
            refine (HKT.out _ _ HPI.out).mono ?_
            rintro e w19 ⟨v, rfl, hp, hb19⟩
            have hb019 := hb018.trans (hb19.mono hb018.size)
            replace HPQ := Lib.hid (HPQ.out.below hb19)
            replace HPF := Lib.hid (HPF.out.below hb19)
            replace HPG := Lib.hid (HPG.out.below hb19)
            replace HPA := Lib.hid (HPA.out.below hb19)
            replace HPB := Lib.hid (HPB.out.below hb19)
            replace HPC := Lib.hid (HPC.out.below hb19)
            replace HPD := Lib.hid (HPD.out.below hb19)
            replace HPE := Lib.hid (HPE.out.below hb19)
            replace HPH := Lib.hid (HPH.out.below hb19)
            replace HPI := Lib.hid (HPI.out.below hb19)
            obtain ⟨pJ, cJ, rfl, hzz⟩ := id hp
            clear hzz
            obtain ⟨nJ, hn⟩ : ∃ n, ((simpG (slopeQ S) S).map textP).length = n := ⟨_, rfl⟩
            rw [hn] at hp ⊢
            clear hn
            have HPJ := Lib.hid hp
            clear hp
            go_wp2_with fail
            refine (HSK.out _ _ _ _ HPE.out HPJ.out).mono ?_
            rintro e w20 ⟨rfl, hb20⟩
            have hb020 := hb019.trans (hb20.mono hb019.size)
            replace HPQ := Lib.hid (HPQ.out.below hb20)
            replace HPF := Lib.hid (HPF.out.below hb20)
            replace HPG := Lib.hid (HPG.out.below hb20)
            replace HPA := Lib.hid (HPA.out.below hb20)
            replace HPB := Lib.hid (HPB.out.below hb20)
            replace HPC := Lib.hid (HPC.out.below hb20)
            replace HPD := Lib.hid (HPD.out.below hb20)
            replace HPE := Lib.hid (HPE.out.below hb20)
            replace HPH := Lib.hid (HPH.out.below hb20)
            replace HPI := Lib.hid (HPI.out.below hb20)
            replace HPJ := Lib.hid (HPJ.out.below hb20)
            go_wp2
            go_ret
            exact ⟨rfl, hb020⟩
end Go.Proofs.YtbogpbjddaoeiaaGreatDoor
