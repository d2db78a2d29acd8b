import Derived.Test.YtbogpbjddaoeiaaGreatDoorPlainQZ
import Derived.Test.YtbogpbjddaoeiaaGreatDoorLawKZ
import Derived.Test.YtbogpbjddaoeiaaGreatDoorEqZ
import Derived.Test.YtbogpbjddaoeiaaGreatDoorUnionZ
import Derived.Test.YtbogpbjddaoeiaaGreatDoorOfEZ
namespace Go.Proofs.YtbogpbjddaoeiaaGreatDoor
open Go.RowKit Go.Shelf
open Go.Lib (decDigits itoa nDigits)
theorem cov_empty {C : List ZP} (h : Norm C) (hc : ∀ i, ¬ cov C i) : C = [] := by
  cases C with
  | nil => rfl
  | cons p r => exact (hc p.1 ⟨p, List.mem_cons_self .., Int.le_refl _, h.head⟩).elim
theorem comb_comm {f g : Bool → Bool → Bool} (hfg : ∀ x y, f x y = g y x) {A B U V : List ZP} (hU : Hal U) (hV : Hal V) (cU : ∀ i, cov U i ↔ f (covB A i) (covB B i) = true) (cV : ∀ i, cov V i ↔ g (covB B i) (covB A i) = true) : U = V :=
  norm_unique U V hU.norm hV.norm fun i => by rw [cU i, cV i, hfg]
theorem subt_none {A B S N : List ZP} (hN : Hal N) (cS : ∀ i, cov S i ↔ (covB A i && !covB B i) = true) (cN : ∀ i, cov N i ↔ (covB S i && covB B i) = true) : N = [] :=
  cov_empty hN.norm fun i hi => by
    have h1 := (cN i).1 hi
    rw [Bool.and_eq_true] at h1
    have h2 := (cS i).1 (covB_iff.1 h1.1)
    rw [h1.2] at h2
    simp at h2
theorem subt_back {A B S C K : List ZP} (hA : Hal A) (hK : Hal K) (cS : ∀ i, cov S i ↔ (covB A i && !covB B i) = true) (cC : ∀ i, cov C i ↔ (covB A i && covB B i) = true) (cK : ∀ i, cov K i ↔ (covB S i || covB C i) = true) : K = A :=
  norm_unique K A hK.norm hA.norm fun i => by
    rw [cK i, Bool.or_eq_true, covB_iff, covB_iff, cS i, cC i, ← covB_iff]
    cases covB A i <;> cases covB B i <;> simp
theorem inter_within {A B C D : List ZP} (hD : Hal D) (cC : ∀ i, cov C i ↔ (covB A i && covB B i) = true) (cD : ∀ i, cov D i ↔ (covB C i && !covB A i) = true) : D = [] :=
  cov_empty hD.norm fun i hi => by
    have h1 := (cD i).1 hi
    rw [Bool.and_eq_true] at h1
    have h2 := (cC i).1 (covB_iff.1 h1.1)
    rw [Bool.and_eq_true] at h2
    rw [h2.1] at h1
    simp at h1
theorem hf_plus (a b : Int) : hf a + hf b = hf (a + b) := by
  unfold hf
  rw [Rat.mkRat_eq_div, Rat.mkRat_eq_div, Rat.mkRat_eq_div, Rat.intCast_add]
  rw [show ((2 : Nat) : Rat) = 2 from rfl]
  grind
theorem len_both {s t : Nat → Bool} {A B U C : List ZP} (hA : IsSet s A) (hB : IsSet t B) (hU : Hal U) (hC : Hal C) (cU : ∀ i, cov U i ↔ (covB A i || covB B i) = true) (cC : ∀ i, cov C i ↔ (covB A i && covB B i) = true) : hf (lenZ U) + hf (lenZ C) = hf (lenZ A) + hf (lenZ B) := by
  have h1 := lenZ_count U _ (comb_set (keep := fun x y => x || y) rfl hA hB hU.norm cU)
  have h2 := lenZ_count C _ (comb_set (keep := fun x y => x && y) rfl hA hB hC.norm cC)
  have h3 := lenZ_count A _ hA
  have h4 := lenZ_count B _ hB
  have h5 := cntB_both s t 600
  rw [hf_plus, hf_plus]
  congr 1
  omega
theorem Hal.lenText {Z : List ZP} (h : Hal Z) : (tx (hf (lenZ Z))).size ≤ 1000 := by
  have hl := h.length
  have := ratB_size (okR2 (hf_fr (n := lenZ Z) (by omega) (by omega)) (by decide) (by decide)).1
  omega
def RetL (w : World) (e : Ending) (w' : World) : Prop := e = .returned (.bool true) ∧ Below w.heap.size w w'
set_option maxRecDepth 100000 in
set_option maxHeartbeats 16000000 in
theorem law_RangesLaws (hT : NeqT 33) (va vb : Value) (DA DB : List Duo) (w : World) (hw : Good w) (hA : Duos w va DA) (hB : Duos w vb DB) :
    Calls Tryz.prog 10 #[va, vb] w (RetL w) := by
  have HKN := Lib.hid (fun w' (hb : Below w.heap.size w w') => law_known w' (hw.below hb))
  have hokA := hA.ok
  have hokB := hB.ok
  have HEA := Lib.hid (fun w' (hb : Below w.heap.size w w') => law_ends va DA w' (hA.below hb))
  have HEB := Lib.hid (fun w' (hb : Below w.heap.size w w') => law_ends vb DB w' (hB.below hb))
  have hEA : ∀ p ∈ endsZ DA, -300 ≤ p.1 ∧ p.1 < p.2 ∧ p.2 ≤ 300 := fun p hp => by have := endsZ_ok hokA p hp; omega
  have hEB : ∀ p ∈ endsZ DB, -300 ≤ p.1 ∧ p.1 < p.2 ∧ p.2 ≤ 300 := fun p hp => by have := endsZ_ok hokB p hp; omega
  have hlA : (endsZ DA).length ≤ 8 := by rw [endsZ_len]; omega
  have hlB : (endsZ DB).length ≤ 8 := by rw [endsZ_len]; omega
  have HPA := Lib.hid (fun w' u (h : Zees w' u (endsZ DA)) => law_parts u (endsZ DA) w' h (fun p hp => by have := hEA p hp; omega) (by omega))
  have HPB := Lib.hid (fun w' u (h : Zees w' u (endsZ DB)) => law_parts u (endsZ DB) w' h (fun p hp => by have := hEB p hp; omega) (by omega))
  have HOA := Lib.hid (fun w' u (hg : Good w') (h : Pairs w' u ((endsZ DA).map halfP)) => of_half u (endsZ DA) w' hg h hEA (by omega))
  have HOB := Lib.hid (fun w' u (hg : Good w') (h : Pairs w' u ((endsZ DB).map halfP)) => of_half u (endsZ DB) w' hg h hEB (by omega))
  have HHA := Lib.hid (fun Z (h : IsSet (setOf (endsZ DA)) Z) => Hal.of_set hokA h)
  have HHB := Lib.hid (fun Z (h : IsSet (setOf (endsZ DB)) Z) => Hal.of_set hokB h)
  unfold EndsPost at HEA HEB
  unfold PartsNew at HPA HPB
  unfold OfHalf at HOA HOB
  obtain ⟨pa, ca, rfl, hca, hma, hza⟩ := hA
  obtain ⟨pb, cb, rfl, hcb, hmb, hzb⟩ := hB
  clear hza hzb
  by_cases h8 : 8 < DA.length
  · have e1 : decide ((8 : Int) < (DA.length : Int)) = true := decide_eq_true (by omega)
    clear HEA HEB hEA hEB hlA hlB HOA HOB HPA HPB HHA HHB hokA hokB
    clear h8
    generalize DA.length = na at *
    generalize DB.length = nb at *
    go_enter Tryz.func10, Tryz.ntmps10
    go_wp2_with fail
    refine (HKN.out w (Below.refl _ _)).mono ?_
    rintro e w1 ⟨rfl, hb1⟩
    go_wp2_with fail
    refine (HKN.out w1 hb1).mono ?_
    rintro e w2 ⟨rfl, hb2⟩
    go_wp2
    go_ret
    exact ⟨rfl, hb1.trans (hb2.mono hb1.size)⟩
  · have e1 : decide ((8 : Int) < (DA.length : Int)) = false := decide_eq_false (by omega)
    by_cases h9 : 8 < DB.length
    · have e2 : decide ((8 : Int) < (DB.length : Int)) = true := decide_eq_true (by omega)
      clear HEA HEB hEA hEB hlA hlB HOA HOB HPA HPB HHA HHB hokA hokB
      clear h8 h9
      generalize DA.length = na at *
      generalize DB.length = nb at *
      go_enter Tryz.func10, Tryz.ntmps10
      go_wp2_with fail
      refine (HKN.out w (Below.refl _ _)).mono ?_
      rintro e w1 ⟨rfl, hb1⟩
      go_wp2_with fail
      refine (HKN.out w1 hb1).mono ?_
      rintro e w2 ⟨rfl, hb2⟩
      go_wp2
      go_ret
      exact ⟨rfl, hb1.trans (hb2.mono hb1.size)⟩
    · have e2 : decide ((8 : Int) < (DB.length : Int)) = false := decide_eq_false (by omega)
      clear h8 h9 hEA hEB hlA hlB hokA hokB
      generalize endsZ DA = EA at *
      generalize endsZ DB = EB at *
      generalize DA.length = na at *
      generalize DB.length = nb at *
      go_enter Tryz.func10, Tryz.ntmps10
      go_wp2_with fail
      refine (HKN.out w (Below.refl _ _)).mono ?_
      rintro e w1 ⟨rfl, hb1⟩
      have hb01 := hb1
      go_wp2_with fail
      refine (HEA.out w1 hb01).mono ?_
      rintro e w2 ⟨v, rfl, hz, hb2⟩
      have hb02 := hb01.trans (hb2.mono hb01.size)
      obtain ⟨pzA, czA, rfl, hzz⟩ := id hz
      clear hzz
      obtain ⟨nzA, hn⟩ : ∃ n, EA.length = n := ⟨_, rfl⟩
      rw [hn] at hz ⊢
      clear hn
      go_wp2_with fail
      refine (HPA.out _ _ hz).mono ?_
      rintro e w3 ⟨v, rfl, _, hp, hb3⟩
      have hb03 := hb02.trans (hb3.mono hb02.size)
      clear hz
      obtain ⟨pqA, cqA, rfl, hzz⟩ := id hp
      clear hzz
      obtain ⟨nqA, hn⟩ : ∃ n, (EA.map halfP).length = n := ⟨_, rfl⟩
      rw [hn] at hp ⊢
      clear hn
      have HZ := Lib.hid hp
      clear hp
      go_wp2_with fail
      refine (HOA.out _ _ (hw.below hb03) HZ.out).mono ?_
      rintro e w4 ⟨v, X, rfl, hp, hs, hb4⟩
      have hb04 := hb03.trans (hb4.mono hb03.size)
      obtain ⟨pX, cX, rfl, hzz⟩ := id hp
      clear hzz
      obtain ⟨nX, hn⟩ : ∃ n, (X.map halfP).length = n := ⟨_, rfl⟩
      rw [hn] at hp ⊢
      clear hn
      have HPX := Lib.hid hp
      clear hp
      have HSX := Lib.hid hs
      have HX := Lib.hid (HHA.out _ hs)
      clear hs HZ
      go_wp2_with fail
      refine (HEB.out w4 hb04).mono ?_
      rintro e w5 ⟨v, rfl, hz, hb5⟩
      have hb05 := hb04.trans (hb5.mono hb04.size)
      replace HPX := Lib.hid (HPX.out.below hb5)
      obtain ⟨pzB, czB, rfl, hzz⟩ := id hz
      clear hzz
      obtain ⟨nzB, hn⟩ : ∃ n, EB.length = n := ⟨_, rfl⟩
      rw [hn] at hz ⊢
      clear hn
      go_wp2_with fail
      refine (HPB.out _ _ hz).mono ?_
      rintro e w6 ⟨v, rfl, _, hp, hb6⟩
      have hb06 := hb05.trans (hb6.mono hb05.size)
      replace HPX := Lib.hid (HPX.out.below hb6)
      clear hz
      obtain ⟨pqB, cqB, rfl, hzz⟩ := id hp
      clear hzz
      obtain ⟨nqB, hn⟩ : ∃ n, (EB.map halfP).length = n := ⟨_, rfl⟩
      rw [hn] at hp ⊢
      clear hn
      have HZ := Lib.hid hp
      clear hp
      go_wp2_with fail
      refine (HOB.out _ _ (hw.below hb06) HZ.out).mono ?_
      rintro e w7 ⟨v, Y, rfl, hp, hs, hb7⟩
      have hb07 := hb06.trans (hb7.mono hb06.size)
      replace HPX := Lib.hid (HPX.out.below hb7)
      obtain ⟨pY, cY, rfl, hzz⟩ := id hp
      clear hzz
      obtain ⟨nY, hn⟩ : ∃ n, (Y.map halfP).length = n := ⟨_, rfl⟩
      rw [hn] at hp ⊢
      clear hn
      have HPY := Lib.hid hp
      clear hp
      have HSY := Lib.hid hs
      have HY := Lib.hid (HHB.out _ hs)
      clear hs HZ
      go_wp2_with fail
      refine (union_half _ _ X Y w7 (hw.below hb07) HPX.out HPY.out HX.out HY.out).mono ?_
      rintro e w8 ⟨v, U, rfl, hp, hh, hc, hb8⟩
      have hb08 := hb07.trans (hb8.mono hb07.size)
      replace HPX := Lib.hid (HPX.out.below hb8)
      replace HPY := Lib.hid (HPY.out.below hb8)
      obtain ⟨pU, cU, rfl, hzz⟩ := id hp
      clear hzz
      obtain ⟨nU, hn⟩ : ∃ n, (U.map halfP).length = n := ⟨_, rfl⟩
      rw [hn] at hp ⊢
      clear hn
      have HPU := Lib.hid hp
      clear hp
      have HU := Lib.hid hh
      have HCU := Lib.hid hc
      clear hh hc
      go_wp2_with fail
      refine (union_half _ _ Y X w8 (hw.below hb08) HPY.out HPX.out HY.out HX.out).mono ?_
      rintro e w9 ⟨v, V, rfl, hp, hh, hc, hb9⟩
      have hb09 := hb08.trans (hb9.mono hb08.size)
      replace HPX := Lib.hid (HPX.out.below hb9)
      replace HPY := Lib.hid (HPY.out.below hb9)
      replace HPU := Lib.hid (HPU.out.below hb9)
      obtain ⟨pV, cV, rfl, hzz⟩ := id hp
      clear hzz
      obtain ⟨nV, hn⟩ : ∃ n, (V.map halfP).length = n := ⟨_, rfl⟩
      rw [hn] at hp ⊢
      clear hn
      have HPV := Lib.hid hp
      clear hp
      have HV := Lib.hid hh
      have HCV := Lib.hid hc
      clear hh hc
      go_wp2_with fail
      refine (inter_half _ _ X Y w9 (hw.below hb09) HPX.out HPY.out HX.out HY.out).mono ?_
      rintro e w10 ⟨v, C, rfl, hp, hh, hc, hb10⟩
      have hb010 := hb09.trans (hb10.mono hb09.size)
      replace HPX := Lib.hid (HPX.out.below hb10)
      replace HPY := Lib.hid (HPY.out.below hb10)
      replace HPU := Lib.hid (HPU.out.below hb10)
      replace HPV := Lib.hid (HPV.out.below hb10)
      obtain ⟨pC, cC, rfl, hzz⟩ := id hp
      clear hzz
      obtain ⟨nC, hn⟩ : ∃ n, (C.map halfP).length = n := ⟨_, rfl⟩
      rw [hn] at hp ⊢
      clear hn
      have HPC := Lib.hid hp
      clear hp
      have HC := Lib.hid hh
      have HCC := Lib.hid hc
      clear hh hc
      go_wp2_with fail
      refine (inter_half _ _ Y X w10 (hw.below hb010) HPY.out HPX.out HY.out HX.out).mono ?_
      rintro e w11 ⟨v, D, rfl, hp, hh, hc, hb11⟩
      have hb011 := hb010.trans (hb11.mono hb010.size)
      replace HPX := Lib.hid (HPX.out.below hb11)
      replace HPY := Lib.hid (HPY.out.below hb11)
      replace HPU := Lib.hid (HPU.out.below hb11)
      replace HPV := Lib.hid (HPV.out.below hb11)
      replace HPC := Lib.hid (HPC.out.below hb11)
      obtain ⟨pD, cD, rfl, hzz⟩ := id hp
      clear hzz
      obtain ⟨nD, hn⟩ : ∃ n, (D.map halfP).length = n := ⟨_, rfl⟩
      rw [hn] at hp ⊢
      clear hn
      have HPD := Lib.hid hp
      clear hp
      have HD := Lib.hid hh
      have HCD := Lib.hid hc
      clear hh hc
      have UV := Lib.hid (comb_comm (f := fun x y => x || y) (g := fun x y => x || y) (fun x y => Bool.or_comm x y) HU.out HV.out HCU.out HCV.out)
      have CD := Lib.hid (comb_comm (f := fun x y => x && y) (g := fun x y => x && y) (fun x y => Bool.and_comm x y) HC.out HD.out HCC.out HCD.out)
      go_wp2_with fail
      refine (ranges_Equal hT _ _ _ _ w11 HPU.out HPV.out).mono ?_
      rintro e w12 ⟨he, hb12⟩
      have hb012 := hb011.trans (hb12.mono hb011.size)
      replace HPX := Lib.hid (HPX.out.below hb12)
      replace HPY := Lib.hid (HPY.out.below hb12)
      replace HPU := Lib.hid (HPU.out.below hb12)
      replace HPV := Lib.hid (HPV.out.below hb12)
      replace HPC := Lib.hid (HPC.out.below hb12)
      replace HPD := Lib.hid (HPD.out.below hb12)
      rw [decide_eq_true (show U.map halfP = V.map halfP by rw [UV.out])] at he
      subst he
      go_wp2_with fail
      refine (ranges_Equal hT _ _ _ _ w12 HPC.out HPD.out).mono ?_
      rintro e w13 ⟨he, hb13⟩
      have hb013 := hb012.trans (hb13.mono hb012.size)
      replace HPX := Lib.hid (HPX.out.below hb13)
      replace HPY := Lib.hid (HPY.out.below hb13)
      replace HPU := Lib.hid (HPU.out.below hb13)
      replace HPV := Lib.hid (HPV.out.below hb13)
      replace HPC := Lib.hid (HPC.out.below hb13)
      replace HPD := Lib.hid (HPD.out.below hb13)
      rw [decide_eq_true (show C.map halfP = D.map halfP by rw [CD.out])] at he
      subst he
      go_wp2_with fail
      refine (subt_half _ _ X Y w13 (hw.below hb013) HPX.out HPY.out HX.out HY.out).mono ?_
      rintro e w14 ⟨v, S, rfl, hp, hh, hc, hb14⟩
      have hb014 := hb013.trans (hb14.mono hb013.size)
      replace HPX := Lib.hid (HPX.out.below hb14)
      replace HPY := Lib.hid (HPY.out.below hb14)
      replace HPU := Lib.hid (HPU.out.below hb14)
      replace HPV := Lib.hid (HPV.out.below hb14)
      replace HPC := Lib.hid (HPC.out.below hb14)
      replace HPD := Lib.hid (HPD.out.below hb14)
      obtain ⟨pS, cS, rfl, hzz⟩ := id hp
      clear hzz
      obtain ⟨nS, hn⟩ : ∃ n, (S.map halfP).length = n := ⟨_, rfl⟩
      rw [hn] at hp ⊢
      clear hn
      have HPS := Lib.hid hp
      clear hp
      have HS := Lib.hid hh
      have HCS := Lib.hid hc
      clear hh hc
      go_wp2_with fail
      refine (inter_half _ _ S Y w14 (hw.below hb014) HPS.out HPY.out HS.out HY.out).mono ?_
      rintro e w15 ⟨v, N, rfl, hp, hh, hc, hb15⟩
      have hb015 := hb014.trans (hb15.mono hb014.size)
      replace HPX := Lib.hid (HPX.out.below hb15)
      replace HPY := Lib.hid (HPY.out.below hb15)
      replace HPU := Lib.hid (HPU.out.below hb15)
      replace HPV := Lib.hid (HPV.out.below hb15)
      replace HPC := Lib.hid (HPC.out.below hb15)
      replace HPD := Lib.hid (HPD.out.below hb15)
      replace HPS := Lib.hid (HPS.out.below hb15)
      obtain rfl : N = [] := subt_none hh HCS.out hc
      obtain ⟨pN, cN, rfl, hzz⟩ := hp
      clear hzz
      simp only [List.map_nil, List.length_nil]
      clear hh hc
      go_wp2_with fail
      refine (union_half _ _ S C w15 (hw.below hb015) HPS.out HPC.out HS.out HC.out).mono ?_
      rintro e w16 ⟨v, K, rfl, hp, hh, hc, hb16⟩
      have hb016 := hb015.trans (hb16.mono hb015.size)
      replace HPX := Lib.hid (HPX.out.below hb16)
      replace HPY := Lib.hid (HPY.out.below hb16)
      replace HPU := Lib.hid (HPU.out.below hb16)
      replace HPV := Lib.hid (HPV.out.below hb16)
      replace HPC := Lib.hid (HPC.out.below hb16)
      replace HPD := Lib.hid (HPD.out.below hb16)
      replace HPS := Lib.hid (HPS.out.below hb16)
      obtain ⟨pK, cK, rfl, hzz⟩ := id hp
      clear hzz
      obtain ⟨nK, hn⟩ : ∃ n, (K.map halfP).length = n := ⟨_, rfl⟩
      rw [hn] at hp ⊢
      clear hn
      have HPK := Lib.hid hp
      clear hp
      have HK := Lib.hid hh
      have HCK := Lib.hid hc
      clear hh hc
      have KX := Lib.hid (subt_back HX.out HK.out HCS.out HCC.out HCK.out)
      go_wp2_with fail
      refine (within_half _ _ C X w16 (hw.below hb016) HPC.out HPX.out HC.out HX.out).mono ?_
      rintro e w17 ⟨Q, he, hQ, cQ, hb17⟩
      have hb017 := hb016.trans (hb17.mono hb016.size)
      replace HPX := Lib.hid (HPX.out.below hb17)
      replace HPY := Lib.hid (HPY.out.below hb17)
      replace HPU := Lib.hid (HPU.out.below hb17)
      replace HPV := Lib.hid (HPV.out.below hb17)
      replace HPC := Lib.hid (HPC.out.below hb17)
      replace HPD := Lib.hid (HPD.out.below hb17)
      replace HPS := Lib.hid (HPS.out.below hb17)
      replace HPK := Lib.hid (HPK.out.below hb17)
      obtain rfl : Q = [] := inter_within hQ HCC.out cQ
      obtain rfl : e = .returned (.tuple #[.bool true, .int .i64 0]) := he
      clear hQ cQ
      go_wp2_with fail
      refine (length_half _ X w17 (hw.below hb017) HPX.out HX.out).mono ?_
      rintro e w18 ⟨rfl, hb18⟩
      have hb018 := hb017.trans (hb18.mono hb017.size)
      replace HPX := Lib.hid (HPX.out.below hb18)
      replace HPY := Lib.hid (HPY.out.below hb18)
      replace HPU := Lib.hid (HPU.out.below hb18)
      replace HPV := Lib.hid (HPV.out.below hb18)
      replace HPC := Lib.hid (HPC.out.below hb18)
      replace HPD := Lib.hid (HPD.out.below hb18)
      replace HPS := Lib.hid (HPS.out.below hb18)
      replace HPK := Lib.hid (HPK.out.below hb18)
      obtain ⟨tX, htX⟩ : ∃ t, t = tx (hf (lenZ X)) := ⟨_, rfl⟩
      rw [← htX]
      have HTX := Lib.hid (show IsR tX (hf (lenZ X)) by rw [htX]; exact isR_mk _)
      have HLX := Lib.hid (show tX.size ≤ 1000 by rw [htX]; exact HX.out.lenText)
      clear htX
      go_wp2_with fail
      refine (length_half _ Y w18 (hw.below hb018) HPY.out HY.out).mono ?_
      rintro e w19 ⟨rfl, hb19⟩
      have hb019 := hb018.trans (hb19.mono hb018.size)
      replace HPX := Lib.hid (HPX.out.below hb19)
      replace HPY := Lib.hid (HPY.out.below hb19)
      replace HPU := Lib.hid (HPU.out.below hb19)
      replace HPV := Lib.hid (HPV.out.below hb19)
      replace HPC := Lib.hid (HPC.out.below hb19)
      replace HPD := Lib.hid (HPD.out.below hb19)
      replace HPS := Lib.hid (HPS.out.below hb19)
      replace HPK := Lib.hid (HPK.out.below hb19)
      obtain ⟨tY, htY⟩ : ∃ t, t = tx (hf (lenZ Y)) := ⟨_, rfl⟩
      rw [← htY]
      have HTY := Lib.hid (show IsR tY (hf (lenZ Y)) by rw [htY]; exact isR_mk _)
      have HLY := Lib.hid (show tY.size ≤ 1000 by rw [htY]; exact HY.out.lenText)
      clear htY
      go_wp2_with fail
      refine (length_half _ U w19 (hw.below hb019) HPU.out HU.out).mono ?_
      rintro e w20 ⟨rfl, hb20⟩
      have hb020 := hb019.trans (hb20.mono hb019.size)
      replace HPX := Lib.hid (HPX.out.below hb20)
      replace HPY := Lib.hid (HPY.out.below hb20)
      replace HPU := Lib.hid (HPU.out.below hb20)
      replace HPV := Lib.hid (HPV.out.below hb20)
      replace HPC := Lib.hid (HPC.out.below hb20)
      replace HPD := Lib.hid (HPD.out.below hb20)
      replace HPS := Lib.hid (HPS.out.below hb20)
      replace HPK := Lib.hid (HPK.out.below hb20)
      obtain ⟨tU, htU⟩ : ∃ t, t = tx (hf (lenZ U)) := ⟨_, rfl⟩
      rw [← htU]
      have HTU := Lib.hid (show IsR tU (hf (lenZ U)) by rw [htU]; exact isR_mk _)
      have HLU := Lib.hid (show tU.size ≤ 1000 by rw [htU]; exact HU.out.lenText)
      clear htU
      go_wp2_with fail
      refine (length_half _ C w20 (hw.below hb020) HPC.out HC.out).mono ?_
      rintro e w21 ⟨rfl, hb21⟩
      have hb021 := hb020.trans (hb21.mono hb020.size)
      replace HPX := Lib.hid (HPX.out.below hb21)
      replace HPY := Lib.hid (HPY.out.below hb21)
      replace HPU := Lib.hid (HPU.out.below hb21)
      replace HPV := Lib.hid (HPV.out.below hb21)
      replace HPC := Lib.hid (HPC.out.below hb21)
      replace HPD := Lib.hid (HPD.out.below hb21)
      replace HPS := Lib.hid (HPS.out.below hb21)
      replace HPK := Lib.hid (HPK.out.below hb21)
      obtain ⟨tC, htC⟩ : ∃ t, t = tx (hf (lenZ C)) := ⟨_, rfl⟩
      rw [← htC]
      have HTC := Lib.hid (show IsR tC (hf (lenZ C)) by rw [htC]; exact isR_mk _)
      have HLC := Lib.hid (show tC.size ≤ 1000 by rw [htC]; exact HC.out.lenText)
      clear htC
      go_wp2_with fail
      refine (ranges_Equal hT _ _ _ _ w21 HPK.out HPX.out).mono ?_
      rintro e w22 ⟨he, hb22⟩
      have hb022 := hb021.trans (hb22.mono hb021.size)
      replace HPX := Lib.hid (HPX.out.below hb22)
      replace HPY := Lib.hid (HPY.out.below hb22)
      replace HPU := Lib.hid (HPU.out.below hb22)
      replace HPV := Lib.hid (HPV.out.below hb22)
      replace HPC := Lib.hid (HPC.out.below hb22)
      replace HPD := Lib.hid (HPD.out.below hb22)
      replace HPS := Lib.hid (HPS.out.below hb22)
      replace HPK := Lib.hid (HPK.out.below hb22)
      rw [decide_eq_true (show K.map halfP = X.map halfP by rw [KX.out])] at he
      subst he
      have HLL := Lib.hid (len_both HSX.out HSY.out HU.out HC.out HCU.out HCC.out)
      go_wp2_with fail
      refine (rational_Add tX tY _ _ HTX.out HTY.out (by have := HLX.out; omega) (by have := HLY.out; omega) w22 (hw.below hb022)).mono ?_
      rintro e w23 ⟨r1, rfl, hr1, hb23⟩
      have hb023 := hb022.trans (hb23.mono hb022.size)
      replace HPX := Lib.hid (HPX.out.below hb23)
      replace HPY := Lib.hid (HPY.out.below hb23)
      replace HPU := Lib.hid (HPU.out.below hb23)
      replace HPV := Lib.hid (HPV.out.below hb23)
      replace HPC := Lib.hid (HPC.out.below hb23)
      replace HPD := Lib.hid (HPD.out.below hb23)
      replace HPS := Lib.hid (HPS.out.below hb23)
      replace HPK := Lib.hid (HPK.out.below hb23)
      have HR1 := Lib.hid hr1
      clear hr1
      go_wp2_with fail
      refine (rational_Add tU tC _ _ HTU.out HTC.out (by have := HLU.out; omega) (by have := HLC.out; omega) w23 (hw.below hb023)).mono ?_
      rintro e w24 ⟨r2, rfl, hr2, hb24⟩
      have hb024 := hb023.trans (hb24.mono hb023.size)
      replace HPX := Lib.hid (HPX.out.below hb24)
      replace HPY := Lib.hid (HPY.out.below hb24)
      replace HPU := Lib.hid (HPU.out.below hb24)
      replace HPV := Lib.hid (HPV.out.below hb24)
      replace HPC := Lib.hid (HPC.out.below hb24)
      replace HPD := Lib.hid (HPD.out.below hb24)
      replace HPS := Lib.hid (HPS.out.below hb24)
      replace HPK := Lib.hid (HPK.out.below hb24)
      rw [HLL.out] at hr2
      obtain rfl := HR1.out.unique hr2
      clear hr2
      go_wp2
      go_ret
      exact ⟨rfl, hb024⟩
end Go.Proofs.YtbogpbjddaoeiaaGreatDoor
