import Derived.Test.YtbogpbjddaoeiaaGreatDoorPlainQZ
import Derived.Test.YtbogpbjddaoeiaaGreatDoorFuncPZ
import Derived.Test.YtbogpbjddaoeiaaGreatDoorAddFZ
namespace Go.Proofs.YtbogpbjddaoeiaaGreatDoor
open Go.RowKit Go.Shelf
open Go.Lib (decDigits itoa nDigits)
theorem law_Function (v : Value) (D : List Duo) (w : World) (hv : Duos w v D) : Calls Tryz.prog 57 #[v] w (KntPost (ptsQ D) w) := by
  have HPT := Lib.hid (law_points v D w hv)
  have hF := Fn.of hv.ok
  obtain ⟨p, c, rfl, hzv⟩ := hv
  clear hzv
  have HKT := Lib.hid (fun w' u (h : Quads w' u (ptsQ D)) => law_knots u (ptsQ D) w' h hF.fr (by have := hF.len; omega))
  unfold PtsPost at HPT
  unfold KntPost at HKT ⊢
  clear hF
  generalize ptsQ D = Q at *
  generalize D.length = n at *
  go_enter Tryz.func57, Tryz.ntmps57
  go_wp2_with fail
  refine HPT.out.mono ?_
  rintro e w1 ⟨v1, rfl, hq1, hb1⟩
  obtain ⟨p1, c1, rfl, hzz⟩ := id hq1
  clear hzz
  go_wp2_with fail
  refine (HKT.out _ _ hq1).mono ?_
  rintro e w2 ⟨v2, rfl, hp2, hb2⟩
  obtain ⟨p2, c2, rfl, hzz⟩ := id hp2
  clear hzz
  obtain ⟨n2, hn2⟩ : ∃ n2, (Q.map textP).length = n2 := ⟨_, rfl⟩
  rw [hn2] at hp2 ⊢
  clear hn2
  have HP2 := Lib.hid hp2
  clear hp2
  clear hq1
  go_wp2
  go_ret
  exact ⟨_, rfl, HP2.out, hb1.trans (hb2.mono hb1.size)⟩
theorem value_fn {Q : List QP} (hr : rats (Q.map textP) = Q) (he : knotsErr (Q.map textP) = 0) {x q : Rat} {N D N' D' : Nat} (hx : Fr N D x) (h1 : N < 10 ^ 200) (h2 : D < 10 ^ 200) (hv : valueQ Q x = q) (hq : Fr N' D' q) (h3 : N' < 10 ^ 200) (h4 : D' < 10 ^ 200) (u : Value) (w : World) (hw : Good w) (hp : Pairs w u (Q.map textP)) :
    Calls Tryz.prog 36 #[u, .string (tx x)] w (RetV (.tuple #[.string (tx q), .int .i64 0]) w) := by
  obtain ⟨b1, b2⟩ := okR2 hx h1 h2
  have e : valueV (Q.map textP) (ratV (tx x)) = q := by rw [valueV_rats, hr, b2, hv]
  have hok := (okR2 hq h3 h4).1
  refine (value_ok u _ (tx x) w hw hp he b1 (by rw [e]; simpa using hok)).mono fun e' w' h => retv_ok (by rw [e] at h; exact h)
theorem integral_fn {Q : List QP} (hQ : Fn Q) {lo hi : Rat} (hlo : Dn 8200 12 lo) (hhi : Dn 8200 12 hi) (hlt : lo < hi) (u : Value) (w : World) (hw : Good w) (hp : Pairs w u (Q.map textP)) :
    Calls Tryz.prog 27 #[u, .agg #[.string (tx lo), .string (tx hi)]] w (RetV (.tuple #[.string (tx (sumQ Q (stepsQ hi lo Q))), .int .i64 0]) w) := by
  have f1 := hlo.fr (by decide)
  have f2 := hhi.fr (by decide)
  obtain ⟨_, e1⟩ := okR2 f1 (by decide) (by decide)
  obtain ⟨_, e2⟩ := okR2 f2 (by decide) (by decide)
  have hpe : partErr (tx lo) (tx hi) = 0 := by rw [partErr_tx f1 f2 (by decide) (by decide) (by decide) (by decide), if_pos hlt]
  have hs : sumI (Q.map textP) (stepsP (tx hi) (tx lo) (Q.map textP)) = sumQ Q (stepsQ hi lo Q) := by rw [sumI_rats, stepsP_rats, e1, e2, hQ.rats]
  have hok := (okR2 (sum12 hQ.hv hQ.asc hQ.pos hQ.len hlo hhi) (by decide) (by decide)).1
  exact (integral_ok u _ (tx lo) (tx hi) w hw hp hQ.err hpe (by rw [hs]; simpa using hok)).mono fun e w' h => retv_ok (hs ▸ h)
def RetF (w : World) (e : Ending) (w' : World) : Prop := e = .returned (.bool true) ∧ Below w.heap.size w w'
theorem lt_add_pos {x d : Rat} (h : 0 < d) : x < x + d := by
  have := Rat.add_lt_add_left (c := x) |>.2 h
  rwa [Rat.add_zero] at this
set_option maxRecDepth 100000 in
set_option maxHeartbeats 16000000 in
theorem law_RangesFunctions (va vb : Value) (DA DB : List Duo) (q : Int) (w : World) (hw : Good w) (hA : Duos w va DA) (hB : Duos w vb DB) (hq1 : -32768 ≤ q) (hq2 : q ≤ 32767) :
    Calls Tryz.prog 11 #[va, vb, .int .i16 q] w (RetF w) := by
  have HKN := Lib.hid (fun w' (hb : Below w.heap.size w w') => law_known w' (hw.below hb))
  have HFA := Lib.hid (fun w' (hb : Below w.heap.size w w') => law_Function va DA w' (hA.below hb))
  have HFB := Lib.hid (fun w' (hb : Below w.heap.size w w') => law_Function vb DB w' (hB.below hb))
  have hF := Fn.of hA.ok
  have hG := Fn.of hB.ok
  obtain ⟨pa, ca, rfl, hca, hma, hza⟩ := hA
  obtain ⟨pb, cb, rfl, hcb, hmb, hzb⟩ := hB
  clear hza hzb
  by_cases h8 : 8 < DA.length
  · have e1 : decide ((8 : Int) < (DA.length : Int)) = true := decide_eq_true (by omega)
    clear HFA HFB hF hG h8
    generalize DA.length = na at *
    generalize DB.length = nb at *
    go_enter Tryz.func11, Tryz.ntmps11
    go_wp2_with fail
    refine (HKN.out w (Below.refl _ _)).mono ?_
    rintro e w1 ⟨rfl, hb1⟩
    go_wp2_with fail
    refine (HKN.out w1 hb1).mono ?_
    rintro e w2 ⟨rfl, hb2⟩
    go_wp2
    go_ret
    exact ⟨rfl, hb1.trans (hb2.mono hb1.size)⟩
  · have e1 : decide ((8 : Int) < (DA.length : Int)) = false := decide_eq_false (by omega)
    by_cases h9 : 8 < DB.length
    · have e2 : decide ((8 : Int) < (DB.length : Int)) = true := decide_eq_true (by omega)
      clear HFA HFB hF hG h8 h9
      generalize DA.length = na at *
      generalize DB.length = nb at *
      go_enter Tryz.func11, Tryz.ntmps11
      go_wp2_with fail
      refine (HKN.out w (Below.refl _ _)).mono ?_
      rintro e w1 ⟨rfl, hb1⟩
      go_wp2_with fail
      refine (HKN.out w1 hb1).mono ?_
      rintro e w2 ⟨rfl, hb2⟩
      go_wp2
      go_ret
      exact ⟨rfl, hb1.trans (hb2.mono hb1.size)⟩
    · have e2 : decide ((8 : Int) < (DB.length : Int)) = false := decide_eq_false (by omega)
      clear h8 h9
      unfold KntPost at HFA HFB
      generalize ptsQ DA = F at *
      generalize ptsQ DB = G at *
      obtain ⟨hS1, hS2, hS3, hS4⟩ := Fn.sum hF hG
      obtain ⟨x, hx⟩ : ∃ x, x = mkRat q 4 := ⟨_, rfl⟩
      have hx12 : Dn 8192 12 x := by rw [hx]; exact quarter12 hq1 hq2
      have hxf : Fr 40000 4 x := by rw [hx]; exact Fr.mkRat (by decide) (by omega) (Nat.le_refl _)
      have hxb := hx12.fr (by decide)
      have h73 : Dn 3 12 (7 / 3 : Rat) := ⟨28, by decide +kernel, by decide⟩
      have h5 : Dn 5 12 (5 : Rat) := ⟨60, by decide +kernel, by decide⟩
      obtain ⟨lo, hlo⟩ : ∃ lo, lo = x - 7 / 3 := ⟨_, rfl⟩
      obtain ⟨hi, hhi⟩ : ∃ hi, hi = x + 5 := ⟨_, rfl⟩
      have hlo12 : Dn 8200 12 lo := by rw [hlo]; exact (hx12.sub (by decide) h73).mono (by decide)
      have hhi12 : Dn 8200 12 hi := by rw [hhi]; exact (hx12.add (by decide) h5).mono (by decide)
      have hx12' : Dn 8200 12 x := hx12.mono (by decide)
      have hlx : lo < x := by
        have h := lt_add_pos (x := lo) (d := 7 / 3) (by decide +kernel)
        have e : lo + 7 / 3 = x := by rw [hlo]; grind
        rw [e] at h
        exact h
      have hxh : x < hi := by rw [hhi]; exact lt_add_pos (by decide +kernel)
      have hlh := rat_lt_trans hlx hxh
      have HMK := Lib.hid (fun w' => (hx ▸ ref_Make q 4 w' (by omega) (by omega) (by decide) (by decide) : Calls Tryz.prog 26 #[.int .i64 q, .int .i64 4] w' fun e w'' => e = .returned (fracV x) ∧ Below w'.heap.size w' w''))
      have HTX := Lib.hid (fun w' => ref_Text' x w' (hxf.mono (by omega) (by omega)))
      have HADD := Lib.hid (fun w' u1 u2 (hg : Good w') h1 h2 => add_fn hF hG u1 u2 w' hg h1 h2)
      have HSIM := Lib.hid (fun w' u (hg : Good w') h => simp_fn hS1 hS2 hS3 hS4 u w' hg h)
      have hvF := hF.hv.value12 hF.asc hx12' hF.pos
      have hvG := hG.hv.value12 hG.asc hx12' hG.pos
      have hvS := Dn.add (by decide) hvF hvG
      have HVF := Lib.hid (fun w' u (hg : Good w') h => value_fn hF.rats hF.err hxf (by decide) (by decide) rfl (hvF.fr (by decide)) (by decide) (by decide) u w' hg h)
      have HVG := Lib.hid (fun w' u (hg : Good w') h => value_fn hG.rats hG.err hxf (by decide) (by decide) rfl (hvG.fr (by decide)) (by decide) (by decide) u w' hg h)
      have HVS := Lib.hid (fun w' u (hg : Good w') h => value_fn (texts_ratsW hS1) (texts_errW hS1 hS2 hS3 (by omega)) hxf (by decide) (by decide) (addF_valueQ hF.asc hG.asc hF.pos x) (hvS.fr (by decide)) (by decide) (by decide) u w' hg h)
      have hT1 := simpG_fr hS1 (slopeQ (addF F G))
      have HVT := Lib.hid (fun w' u (hg : Good w') h => value_fn (texts_ratsW hT1) (texts_errW hT1 (simpG_asc _ hS2) (simpG_pos hS3) (by have := simpG_len (slopeQ (addF F G)) (addF F G); omega)) hxf (by decide) (by decide) ((simp_valueQ hS2 x).trans (addF_valueQ hF.asc hG.asc hF.pos x)) (hvS.fr (by decide)) (by decide) (by decide) u w' hg h)
      have HI1 := Lib.hid (fun w' u (hg : Good w') h => integral_fn hF hlo12 hx12' hlx u w' hg h)
      have HI2 := Lib.hid (fun w' u (hg : Good w') h => integral_fn hF hx12' hhi12 hxh u w' hg h)
      have HI3 := Lib.hid (fun w' u (hg : Good w') h => integral_fn hF hlo12 hhi12 hlh u w' hg h)
      have HII := Lib.hid (integral_add hF.asc hlx hxh)
      have f1 := sum12 hF.hv hF.asc hF.pos hF.len hlo12 hx12'
      have f2 := sum12 hF.hv hF.asc hF.pos hF.len hx12' hhi12
      have s1 := ratB_size (okR2 f1 (by decide) (by decide)).1
      have s2 := ratB_size (okR2 f2 (by decide) (by decide)).1
      have s3 := ratB_size (okR2 hxf (by decide) (by decide)).1
      have s4 := ratB_size (okR2 (hvF.fr (by decide)) (by decide) (by decide)).1
      have s5 := ratB_size (okR2 (hvG.fr (by decide)) (by decide) (by decide)).1
      have HLEN := Lib.hid (show ((simpG (slopeQ (addF F G)) (addF F G)).map textP).length ≤ ((addF F G).map textP).length by rw [List.length_map, List.length_map]; exact simpG_len _ _)
      have HA1 := Lib.hid (fun w' (hg : Good w') => rational_Add (tx (valueQ F x)) (tx (valueQ G x)) _ _ (isR_mk _) (isR_mk _) (by omega) (by omega) w' hg)
      have HA2 := Lib.hid (fun w' (hg : Good w') => rational_Sub (tx x) ⟨#[55, 47, 51]⟩ x (7 / 3) (isR_mk _) isR_73 (by omega) (by decide) w' hg)
      have HA3 := Lib.hid (fun w' (hg : Good w') => rational_Add (tx x) ⟨#[53]⟩ x 5 (isR_mk _) isR_5 (by omega) (by decide) w' hg)
      have HA4 := Lib.hid (fun w' (hg : Good w') => rational_Add (tx (sumQ F (stepsQ x lo F))) (tx (sumQ F (stepsQ hi x F))) _ _ (isR_mk _) (isR_mk _) (by omega) (by omega) w' hg)
      rw [HII.out] at HA4
      rw [← hlo] at HA2
      rw [← hhi] at HA3
      have HU := Lib.hid (fun (r : ByteArray) (y : Rat) (h : IsR r y) => show r = tx y from h.unique (isR_mk y))
      unfold OkList at HADD HSIM
      unfold RetV at HVF HVG HVS HVT HI1 HI2 HI3
      unfold fracV at HMK HTX
      clear hF hG hS1 hS2 hS3 hS4 hx hx12 hxf hxb h73 h5 hlo hhi hlo12 hhi12 hx12' hlx hxh hlh hvF hvG hvS hT1 HII f1 f2 s1 s2 s3 s4 s5
      generalize simpG (slopeQ (addF F G)) (addF F G) = T at *
      generalize addF F G = S at *
      generalize sumQ F (stepsQ x lo F) = i1 at *
      generalize sumQ F (stepsQ hi x F) = i2 at *
      generalize sumQ F (stepsQ hi lo F) = i3 at *
      obtain ⟨sm, hsm⟩ : ∃ sm, sm = valueQ F x + valueQ G x := ⟨_, rfl⟩
      rw [← hsm] at HVS HVT HA1
      clear hsm
      generalize valueQ F x = vf at *
      generalize valueQ G x = vg at *
      have HRA1 := Lib.hid (fun (r : ByteArray) (h : IsR r sm) => HU.out r sm h)
      have HRA2 := Lib.hid (fun (r : ByteArray) (h : IsR r lo) => HU.out r lo h)
      have HRA3 := Lib.hid (fun (r : ByteArray) (h : IsR r hi) => HU.out r hi h)
      have HRA4 := Lib.hid (fun (r : ByteArray) (h : IsR r i3) => HU.out r i3 h)
      clear HU
      generalize hxn : tx x = tX at *
      generalize hsn : tx sm = tS at *
      generalize hln : tx lo = tL at *
      generalize hhn : tx hi = tH at *
      generalize tx vf = tF at *
      generalize tx vg = tG at *
      generalize tx i1 = t1 at *
      generalize tx i2 = t2 at *
      generalize hin : tx i3 = t3 at *
      clear hxn hsn hln hhn hin
      generalize x.num = xn at *
      generalize (x.den : Int) = xd at *
      generalize DA.length = na at *
      generalize DB.length = nb at *
      go_enter Tryz.func11, Tryz.ntmps11
      go_wp2_with fail
      refine (HKN.out w (Below.refl _ _)).mono ?_
      rintro e w1 ⟨rfl, hb1⟩
      have hb01 := hb1
      go_wp2_with fail
      refine (HFA.out w1 hb01).mono ?_
      rintro e w2 ⟨v, rfl, hp, hb2⟩
      have hb02 := hb01.trans (hb2.mono hb01.size)
      obtain ⟨pA, cA, rfl, hzz⟩ := id hp
      clear hzz
      obtain ⟨nA, hnA⟩ : ∃ n, (F.map textP).length = n := ⟨_, rfl⟩
      rw [hnA] at hp ⊢
      have HPA := Lib.hid hp
      clear hp
      clear hnA
      go_wp2_with fail
      refine (HFB.out w2 hb02).mono ?_
      rintro e w3 ⟨v, rfl, hp, hb3⟩
      have hb03 := hb02.trans (hb3.mono hb02.size)
      replace HPA := Lib.hid (HPA.out.below hb3)
      obtain ⟨pB, cB, rfl, hzz⟩ := id hp
      clear hzz
      obtain ⟨nB, hnB⟩ : ∃ n, (G.map textP).length = n := ⟨_, rfl⟩
      rw [hnB] at hp ⊢
      have HPB := Lib.hid hp
      clear hp
      clear hnB
      go_wp2_with fail
      refine (HMK.out w3).mono ?_
      rintro e w4 ⟨rfl, hb4⟩
      have hb04 := hb03.trans (hb4.mono hb03.size)
      replace HPA := Lib.hid (HPA.out.below hb4)
      replace HPB := Lib.hid (HPB.out.below hb4)
      go_wp2_with fail
      refine (HTX.out w4).mono ?_
      rintro e w5 ⟨rfl, hb5⟩
      have hb05 := hb04.trans (hb5.mono hb04.size)
      replace HPA := Lib.hid (HPA.out.below hb5)
      replace HPB := Lib.hid (HPB.out.below hb5)
      go_wp2_with fail
      refine (HADD.out _ _ _ (hw.below hb05) HPA.out HPB.out).mono ?_
      rintro e w6 ⟨v, rfl, hp, hb6⟩
      have hb06 := hb05.trans (hb6.mono hb05.size)
      replace HPA := Lib.hid (HPA.out.below hb6)
      replace HPB := Lib.hid (HPB.out.below hb6)
      obtain ⟨pS, cS, rfl, hzz⟩ := id hp
      clear hzz
      obtain ⟨nS, hnS⟩ : ∃ n, (S.map textP).length = n := ⟨_, rfl⟩
      rw [hnS] at hp ⊢
      have HPS := Lib.hid hp
      clear hp
      go_wp2_with fail
      refine (HVF.out _ _ (hw.below hb06) HPA.out).mono ?_
      rintro e w7 ⟨rfl, hb7⟩
      have hb07 := hb06.trans (hb7.mono hb06.size)
      replace HPA := Lib.hid (HPA.out.below hb7)
      replace HPB := Lib.hid (HPB.out.below hb7)
      replace HPS := Lib.hid (HPS.out.below hb7)
      go_wp2_with fail
      refine (HVG.out _ _ (hw.below hb07) HPB.out).mono ?_
      rintro e w8 ⟨rfl, hb8⟩
      have hb08 := hb07.trans (hb8.mono hb07.size)
      replace HPA := Lib.hid (HPA.out.below hb8)
      replace HPB := Lib.hid (HPB.out.below hb8)
      replace HPS := Lib.hid (HPS.out.below hb8)
      go_wp2_with fail
      refine (HVS.out _ _ (hw.below hb08) HPS.out).mono ?_
      rintro e w9 ⟨rfl, hb9⟩
      have hb09 := hb08.trans (hb9.mono hb08.size)
      replace HPA := Lib.hid (HPA.out.below hb9)
      replace HPB := Lib.hid (HPB.out.below hb9)
      replace HPS := Lib.hid (HPS.out.below hb9)
      go_wp2_with fail
      refine (HA1.out w9 (hw.below hb09)).mono ?_
      rintro e w10 ⟨r, rfl, hr, hb10⟩
      have hb010 := hb09.trans (hb10.mono hb09.size)
      replace HPA := Lib.hid (HPA.out.below hb10)
      replace HPB := Lib.hid (HPB.out.below hb10)
      replace HPS := Lib.hid (HPS.out.below hb10)
      obtain rfl := HRA1.out _ hr
      clear hr
      go_wp2_with fail
      refine (HSIM.out _ _ (hw.below hb010) HPS.out).mono ?_
      rintro e w11 ⟨v, rfl, hp, hb11⟩
      have hb011 := hb010.trans (hb11.mono hb010.size)
      replace HPA := Lib.hid (HPA.out.below hb11)
      replace HPB := Lib.hid (HPB.out.below hb11)
      replace HPS := Lib.hid (HPS.out.below hb11)
      obtain ⟨pT, cT, rfl, hzz⟩ := id hp
      clear hzz
      obtain ⟨nT, hnT⟩ : ∃ n, (T.map textP).length = n := ⟨_, rfl⟩
      rw [hnT] at hp ⊢
      have HPT := Lib.hid hp
      clear hp
      have hle := HLEN.out
      rw [hnS, hnT] at hle
      have hled : decide ((nT : Int) ≤ (nS : Int)) = true := decide_eq_true (by omega)
      clear hnS hnT HLEN
      go_wp2_with fail
      refine (HVT.out _ _ (hw.below hb011) HPT.out).mono ?_
      rintro e w12 ⟨rfl, hb12⟩
      have hb012 := hb011.trans (hb12.mono hb011.size)
      replace HPA := Lib.hid (HPA.out.below hb12)
      replace HPB := Lib.hid (HPB.out.below hb12)
      replace HPS := Lib.hid (HPS.out.below hb12)
      replace HPT := Lib.hid (HPT.out.below hb12)
      go_wp2_with fail
      refine (HA2.out w12 (hw.below hb012)).mono ?_
      rintro e w13 ⟨r, rfl, hr, hb13⟩
      have hb013 := hb012.trans (hb13.mono hb012.size)
      replace HPA := Lib.hid (HPA.out.below hb13)
      replace HPB := Lib.hid (HPB.out.below hb13)
      replace HPS := Lib.hid (HPS.out.below hb13)
      replace HPT := Lib.hid (HPT.out.below hb13)
      obtain rfl := HRA2.out _ hr
      clear hr
      go_wp2_with fail
      refine (HA3.out w13 (hw.below hb013)).mono ?_
      rintro e w14 ⟨r, rfl, hr, hb14⟩
      have hb014 := hb013.trans (hb14.mono hb013.size)
      replace HPA := Lib.hid (HPA.out.below hb14)
      replace HPB := Lib.hid (HPB.out.below hb14)
      replace HPS := Lib.hid (HPS.out.below hb14)
      replace HPT := Lib.hid (HPT.out.below hb14)
      obtain rfl := HRA3.out _ hr
      clear hr
      go_wp2_with fail
      refine (HI1.out _ _ (hw.below hb014) HPA.out).mono ?_
      rintro e w15 ⟨rfl, hb15⟩
      have hb015 := hb014.trans (hb15.mono hb014.size)
      replace HPA := Lib.hid (HPA.out.below hb15)
      replace HPB := Lib.hid (HPB.out.below hb15)
      replace HPS := Lib.hid (HPS.out.below hb15)
      replace HPT := Lib.hid (HPT.out.below hb15)
      go_wp2_with fail
      refine (HI2.out _ _ (hw.below hb015) HPA.out).mono ?_
      rintro e w16 ⟨rfl, hb16⟩
      have hb016 := hb015.trans (hb16.mono hb015.size)
      replace HPA := Lib.hid (HPA.out.below hb16)
      replace HPB := Lib.hid (HPB.out.below hb16)
      replace HPS := Lib.hid (HPS.out.below hb16)
      replace HPT := Lib.hid (HPT.out.below hb16)
      go_wp2_with fail
      refine (HI3.out _ _ (hw.below hb016) HPA.out).mono ?_
      rintro e w17 ⟨rfl, hb17⟩
      have hb017 := hb016.trans (hb17.mono hb016.size)
      replace HPA := Lib.hid (HPA.out.below hb17)
      replace HPB := Lib.hid (HPB.out.below hb17)
      replace HPS := Lib.hid (HPS.out.below hb17)
      replace HPT := Lib.hid (HPT.out.below hb17)
      go_wp2_with fail
      refine (HA4.out w17 (hw.below hb017)).mono ?_
      rintro e w18 ⟨r, rfl, hr, hb18⟩
      have hb018 := hb017.trans (hb18.mono hb017.size)
      replace HPA := Lib.hid (HPA.out.below hb18)
      replace HPB := Lib.hid (HPB.out.below hb18)
      replace HPS := Lib.hid (HPS.out.below hb18)
      replace HPT := Lib.hid (HPT.out.below hb18)
      obtain rfl := HRA4.out _ hr
      clear hr
      go_wp2
      go_ret
      exact ⟨rfl, hb018⟩
end Go.Proofs.YtbogpbjddaoeiaaGreatDoor
