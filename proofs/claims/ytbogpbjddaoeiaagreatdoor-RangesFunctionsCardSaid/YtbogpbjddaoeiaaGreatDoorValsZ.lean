import Derived.Test.YtbogpbjddaoeiaaGreatDoorIntgZ
namespace Go.Proofs.YtbogpbjddaoeiaaGreatDoor
open Go.RowKit Go.Shelf
open Go.Lib (decDigits itoa nDigits)
/-- a right text and no error -/
def OkPost (q : Rat) (w : World) (e : Ending) (w' : World) : Prop := ∃ r : ByteArray, e = .returned (.tuple #[.string r, .int .i64 0]) ∧ IsR r q ∧ Below w.heap.size w w'
theorem okPost_of {q : Rat} {w : World} {e : Ending} {w' : World} (hq : ratB (rtext q) = true) (h : ∃ r : ByteArray, IsR r q ∧ ResPost r w e w') : OkPost q w e w' := by
  obtain ⟨r, hr, ⟨v, rfl, hv⟩, hb⟩ := h
  have hr' : r.data.toList = rtext q := hr
  rw [hr', hq] at hv
  exact ⟨r, by rw [hv]; rfl, hr, hb⟩
theorem atErr_ok {L : List Pair} {x : ByteArray} (h1 : knotsErr L = 0) (h2 : ratB x.data.toList = true) : atErr L x = 0 := by unfold atErr; rw [if_pos h1, h2]; rfl
theorem atErr_two {L : List Pair} {x : ByteArray} (h1 : knotsErr L = 0) (h2 : ratB x.data.toList = false) : atErr L x = 2 := by unfold atErr; rw [if_pos h1, h2]; rfl
theorem value_num (v : Value) (L : List Pair) (x : ByteArray) (hxs : x.size ≤ 4000000000) (w : World) (hw : Good w) (hv : Pairs w v L) (hsz : SzOk L) (hk : knotsErr L = 0) (hx : ratB x.data.toList = false) :
    Calls Tryz.prog 36 #[v, .string x] w (ErrPost (.string ⟨#[]⟩) 2 w) := by
  have hck := ranges_checkAt v L x w hw hv hsz hxs
  rw [atErr_two hk hx] at hck
  have HCK := Lib.hid hck
  clear hck hv hsz hk hx
  go_enter Tryz.func36, Tryz.ntmps36
  go_wp2_with fail
  refine HCK.out.mono ?_
  rintro e w1 ⟨rfl, hb1⟩
  go_wp2
  go_ret2
  exact ⟨rfl, hb1⟩
theorem value_ok (v : Value) (L : List Pair) (x : ByteArray) (w : World) (hw : Good w) (hv : Pairs w v L) (hk : knotsErr L = 0) (hx : ratB x.data.toList = true) (hr : ratB (rtext (valueV L (ratV x))) = true) :
    Calls Tryz.prog 36 #[v, .string x] w (OkPost (valueV L (ratV x)) w) := by
  obtain ⟨hok, hasc, hl, hl0⟩ := knotsErr_ok hk
  have hxs := ratB_size hx
  have hsz : SzOk L := fun p hp => by
    have h1 := ratB_size (hok p hp).1
    have h2 := ratB_size (hok p hp).2
    omega
  have hck := ranges_checkAt v L x w hw hv hsz (by omega)
  rw [atErr_ok hk hx] at hck
  have HCK := Lib.hid hck
  have HVL := Lib.hid (fun w' (hb : Below w.heap.size w w') => ranges_value v L x (ratV x) (ratV_isR hx) (by omega) w' (hw.below hb) (hv.below hb) hok hasc (by omega) hl0)
  have HR := Lib.hid hr
  clear hck hv hsz hk hx hok hasc hr
  refine Calls.mono (R := fun e w' => ∃ r : ByteArray, IsR r (valueV L (ratV x)) ∧ ResPost r w e w') ?_ (fun e w' h => okPost_of HR.out h)
  generalize valueV L (ratV x) = VV at HVL
  go_enter Tryz.func36, Tryz.ntmps36
  go_wp2_with fail
  refine HCK.out.mono ?_
  rintro e w1 ⟨rfl, hb1⟩
  go_wp2_with fail
  refine (HVL.out w1 hb1).mono ?_
  rintro e w2 ⟨r, rfl, hr, hrs, hb2⟩
  have hb02 := hb1.trans (hb2.mono hb1.size)
  have HRR := Lib.hid hr
  clear hr
  go_wp2_with fail
  refine (ranges_result r (by omega) w2 (hw.below hb02)).mono ?_
  rintro e w3 ⟨⟨v3, rfl, hv3⟩, hb3⟩
  have hb03 := hb02.trans (hb3.mono hb02.size)
  cases hrb : ratB r.data.toList
  · rw [hrb] at hv3
    have HRB := Lib.hid hrb
    subst hv3
    clear hrb
    go_wp2
    go_ret2
    exact ⟨r, HRR.out, ⟨_, rfl, by rw [HRB.out]; rfl⟩, hb03⟩
  · rw [hrb] at hv3
    have HRB := Lib.hid hrb
    subst hv3
    clear hrb
    go_wp2
    go_ret2
    exact ⟨r, HRR.out, ⟨_, rfl, by rw [HRB.out]; rfl⟩, hb03⟩
theorem segment_ok (v : Value) (L : List Pair) (x : ByteArray) (w : World) (hw : Good w) (hv : Pairs w v L) (hk : knotsErr L = 0) (hx : ratB x.data.toList = true) :
    Calls Tryz.prog 37 #[v, .string x] w fun e w' => e = .returned (.tuple #[.int .i64 ((segN L (ratV x) : Nat) : Int), .int .i64 0]) ∧ Below w.heap.size w w' := by
  obtain ⟨hok, hasc, hl, hl0⟩ := knotsErr_ok hk
  have hxs := ratB_size hx
  have hsz : SzOk L := fun p hp => by
    have h1 := ratB_size (hok p hp).1
    have h2 := ratB_size (hok p hp).2
    omega
  have hck := ranges_checkAt v L x w hw hv hsz (by omega)
  rw [atErr_ok hk hx] at hck
  have HCK := Lib.hid hck
  have HSG := Lib.hid (fun w' (hb : Below w.heap.size w w') => ranges_segment v L x (ratV x) (ratV_isR hx) (by omega) w' (hw.below hb) (hv.below hb) hok (by omega))
  clear hck hv hsz hk hx hok hasc
  generalize segN L (ratV x) = sn at HSG
  go_enter Tryz.func37, Tryz.ntmps37
  go_wp2_with fail
  refine HCK.out.mono ?_
  rintro e w1 ⟨rfl, hb1⟩
  go_wp2_with fail
  refine (HSG.out w1 hb1).mono ?_
  rintro e w2 ⟨rfl, hb2⟩
  go_wp2
  go_ret2
  exact ⟨rfl, hb1.trans (hb2.mono hb1.size)⟩
theorem slope_range (v : Value) (L : List Pair) (n : Int) (w : World) (hw : Good w) (hv : Pairs w v L) (hk : knotsErr L = 0) (hn : n < 0 ∨ (L.length : Int) < n) :
    Calls Tryz.prog 38 #[v, .int .i64 n] w (ErrPost (.string ⟨#[]⟩) 3 w) := by
  obtain ⟨hok, hasc, hl, hl0⟩ := knotsErr_ok hk
  have hsz : SzOk L := fun p hp => by
    have h1 := ratB_size (hok p hp).1
    have h2 := ratB_size (hok p hp).2
    omega
  have hck := ranges_CheckKnots v L w hw hv hsz
  rw [hk] at hck
  have HCK := Lib.hid hck
  obtain ⟨p, c, rfl, hc, hm, hxx⟩ := hv
  clear hck hsz hk hok hasc hxx
  by_cases h0 : n < 0
  · have e1 : decide (n < 0) = true := decide_eq_true h0
    generalize L.length = ll at hc HCK hn ⊢
    go_enter Tryz.func38, Tryz.ntmps38
    go_wp2_with fail
    refine HCK.out.mono ?_
    rintro e w1 ⟨rfl, hb1⟩
    go_wp2
    go_ret2
    exact ⟨rfl, hb1⟩
  · have e1 : decide (n < 0) = false := decide_eq_false h0
    have e2 : decide ((L.length : Int) < n) = true := decide_eq_true (by omega)
    generalize L.length = ll at hc HCK hn e2 ⊢
    go_enter Tryz.func38, Tryz.ntmps38
    go_wp2_with fail
    refine HCK.out.mono ?_
    rintro e w1 ⟨rfl, hb1⟩
    go_wp2
    go_ret2
    exact ⟨rfl, hb1⟩
theorem slope_ok (v : Value) (L : List Pair) (n : Nat) (w : World) (hw : Good w) (hv : Pairs w v L) (hk : knotsErr L = 0) (hn : n ≤ L.length) (hr : ratB (rtext (slopeV L n)) = true) :
    Calls Tryz.prog 38 #[v, .int .i64 (n : Int)] w (OkPost (slopeV L n) w) := by
  obtain ⟨hok, hasc, hl, hl0⟩ := knotsErr_ok hk
  have hsz : SzOk L := fun p hp => by
    have h1 := ratB_size (hok p hp).1
    have h2 := ratB_size (hok p hp).2
    omega
  have hck := ranges_CheckKnots v L w hw hv hsz
  rw [hk] at hck
  have HCK := Lib.hid hck
  have HSL := Lib.hid (fun w' (hb : Below w.heap.size w w') => ranges_slope v L n w' (hw.below hb) (hv.below hb) hok hasc (by omega) hn)
  have HR := Lib.hid hr
  obtain ⟨p, c, rfl, hc, hm, hxx⟩ := hv
  have e1 : decide ((n : Int) < 0) = false := decide_eq_false (by omega)
  have e2 : decide ((L.length : Int) < (n : Int)) = false := decide_eq_false (by omega)
  clear hck hsz hk hok hasc hr hxx
  refine Calls.mono (R := fun e w' => ∃ r : ByteArray, IsR r (slopeV L n) ∧ ResPost r w e w') ?_ (fun e w' h => okPost_of HR.out h)
  generalize slopeV L n = VV at HSL
  generalize L.length = ll at hc HCK HSL hn e2 ⊢
  go_enter Tryz.func38, Tryz.ntmps38
  go_wp2_with fail
  refine HCK.out.mono ?_
  rintro e w1 ⟨rfl, hb1⟩
  go_wp2_with fail
  refine (HSL.out w1 hb1).mono ?_
  rintro e w2 ⟨r, rfl, hr, hrs, hb2⟩
  have hb02 := hb1.trans (hb2.mono hb1.size)
  have HRR := Lib.hid hr
  clear hr
  go_wp2_with fail
  refine (ranges_result r (by omega) w2 (hw.below hb02)).mono ?_
  rintro e w3 ⟨⟨v3, rfl, hv3⟩, hb3⟩
  have hb03 := hb02.trans (hb3.mono hb02.size)
  cases hrb : ratB r.data.toList
  · rw [hrb] at hv3
    have HRB := Lib.hid hrb
    subst hv3
    clear hrb
    go_wp2
    go_ret2
    exact ⟨r, HRR.out, ⟨_, rfl, by rw [HRB.out]; rfl⟩, hb03⟩
  · rw [hrb] at hv3
    have HRB := Lib.hid hrb
    subst hv3
    clear hrb
    go_wp2
    go_ret2
    exact ⟨r, HRR.out, ⟨_, rfl, by rw [HRB.out]; rfl⟩, hb03⟩
end Go.Proofs.YtbogpbjddaoeiaaGreatDoor
