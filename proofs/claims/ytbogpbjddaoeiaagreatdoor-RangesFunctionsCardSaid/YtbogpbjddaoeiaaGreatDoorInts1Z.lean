import Derived.Test.YtbogpbjddaoeiaaGreatDoorValsZ
import Derived.Test.YtbogpbjddaoeiaaGreatDoorPtsZ
import Derived.Test.YtbogpbjddaoeiaaGreatDoorPlainQZ
import Derived.Test.YtbogpbjddaoeiaaGreatDoorDnZ
namespace Go.Proofs.YtbogpbjddaoeiaaGreatDoor
open Go.RowKit Go.Shelf
open Go.Lib (decDigits itoa nDigits)
theorem integral_ok (v : Value) (L : List Pair) (lo hi : ByteArray) (w : World) (hw : Good w) (hv : Pairs w v L) (hk : knotsErr L = 0) (hp : partErr lo hi = 0) (hr : ratB (rtext (sumI L (stepsP hi lo L))) = true) :
    Calls Tryz.prog 27 #[v, .agg #[.string lo, .string hi]] w (OkPost (sumI L (stepsP hi lo L)) w) := by
  obtain ⟨b1, b2, _⟩ := partErr_ok hp
  have s1 := ratB_size b1
  have s2 := ratB_size b2
  exact (ranges_Integral v L lo hi w hw hv (szOk_of (knotsErr_ok hk).1) (by omega) (by omega)).mono fun e w' h => okPost_of hr (h.1 (by unfold intErr; rw [if_pos hk, hp]))
theorem integral_err (v : Value) (L : List Pair) (lo hi : ByteArray) (k : Int) (w : World) (hw : Good w) (hv : Pairs w v L) (hk : knotsErr L = 0) (h1 : lo.size ≤ 4000000000) (h2 : hi.size ≤ 4000000000) (hp : partErr lo hi = k) (h0 : k ≠ 0) :
    Calls Tryz.prog 27 #[v, .agg #[.string lo, .string hi]] w (ErrPost (.string ⟨#[]⟩) k w) := by
  have hi0 : intErr L lo hi = k := by unfold intErr; rw [if_pos hk, hp]
  refine (ranges_Integral v L lo hi w hw hv (szOk_of (knotsErr_ok hk).1) h1 h2).mono fun e w' h => ?_
  have := h.2 (by rw [hi0]; exact h0)
  rw [hi0] at this
  exact this
theorem partErr_tx {lo hi : Rat} {N D N' D' : Nat} (h1 : Fr N D lo) (h2 : Fr N' D' hi) (a1 : N < 10 ^ 200) (a2 : D < 10 ^ 200) (b1 : N' < 10 ^ 200) (b2 : D' < 10 ^ 200) : partErr (tx lo) (tx hi) = if lo < hi then 0 else 7 := by
  obtain ⟨x1, x2⟩ := okR2 h1 a1 a2
  obtain ⟨y1, y2⟩ := okR2 h2 b1 b2
  unfold partErr
  rw [x1, y1, x2, y2]
  rfl
theorem sumI_tx {Q : List QP} {L : List Pair} (hL : rats L = Q) (hp : Q.Pairwise (fun x y => x.1 < y.1)) {lo hi : Rat} (hlo : ratV (tx lo) = lo) (hhi : ratV (tx hi) = hi) : sumI L (stepsP (tx hi) (tx lo) L) = sumQ Q (pairsQ lo (insQ lo hi Q ++ [hi])) := by
  rw [sumI_rats, stepsP_rats, hlo, hhi, hL, stepsQ_pairs _ _ _ hp]
theorem sumS_dn {Q : List QP} (h : Halved Q) (hp : Q.Pairwise (fun x y => x.1 < y.1)) (hl : 0 < Q.length) (h8 : Q.length ≤ 8) {lo hi : Rat} (hlo : Dn 192 2 lo) (hhi : Dn 192 2 hi) : Dn 552960000 13440 (sumQ Q (pairsQ lo (insQ lo hi Q ++ [hi]))) := by
  have hq := row_dn h hlo hhi
  have hln : (insQ lo hi Q ++ [hi]).length ≤ 9 := by
    have := insQ_len lo hi Q
    rw [List.length_append]; simp; omega
  rw [← sumK_full]
  exact sumK_dn h hp hl hq hln
def RetV (v : Value) (w : World) (e : Ending) (w' : World) : Prop := e = .returned v ∧ Below w.heap.size w w'
theorem retv_ok {q : Rat} {w : World} {e : Ending} {w' : World} (h : OkPost q w e w') : RetV (.tuple #[.string (tx q), .int .i64 0]) w e w' := by
  obtain ⟨r, he, hr, hb⟩ := h
  exact ⟨by rw [he, hr.unique (isR_mk q)], hb⟩
theorem bad00 : partErr ⟨#[48]⟩ ⟨#[48, 48]⟩ = 2 := by
  have h : ratB (⟨#[48, 48]⟩ : ByteArray).data.toList = false := by
    cases h : ratB (⟨#[48, 48]⟩ : ByteArray).data.toList
    · rfl
    · exfalso
      have h1 : ratOk [48, 48] := ratB_iff.1 h
      exact absurd ((ratOk_whole (by decide)).1 h1) (by decide)
  unfold partErr
  rw [h]
  simp
end Go.Proofs.YtbogpbjddaoeiaaGreatDoor
