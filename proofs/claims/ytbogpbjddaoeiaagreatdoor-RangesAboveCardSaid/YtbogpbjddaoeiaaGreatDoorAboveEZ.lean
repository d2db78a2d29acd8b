import Derived.Test.YtbogpbjddaoeiaaGreatDoorAbove2Z
import Derived.Test.YtbogpbjddaoeiaaGreatDoorValsZ
namespace Go.Proofs.YtbogpbjddaoeiaaGreatDoor
open Go.RowKit Go.Shelf
open Go.Lib (decDigits itoa nDigits)
theorem above_at (v : Value) (L : List Pair) (x lo hi : ByteArray) (hxs : x.size ≤ 4000000000) (w : World) (hw : Good w) (hv : Pairs w v L) (hsz : SzOk L) (hk : atErr L x ≠ 0) :
    Calls Tryz.prog 33 #[v, .string x, .agg #[.string lo, .string hi]] w (ErrPost (.slice none 0 0) (atErr L x) w) := by
  have hck := fun w' (hb : Below w.heap.size w w') => ranges_checkAt v L x w' (hw.below hb) (hv.below hb) hsz hxs
  obtain ⟨p, c, rfl, hc, hm, hxx⟩ := hv
  clear hxx hsz
  have HCK := Lib.hid hck
  have hne : (atErr L x != 0) = true := by simpa using hk
  have hne2 : (atErr L x == 0) = false := by simpa using hk
  clear hck hk
  go_enter Tryz.func33, Tryz.ntmps33
  go_wp2_with fail
  obtain ⟨wA, hwA⟩ : ∃ wA, wA = (((w.alloc (Obj.cells #[.slice p L.length c] 51)).alloc (Obj.cells #[.string x] 31)).alloc (Obj.cells #[.string lo, .string hi] 33)) := ⟨_, rfl⟩
  have hA0 : Below w.heap.size w wA := by rw [hwA]; exact (((alloc_below _ _).trans ((alloc_below _ _).mono (by simp only [World.size_alloc]; omega))).trans ((alloc_below _ _).mono (by simp only [World.size_alloc]; omega)))
  rw [← hwA]
  clear hwA
  refine (HCK.out wA hA0).mono ?_
  rintro e w1 ⟨rfl, hb1⟩
  generalize hpe : atErr L x = pe at hne hne2 ⊢
  have HPE := Lib.hid hpe
  clear hpe
  go_wp2
  go_ret2
  exact ⟨by rw [HPE.out]; rfl, hA0.trans (hb1.mono hA0.size)⟩
theorem above_part (v : Value) (L : List Pair) (x lo hi : ByteArray) (hxs : x.size ≤ 4000000000) (h1 : lo.size ≤ 4000000000) (h2 : hi.size ≤ 4000000000) (w : World) (hw : Good w) (hv : Pairs w v L) (hsz : SzOk L) (hk : atErr L x = 0) (hp : partErr lo hi ≠ 0) :
    Calls Tryz.prog 33 #[v, .string x, .agg #[.string lo, .string hi]] w (ErrPost (.slice none 0 0) (partErr lo hi) w) := by
  have hck := fun w' (hb : Below w.heap.size w w') => ranges_checkAt v L x w' (hw.below hb) (hv.below hb) hsz hxs
  have hpc := fun w' (hb : Below w.heap.size w w') => part_check lo hi h1 h2 w' (hw.below hb)
  rw [hk] at hck
  obtain ⟨p, c, rfl, hc, hm, hxx⟩ := hv
  clear hxx hsz
  have HCK := Lib.hid hck
  have HPC := Lib.hid hpc
  have hne : (partErr lo hi != 0) = true := by simpa using hp
  have hne2 : (partErr lo hi == 0) = false := by simpa using hp
  clear hck hk hpc hp
  go_enter Tryz.func33, Tryz.ntmps33
  go_wp2_with fail
  obtain ⟨wA, hwA⟩ : ∃ wA, wA = (((w.alloc (Obj.cells #[.slice p L.length c] 51)).alloc (Obj.cells #[.string x] 31)).alloc (Obj.cells #[.string lo, .string hi] 33)) := ⟨_, rfl⟩
  obtain ⟨hA0, hsA, a0, ax, a1, a2⟩ := three_boxes hwA
  rw [← hwA]
  clear hwA
  refine (HCK.out wA hA0).mono ?_
  rintro e w1 ⟨rfl, hb1⟩
  have b1 := (hb1.cell (p := ⟨w.heap.size + 2, 0, none⟩) (by simp; omega)).trans a1
  have b2 := (hb1.cell (p := ⟨w.heap.size + 2, 1, none⟩) (by simp; omega)).trans a2
  have hA1 := hA0.trans (hb1.mono hA0.size)
  clear a0 ax a1 a2 hsA
  go_wp2_with fail
  refine (HPC.out w1 hA1).mono ?_
  rintro e w2 ⟨rfl, hb2⟩
  generalize hpe : partErr lo hi = pe at hne hne2 ⊢
  have HPE := Lib.hid hpe
  clear hpe
  go_wp2
  go_ret2
  exact ⟨by rw [HPE.out]; rfl, hA1.trans (hb2.mono hA1.size)⟩
end Go.Proofs.YtbogpbjddaoeiaaGreatDoor
