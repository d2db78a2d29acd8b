import Derived.Test.YtbogpbjddaoeiaaGreatDoorIntgZ
import Derived.Shelf.SlGeneric
import Derived.Shelf.SlSortCmp.WholeK
import Derived.Shelf.SlicesQ.IndexFunc
import Derived.Shelf.SlicesE.Clone
import Derived.Test.YtbogpbjddaoeiaaGreatDoorDrawnZ
namespace Go.Proofs.YtbogpbjddaoeiaaGreatDoor
open Go.Shelf
def sortPart_ren : Go.Shelf.Ren := ⟨fun | 6 => 123 | 15 => 139 | 14 => 164 | 28 => 180 | 29 => 181 | 20 => 196 | 21 => 197 | 22 => 198 | 23 => 199 | 24 => 200 | 25 => 201 | 26 => 202 | 27 => 203 | 46 => 222 | 47 => 210 | 48 => 211 | 49 => 223 | 50 => 224 | 57 => 243 | n => n, fun | 22 => 22 | 24 => 33 | 25 => 168 | 3 => 3 | 39 => 182 | 0 => 0 | 53 => 229 | 55 => 231 | 4 => 4 | 46 => 223 | 45 => 222 | 50 => 188 | 5 => 5 | 9 => 9 | 66 => 258 | 70 => 262 | 76 => 272 | 77 => 273 | n => n, fun | n => n⟩
theorem sortPart : Go.Proofs.SlLaysF0.n6 Tryz.prog sortPart_ren := {
  mixed := by kernel_rfl,
  f6 := ⟨Tryz.f123.name, by decide, Tryz.func123.trans (congrArg some (by kernel_rfl))⟩,
  f14 := ⟨Tryz.f164.name, by decide, Tryz.func164.trans (congrArg some (by kernel_rfl))⟩,
  f15 := Tryz.func139.trans (congrArg some (by kernel_rfl)),
  f20 := ⟨Tryz.f196.name, by decide, Tryz.func196.trans (congrArg some (by kernel_rfl))⟩,
  f21 := ⟨Tryz.f197.name, by decide, Tryz.func197.trans (congrArg some (by kernel_rfl))⟩,
  f22 := ⟨Tryz.f198.name, by decide, Tryz.func198.trans (congrArg some (by kernel_rfl))⟩,
  f23 := ⟨Tryz.f199.name, by decide, Tryz.func199.trans (congrArg some (by kernel_rfl))⟩,
  f24 := ⟨Tryz.f200.name, by decide, Tryz.func200.trans (congrArg some (by kernel_rfl))⟩,
  f25 := ⟨Tryz.f201.name, by decide, Tryz.func201.trans (congrArg some (by kernel_rfl))⟩,
  f26 := ⟨Tryz.f202.name, by decide, Tryz.func202.trans (congrArg some (by kernel_rfl))⟩,
  f27 := ⟨Tryz.f203.name, by decide, Tryz.func203.trans (congrArg some (by kernel_rfl))⟩,
  f28 := Tryz.func180.trans (congrArg some (by kernel_rfl)),
  f29 := Tryz.func181.trans (congrArg some (by kernel_rfl)),
  f46 := ⟨Tryz.f222.name, by decide, Tryz.func222.trans (congrArg some (by kernel_rfl))⟩,
  f47 := Tryz.func210.trans (congrArg some (by kernel_rfl)),
  f48 := Tryz.func211.trans (congrArg some (by kernel_rfl)),
  f49 := ⟨Tryz.f223.name, by decide, Tryz.func223.trans (congrArg some (by kernel_rfl))⟩,
  f50 := ⟨Tryz.f224.name, by decide, Tryz.func224.trans (congrArg some (by kernel_rfl))⟩,
  f57 := ⟨Tryz.f243.name, by decide, Tryz.func243.trans (congrArg some (by kernel_rfl))⟩,
  t0 := Tryz.underlying0,
  a0 := Tryz.isAgg0,
  z0 := Tryz.sizeOf0,
  v0 := Tryz.zeroValue0,
  t3 := Tryz.underlying3,
  a3 := Tryz.isAgg3,
  z3 := Tryz.sizeOf3,
  v3 := Tryz.zeroValue3,
  t4 := Tryz.underlying4,
  a4 := Tryz.isAgg4,
  z4 := Tryz.sizeOf4,
  v4 := Tryz.zeroValue4,
  t5 := Tryz.underlying5,
  a5 := Tryz.isAgg5,
  z5 := Tryz.sizeOf5,
  v5 := Tryz.zeroValue5,
  t9 := Tryz.underlying9,
  a9 := Tryz.isAgg9,
  z9 := Tryz.sizeOf9,
  v9 := Tryz.zeroValue9,
  t22 := Tryz.underlying22,
  a22 := Tryz.isAgg22,
  z22 := Tryz.sizeOf22,
  v22 := Tryz.zeroValue22,
  t25 := Tryz.underlying168,
  a25 := Tryz.isAgg168,
  z25 := Tryz.sizeOf168,
  v25 := Tryz.zeroValue168,
  t39 := Tryz.underlying182,
  a39 := Tryz.isAgg182,
  z39 := Tryz.sizeOf182,
  v39 := Tryz.zeroValue182,
  t45 := Tryz.underlying222,
  a45 := Tryz.isAgg222,
  z45 := Tryz.sizeOf222,
  v45 := Tryz.zeroValue222,
  t46 := Tryz.underlying223,
  a46 := Tryz.isAgg223,
  z46 := Tryz.sizeOf223,
  v46 := Tryz.zeroValue223,
  t50 := Tryz.underlying188,
  a50 := Tryz.isAgg188,
  z50 := Tryz.sizeOf188,
  v50 := Tryz.zeroValue188,
  t53 := Tryz.underlying229,
  a53 := Tryz.isAgg229,
  z53 := Tryz.sizeOf229,
  v53 := Tryz.zeroValue229,
  t55 := Tryz.underlying231,
  a55 := Tryz.isAgg231,
  z55 := Tryz.sizeOf231,
  v55 := Tryz.zeroValue231,
  t66 := Tryz.underlying258,
  a66 := Tryz.isAgg258,
  z66 := Tryz.sizeOf258,
  v66 := Tryz.zeroValue258,
  t70 := Tryz.underlying262,
  a70 := Tryz.isAgg262,
  z70 := Tryz.sizeOf262,
  v70 := Tryz.zeroValue262,
  t76 := Tryz.underlying272,
  a76 := Tryz.isAgg272,
  z76 := Tryz.sizeOf272,
  v76 := Tryz.zeroValue272,
  t77 := Tryz.underlying273,
  a77 := Tryz.isAgg273,
  z77 := Tryz.sizeOf273,
  v77 := Tryz.zeroValue273 }
def hasPart_ren : Go.Shelf.Ren := ⟨fun | 8 => 85 | 6 => 134 | n => n, fun | 22 => 22 | 23 => 33 | 25 => 131 | 4 => 4 | 3 => 3 | 0 => 0 | n => n, fun | n => n⟩
theorem hasPart : Go.Proofs.SlLaysH0.n8 Tryz.prog hasPart_ren := {
  mixed := by kernel_rfl,
  f6 := ⟨Tryz.f134.name, by decide, Tryz.func134.trans (congrArg some (by kernel_rfl))⟩,
  f8 := ⟨Tryz.f85.name, by decide, Tryz.func85.trans (congrArg some (by kernel_rfl))⟩,
  t0 := Tryz.underlying0,
  a0 := Tryz.isAgg0,
  z0 := Tryz.sizeOf0,
  v0 := Tryz.zeroValue0,
  t3 := Tryz.underlying3,
  a3 := Tryz.isAgg3,
  z3 := Tryz.sizeOf3,
  v3 := Tryz.zeroValue3,
  t4 := Tryz.underlying4,
  a4 := Tryz.isAgg4,
  z4 := Tryz.sizeOf4,
  v4 := Tryz.zeroValue4,
  t22 := Tryz.underlying22,
  a22 := Tryz.isAgg22,
  z22 := Tryz.sizeOf22,
  v22 := Tryz.zeroValue22,
  t25 := Tryz.underlying131,
  a25 := Tryz.isAgg131,
  z25 := Tryz.sizeOf131,
  v25 := Tryz.zeroValue131 }
def clonePart_ren : Go.Shelf.Ren := ⟨fun | 41 => 122 | n => n, fun | 22 => 22 | 23 => 33 | 4 => 4 | n => n, fun | n => n⟩
theorem clonePart : Go.Proofs.SlLaysE0.n41 Tryz.prog clonePart_ren := {
  mixed := by kernel_rfl,
  f41 := ⟨Tryz.f122.name, by decide, Tryz.func122.trans (congrArg some (by kernel_rfl))⟩,
  t4 := Tryz.underlying4,
  a4 := Tryz.isAgg4,
  z4 := Tryz.sizeOf4,
  v4 := Tryz.zeroValue4,
  t22 := Tryz.underlying22,
  a22 := Tryz.isAgg22,
  z22 := Tryz.sizeOf22,
  v22 := Tryz.zeroValue22 }
end Go.Proofs.YtbogpbjddaoeiaaGreatDoor
namespace Go.Proofs.YtbogpbjddaoeiaaGreatDoor
open Go.RowKit Go.Shelf Go.Sort Go.Lib
open Go.Lib (decDigits itoa nDigits)
theorem zero_ok : ratB (⟨#[48]⟩ : ByteArray).data.toList = true := ratB_true ⟨0, rtext_zero.symm, by rw [Go.Lib.nDigits_small (by decide)]; decide, by rw [Go.Lib.nDigits_small (by decide)]; decide⟩
instance : Inhabited RP := ⟨⟨(⟨#[48]⟩, ⟨#[48]⟩), zero_ok, zero_ok⟩⟩
def encP (x : RP) : List Value := [.string x.1.1, .string x.1.2]
noncomputable def cfP (x y : RP) : Int := cmpR (ratV x.1.1) (ratV y.1.1)
theorem rat_lt_trans {p q r : Rat} (h1 : p < q) (h2 : q < r) : p < r := by
  rw [← Rat.not_le] at *
  intro h
  exact h2 (Rat.le_trans h (by have := Rat.not_le.1 h1; exact Rat.le_of_lt this))
theorem ltP (x y : RP) : ltOf cfP x y = decide (ratV x.1.1 < ratV y.1.1) := cmpR_lt_iff _ _
theorem swoP : SWO (ltOf cfP) where
  irrefl x := by rw [ltP]; simp
  trans x y z h1 h2 := by rw [ltP] at *; simp only [decide_eq_true_eq] at *; exact rat_lt_trans h1 h2
  ntrans x y z h1 h2 := by rw [ltP] at *; simp only [decide_eq_false_iff_not, Rat.not_lt] at *; exact Rat.le_trans h2 h1
theorem joined_cmp (x y : RP) (w : World) (hw : Good w) : Calls Tryz.prog 124 #[.agg #[.string x.1.1, .string x.1.2], .agg #[.string y.1.1, .string y.1.2]] w fun e w' => e = .returned (.int .i64 (cfP x y)) ∧ Below w.heap.size w w' := by
  obtain ⟨x1, x2, xs1, xs2⟩ := x.isR
  obtain ⟨y1, y2, ys1, ys2⟩ := y.isR
  have X1 := Lib.hid x1
  have Y1 := Lib.hid y1
  clear x1 x2 y1 y2
  obtain ⟨wA, hwA⟩ : ∃ wA, wA = (w.alloc (Obj.cells #[.string x.1.1, .string x.1.2] 33)).alloc (Obj.cells #[.string y.1.1, .string y.1.2] 33) := ⟨_, rfl⟩
  have hA0 : Below w.heap.size w wA := by rw [hwA]; exact (alloc_below _ _).trans ((alloc_below _ _).mono (by simp))
  go_enter Tryz.func124, Tryz.ntmps124
  go_wp2_with fail
  rw [← hwA]
  refine (rational_Compare x.1.1 y.1.1 _ _ X1.out Y1.out (by omega) (by omega) _ (hw.below hA0)).mono ?_
  rintro e w1 ⟨rfl, hb1⟩
  go_wp2
  go_ret
  exact ⟨rfl, hA0.trans (hb1.mono hA0.size)⟩
theorem below_sortWorldK {α : Type} [Inhabited α] (enc : α → List Value) (k : Nat) (w : World) (blk off m : Nat) (dk : Array α) (os : Array Obj) (hblk : blk < w.heap.size) : Below blk w (sortWorldK enc k w blk off m dk os) := by
  refine ⟨rfl, rfl, rfl, by simp [sortWorldK, grow, putRowK, putRow, mapBlock, Sort.ahead], fun j hj => ?_⟩
  show ((w.heap.modify blk _) ++ os)[j]? = _
  rw [Array.getElem?_append_left (by rw [Array.size_modify]; omega), Array.getElem?_modify, if_neg (by omega)]
theorem sort_parts (blk off cap : Nat) (d : Array RP) (w : World) (hw : Good w) (hb1 : 6 ≤ blk) (hblk : blk < w.heap.size) (hH : HoldsK encP 2 w blk off d) (hsz : d.size < 4611686018427387904) :
    Calls Tryz.prog 123 #[.slice (some ⟨blk, off, none⟩) d.size cap, .func (.func 124) #[] #[]] w fun e w' =>
      e = .returned (.tuple #[]) ∧ ∃ d' : Array RP, d'.size = d.size ∧ d'.toList.Perm d.toList ∧ (∀ i j, i < j → j < d'.size → ¬ ratV d'[j]!.1.1 < ratV d'[i]!.1.1) ∧ HoldsK encP 2 w' blk off d' ∧ Below blk w w' := by
  have eg : ∀ args w, (callFunc 124 args).run Tryz.prog w = .ok (.enter 124 args) w := enters_of Tryz.func124 (by kernel_rfl) rfl
  have hcmp : CmpLays Tryz.prog 124 #[] encP 2 cfP blk off d.size w := by
    intro m os dk hdk x y
    have hg : Good (sortWorldK encP 2 w blk off m dk os) := hw.mono (below_sortWorldK encP 2 w blk off m dk os hblk) hb1
    exact (calls_grown (joined_cmp x y _ hg) (fun e w' h => ⟨⟨_, h.1⟩, h.2⟩)).mono fun e w' h => ⟨h.1.1, h.2⟩
  have hcon := AnyQ.slices_SortFunc sortPart 2 Tryz.isAgg33 Tryz.sizeOf33 encP (fun _ => rfl) (fun x v hv => by simp [encP] at hv; rcases hv with rfl | rfl <;> rfl) cfP swoP 124 #[] blk off cap d w eg hcmp hH hblk hsz
  refine Calls.mono hcon ?_
  rintro e w' ⟨he, d', n, os, hp, hs, rfl⟩
  refine ⟨he, d', hp.1, ?_, ?_, holdsK_sortWorldK encP 2 w blk off n d d' os hblk hH hp.1, below_sortWorldK encP 2 w blk off n d' os hblk⟩
  · have h3 := hp.2.2
    have e1 : (d'.extract 0 d.size) = d' := by rw [← hp.1]; simp
    have e2 : (d.extract 0 d.size) = d := by simp
    rw [e1, e2] at h3
    exact h3
  · intro i j hij hj
    have := hs i j (Nat.zero_le _) hij (by rw [← hp.1]; exact hj)
    rw [ltP] at this
    exact of_decide_eq_false this
end Go.Proofs.YtbogpbjddaoeiaaGreatDoor
