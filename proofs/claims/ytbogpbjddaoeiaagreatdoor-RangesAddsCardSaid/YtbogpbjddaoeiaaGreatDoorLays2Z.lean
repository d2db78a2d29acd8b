import Derived.Test.YtbogpbjddaoeiaaGreatDoorJoin0Z
import Derived.Shelf.SlGeneric
import Derived.Shelf.SlSortCmp.NoneTotal
import Derived.Shelf.SlicesE.Compact
import Derived.Test.YtbogpbjddaoeiaaGreatDoorPlainQZ
import Derived.Deep.WholeRow
namespace Go.Proofs.YtbogpbjddaoeiaaGreatDoor
open Go.Shelf
def sortText_ren : Go.Shelf.Ren := ⟨fun | 6 => 95 | 15 => 139 | 14 => 138 | 28 => 180 | 29 => 181 | 20 => 172 | 21 => 173 | 22 => 174 | 23 => 175 | 24 => 176 | 25 => 177 | 26 => 178 | 27 => 179 | 46 => 209 | 47 => 210 | 48 => 211 | 49 => 212 | 50 => 213 | 57 => 230 | n => n, fun | 22 => 63 | 24 => 31 | 25 => 117 | 3 => 3 | 39 => 182 | 0 => 0 | 53 => 229 | 55 => 231 | 4 => 4 | 46 => 223 | 45 => 222 | 50 => 188 | 5 => 5 | 9 => 9 | 66 => 258 | 70 => 262 | 76 => 272 | 77 => 273 | n => n, fun | n => n⟩
theorem sortText : Go.Proofs.SlLaysF.n6 Tryz.prog sortText_ren := {
  mixed := by kernel_rfl,
  f6 := ⟨Tryz.f95.name, by decide, Tryz.func95.trans (congrArg some (by kernel_rfl))⟩,
  f14 := ⟨Tryz.f138.name, by decide, Tryz.func138.trans (congrArg some (by kernel_rfl))⟩,
  f15 := Tryz.func139.trans (congrArg some (by kernel_rfl)),
  f20 := ⟨Tryz.f172.name, by decide, Tryz.func172.trans (congrArg some (by kernel_rfl))⟩,
  f21 := ⟨Tryz.f173.name, by decide, Tryz.func173.trans (congrArg some (by kernel_rfl))⟩,
  f22 := ⟨Tryz.f174.name, by decide, Tryz.func174.trans (congrArg some (by kernel_rfl))⟩,
  f23 := ⟨Tryz.f175.name, by decide, Tryz.func175.trans (congrArg some (by kernel_rfl))⟩,
  f24 := ⟨Tryz.f176.name, by decide, Tryz.func176.trans (congrArg some (by kernel_rfl))⟩,
  f25 := ⟨Tryz.f177.name, by decide, Tryz.func177.trans (congrArg some (by kernel_rfl))⟩,
  f26 := ⟨Tryz.f178.name, by decide, Tryz.func178.trans (congrArg some (by kernel_rfl))⟩,
  f27 := ⟨Tryz.f179.name, by decide, Tryz.func179.trans (congrArg some (by kernel_rfl))⟩,
  f28 := Tryz.func180.trans (congrArg some (by kernel_rfl)),
  f29 := Tryz.func181.trans (congrArg some (by kernel_rfl)),
  f46 := ⟨Tryz.f209.name, by decide, Tryz.func209.trans (congrArg some (by kernel_rfl))⟩,
  f47 := Tryz.func210.trans (congrArg some (by kernel_rfl)),
  f48 := Tryz.func211.trans (congrArg some (by kernel_rfl)),
  f49 := ⟨Tryz.f212.name, by decide, Tryz.func212.trans (congrArg some (by kernel_rfl))⟩,
  f50 := ⟨Tryz.f213.name, by decide, Tryz.func213.trans (congrArg some (by kernel_rfl))⟩,
  f57 := ⟨Tryz.f230.name, by decide, Tryz.func230.trans (congrArg some (by kernel_rfl))⟩,
  t0 := Tryz.underlying0,
  a0 := Tryz.isAgg0,
  z0 := Tryz.sizeOf0,
  v0 := Tryz.zeroValue0,
  t3 := Tryz.underlying3,
  a3 := Tryz.isAgg3,
  z3 := Tryz.sizeOf3,
  v3 := Tryz.zeroValue3,
  t4 := Tryz.underlying4,
  a4 := Tryz.isAgg4,
  z4 := Tryz.sizeOf4,
  v4 := Tryz.zeroValue4,
  t5 := Tryz.underlying5,
  a5 := Tryz.isAgg5,
  z5 := Tryz.sizeOf5,
  v5 := Tryz.zeroValue5,
  t9 := Tryz.underlying9,
  a9 := Tryz.isAgg9,
  z9 := Tryz.sizeOf9,
  v9 := Tryz.zeroValue9,
  t22 := Tryz.underlying63,
  a22 := Tryz.isAgg63,
  z22 := Tryz.sizeOf63,
  v22 := Tryz.zeroValue63,
  a24 := Tryz.isAgg31,
  z24 := Tryz.sizeOf31,
  t25 := Tryz.underlying117,
  a25 := Tryz.isAgg117,
  z25 := Tryz.sizeOf117,
  v25 := Tryz.zeroValue117,
  t39 := Tryz.underlying182,
  a39 := Tryz.isAgg182,
  z39 := Tryz.sizeOf182,
  v39 := Tryz.zeroValue182,
  t45 := Tryz.underlying222,
  a45 := Tryz.isAgg222,
  z45 := Tryz.sizeOf222,
  v45 := Tryz.zeroValue222,
  t46 := Tryz.underlying223,
  a46 := Tryz.isAgg223,
  z46 := Tryz.sizeOf223,
  v46 := Tryz.zeroValue223,
  t50 := Tryz.underlying188,
  a50 := Tryz.isAgg188,
  z50 := Tryz.sizeOf188,
  v50 := Tryz.zeroValue188,
  t53 := Tryz.underlying229,
  a53 := Tryz.isAgg229,
  z53 := Tryz.sizeOf229,
  v53 := Tryz.zeroValue229,
  t55 := Tryz.underlying231,
  a55 := Tryz.isAgg231,
  z55 := Tryz.sizeOf231,
  v55 := Tryz.zeroValue231,
  t66 := Tryz.underlying258,
  a66 := Tryz.isAgg258,
  z66 := Tryz.sizeOf258,
  v66 := Tryz.zeroValue258,
  t70 := Tryz.underlying262,
  a70 := Tryz.isAgg262,
  z70 := Tryz.sizeOf262,
  v70 := Tryz.zeroValue262,
  t76 := Tryz.underlying272,
  a76 := Tryz.isAgg272,
  z76 := Tryz.sizeOf272,
  v76 := Tryz.zeroValue272,
  t77 := Tryz.underlying273,
  a77 := Tryz.isAgg273,
  z77 := Tryz.sizeOf273,
  v77 := Tryz.zeroValue273 }
def sortTextN_ren : Go.Shelf.Ren := ⟨fun | 6 => 95 | 15 => 139 | 14 => 138 | 28 => 180 | 29 => 181 | 20 => 172 | 21 => 173 | 22 => 174 | 23 => 175 | 24 => 176 | 25 => 177 | 26 => 178 | 27 => 179 | 46 => 209 | 47 => 210 | 48 => 211 | 49 => 212 | 50 => 213 | 57 => 230 | n => n, fun | 22 => 63 | 24 => 31 | 25 => 117 | 3 => 3 | 39 => 182 | 0 => 0 | 53 => 229 | 55 => 231 | 4 => 4 | 46 => 223 | 45 => 222 | 50 => 188 | 5 => 5 | 9 => 9 | 66 => 258 | 70 => 262 | 76 => 272 | 77 => 273 | n => n, fun | n => n⟩
theorem sortTextN : Go.Proofs.SlLaysF0.n6 Tryz.prog sortTextN_ren := {
  mixed := by kernel_rfl,
  f6 := ⟨Tryz.f95.name, by decide, Tryz.func95.trans (congrArg some (by kernel_rfl))⟩,
  f14 := ⟨Tryz.f138.name, by decide, Tryz.func138.trans (congrArg some (by kernel_rfl))⟩,
  f15 := Tryz.func139.trans (congrArg some (by kernel_rfl)),
  f20 := ⟨Tryz.f172.name, by decide, Tryz.func172.trans (congrArg some (by kernel_rfl))⟩,
  f21 := ⟨Tryz.f173.name, by decide, Tryz.func173.trans (congrArg some (by kernel_rfl))⟩,
  f22 := ⟨Tryz.f174.name, by decide, Tryz.func174.trans (congrArg some (by kernel_rfl))⟩,
  f23 := ⟨Tryz.f175.name, by decide, Tryz.func175.trans (congrArg some (by kernel_rfl))⟩,
  f24 := ⟨Tryz.f176.name, by decide, Tryz.func176.trans (congrArg some (by kernel_rfl))⟩,
  f25 := ⟨Tryz.f177.name, by decide, Tryz.func177.trans (congrArg some (by kernel_rfl))⟩,
  f26 := ⟨Tryz.f178.name, by decide, Tryz.func178.trans (congrArg some (by kernel_rfl))⟩,
  f27 := ⟨Tryz.f179.name, by decide, Tryz.func179.trans (congrArg some (by kernel_rfl))⟩,
  f28 := Tryz.func180.trans (congrArg some (by kernel_rfl)),
  f29 := Tryz.func181.trans (congrArg some (by kernel_rfl)),
  f46 := ⟨Tryz.f209.name, by decide, Tryz.func209.trans (congrArg some (by kernel_rfl))⟩,
  f47 := Tryz.func210.trans (congrArg some (by kernel_rfl)),
  f48 := Tryz.func211.trans (congrArg some (by kernel_rfl)),
  f49 := ⟨Tryz.f212.name, by decide, Tryz.func212.trans (congrArg some (by kernel_rfl))⟩,
  f50 := ⟨Tryz.f213.name, by decide, Tryz.func213.trans (congrArg some (by kernel_rfl))⟩,
  f57 := ⟨Tryz.f230.name, by decide, Tryz.func230.trans (congrArg some (by kernel_rfl))⟩,
  t0 := Tryz.underlying0,
  a0 := Tryz.isAgg0,
  z0 := Tryz.sizeOf0,
  v0 := Tryz.zeroValue0,
  t3 := Tryz.underlying3,
  a3 := Tryz.isAgg3,
  z3 := Tryz.sizeOf3,
  v3 := Tryz.zeroValue3,
  t4 := Tryz.underlying4,
  a4 := Tryz.isAgg4,
  z4 := Tryz.sizeOf4,
  v4 := Tryz.zeroValue4,
  t5 := Tryz.underlying5,
  a5 := Tryz.isAgg5,
  z5 := Tryz.sizeOf5,
  v5 := Tryz.zeroValue5,
  t9 := Tryz.underlying9,
  a9 := Tryz.isAgg9,
  z9 := Tryz.sizeOf9,
  v9 := Tryz.zeroValue9,
  t22 := Tryz.underlying63,
  a22 := Tryz.isAgg63,
  z22 := Tryz.sizeOf63,
  v22 := Tryz.zeroValue63,
  t25 := Tryz.underlying117,
  a25 := Tryz.isAgg117,
  z25 := Tryz.sizeOf117,
  v25 := Tryz.zeroValue117,
  t39 := Tryz.underlying182,
  a39 := Tryz.isAgg182,
  z39 := Tryz.sizeOf182,
  v39 := Tryz.zeroValue182,
  t45 := Tryz.underlying222,
  a45 := Tryz.isAgg222,
  z45 := Tryz.sizeOf222,
  v45 := Tryz.zeroValue222,
  t46 := Tryz.underlying223,
  a46 := Tryz.isAgg223,
  z46 := Tryz.sizeOf223,
  v46 := Tryz.zeroValue223,
  t50 := Tryz.underlying188,
  a50 := Tryz.isAgg188,
  z50 := Tryz.sizeOf188,
  v50 := Tryz.zeroValue188,
  t53 := Tryz.underlying229,
  a53 := Tryz.isAgg229,
  z53 := Tryz.sizeOf229,
  v53 := Tryz.zeroValue229,
  t55 := Tryz.underlying231,
  a55 := Tryz.isAgg231,
  z55 := Tryz.sizeOf231,
  v55 := Tryz.zeroValue231,
  t66 := Tryz.underlying258,
  a66 := Tryz.isAgg258,
  z66 := Tryz.sizeOf258,
  v66 := Tryz.zeroValue258,
  t70 := Tryz.underlying262,
  a70 := Tryz.isAgg262,
  z70 := Tryz.sizeOf262,
  v70 := Tryz.zeroValue262,
  t76 := Tryz.underlying272,
  a76 := Tryz.isAgg272,
  z76 := Tryz.sizeOf272,
  v76 := Tryz.zeroValue272,
  t77 := Tryz.underlying273,
  a77 := Tryz.isAgg273,
  z77 := Tryz.sizeOf273,
  v77 := Tryz.zeroValue273 }
def compText_ren : Go.Shelf.Ren := ⟨fun | 43 => 96 | n => n, fun | 22 => 63 | 23 => 31 | 3 => 3 | 4 => 4 | 0 => 0 | n => n, fun | n => n⟩
theorem compText : Go.Proofs.SlLaysE.n43 Tryz.prog compText_ren := {
  mixed := by kernel_rfl,
  f43 := ⟨Tryz.f96.name, by decide, Tryz.func96.trans (congrArg some (by kernel_rfl))⟩,
  t0 := Tryz.underlying0,
  a0 := Tryz.isAgg0,
  z0 := Tryz.sizeOf0,
  v0 := Tryz.zeroValue0,
  t3 := Tryz.underlying3,
  a3 := Tryz.isAgg3,
  z3 := Tryz.sizeOf3,
  v3 := Tryz.zeroValue3,
  t4 := Tryz.underlying4,
  a4 := Tryz.isAgg4,
  z4 := Tryz.sizeOf4,
  v4 := Tryz.zeroValue4,
  t22 := Tryz.underlying63,
  a22 := Tryz.isAgg63,
  z22 := Tryz.sizeOf63,
  v22 := Tryz.zeroValue63,
  a23 := Tryz.isAgg31,
  z23 := Tryz.sizeOf31 }
end Go.Proofs.YtbogpbjddaoeiaaGreatDoor
namespace Go.Proofs.YtbogpbjddaoeiaaGreatDoor
open Go.RowKit Go.Shelf Go.Sort Go.Lib
/-- a right text -/
abbrev TP := { s : ByteArray // ratB s.data.toList = true }
instance : Inhabited TP := ⟨⟨⟨#[48]⟩, zero_ok⟩⟩
def encT (x : TP) : Value := .string x.1
noncomputable def cfT (x y : TP) : Int := cmpR (ratV x.1) (ratV y.1)
theorem ltT (x y : TP) : ltOf cfT x y = decide (ratV x.1 < ratV y.1) := cmpR_lt_iff _ _
theorem swoT : SWO (ltOf cfT) where
  irrefl x := by rw [ltT]; simp
  trans x y z h1 h2 := by rw [ltT] at *; simp only [decide_eq_true_eq] at *; exact rat_lt_trans h1 h2
  ntrans x y z h1 h2 := by rw [ltT] at *; simp only [decide_eq_false_iff_not, Rat.not_lt] at *; exact Rat.le_trans h2 h1
/-- right texts of one number are one text -/
theorem tp_ext {x y : TP} (h : ratV x.1 = ratV y.1) : x = y := by
  apply Subtype.ext
  have h1 := ratV_isR x.2
  have h2 := ratV_isR y.2
  rw [h] at h1
  exact h1.unique h2
theorem text_cmp (x y : TP) (w : World) (hw : Good w) : Calls Tryz.prog 70 #[encT x, encT y] w fun e w' => e = .returned (.int .i64 (cfT x y)) ∧ Below w.heap.size w w' := by
  have s1 := ratB_size x.2
  have s2 := ratB_size y.2
  exact rational_Compare x.1 y.1 _ _ (ratV_isR x.2) (ratV_isR y.2) (by omega) (by omega) w hw
theorem below_putRow {α : Type} [Inhabited α] (enc : α → Value) (w : World) (q blk off : Nat) (d : Array α) : Below blk w (putRow enc (Sort.ahead w q) blk off d) := by
  refine ⟨rfl, rfl, rfl, by simp [putRow, mapBlock, Sort.ahead], fun j hj => ?_⟩
  show (w.heap.modify blk _)[j]? = _
  rw [Array.getElem?_modify, if_neg (by omega)]
theorem below_sortWorld {α : Type} [Inhabited α] (enc : α → Value) (w : World) (blk off m : Nat) (dk : Array α) (os : Array Obj) (hblk : blk < w.heap.size) : Below blk w (sortWorld enc w blk off m dk os) := by
  refine ⟨rfl, rfl, rfl, by simp [sortWorld, grow, putRow, mapBlock, Sort.ahead], fun j hj => ?_⟩
  show ((w.heap.modify blk _) ++ os)[j]? = _
  rw [Array.getElem?_append_left (by rw [Array.size_modify]; omega), Array.getElem?_modify, if_neg (by omega)]
/-- the block keeps its kind -/
def KeepsT (blk : Nat) (w w' : World) : Prop := ∀ (c : Array Value) (t : TypeId) (fz : Nat × Nat), w.heap[blk]? = some (Obj.cells c t fz) → ∃ c', w'.heap[blk]? = some (Obj.cells c' t fz)
theorem keepsT_putRow {α : Type} [Inhabited α] (enc : α → Value) (w : World) (q blk off : Nat) (d : Array α) : KeepsT blk w (putRow enc (Sort.ahead w q) blk off d) := by
  intro c t fz h
  refine ⟨putCells enc off d c, ?_⟩
  show (w.heap.modify blk _)[blk]? = _
  rw [Array.getElem?_modify, if_pos rfl, h]
  rfl
theorem keepsT_sortWorld {α : Type} [Inhabited α] (enc : α → Value) (w : World) (blk off m : Nat) (dk : Array α) (os : Array Obj) : KeepsT blk w (sortWorld enc w blk off m dk os) := by
  intro c t fz h
  have hl : blk < w.heap.size := (Array.getElem?_eq_some_iff.1 h).1
  refine ⟨putCells enc off dk c, ?_⟩
  show ((w.heap.modify blk _) ++ os)[blk]? = _
  rw [Array.getElem?_append_left (by rw [Array.size_modify]; exact hl), Array.getElem?_modify, if_pos rfl, h]
  rfl
/-- what the sort leaves -/
def SortT (blk off : Nat) (d : Array TP) (w : World) (e : Ending) (w' : World) : Prop :=
  e = .returned (.tuple #[]) ∧ ∃ d' : Array TP, d'.size = d.size ∧ d'.toList.Perm d.toList ∧ (∀ i j, i < j → j < d'.size → ¬ ratV d'[j]!.1 < ratV d'[i]!.1) ∧ Holds encT w' blk off d' ∧ Below blk w w' ∧ blk < w'.heap.size ∧ KeepsT blk w w'
theorem sort_texts (blk off cap : Nat) (d : Array TP) (w : World) (hw : Good w) (hb1 : 6 ≤ blk) (hblk : blk < w.heap.size) (hH : Holds encT w blk off d) (hsz : d.size < 4611686018427387904) :
    Calls Tryz.prog 95 #[.slice (some ⟨blk, off, none⟩) d.size cap, .func (.func 70) #[] #[]] w (SortT blk off d w) := by
  have eg : ∀ args w, (callFunc 70 args).run Tryz.prog w = .ok (.enter 70 args) w := enters_of Tryz.func70 (by kernel_rfl) rfl
  have hcmp : CmpLays1 Tryz.prog 70 #[] encT cfT blk off d.size w := by
    intro m os dk hdk x y
    have hg : Good (sortWorld encT w blk off m dk os) := hw.mono (below_sortWorld encT w blk off m dk os hblk) hb1
    exact (calls_grown (text_cmp x y _ hg) (fun e w' h => ⟨⟨_, h.1⟩, h.2⟩)).mono fun e w' h => ⟨h.1.1, h.2⟩
  have hcon := Any.slices_SortFunc sortText encT (fun _ => rfl) cfT swoT 70 #[] blk off cap d w eg hcmp hH hblk hsz
  refine Calls.mono hcon ?_
  rintro e w' ⟨he, d', n, os, hp, hs, rfl⟩
  refine ⟨he, d', hp.1, ?_, ?_, holds_sortWorld encT w blk off n d d' os hblk hH hp.1, below_sortWorld encT w blk off n d' os hblk, lt_sortWorld encT w blk off n d' os hblk, keepsT_sortWorld encT w blk off n d' os⟩
  · have h3 := hp.2.2
    have e1 : (d'.extract 0 d.size) = d' := by rw [← hp.1]; simp
    have e2 : (d.extract 0 d.size) = d := by simp
    rw [e1, e2] at h3
    exact h3
  · intro i j hij hj
    have := hs i j (Nat.zero_le _) hij (by rw [← hp.1]; exact hj)
    rw [ltT] at this
    exact of_decide_eq_false this
theorem rat_lt_or_eq {p q : Rat} (h : p ≤ q) : p < q ∨ p = q := by
  by_cases h1 : p < q
  · exact .inl h1
  · exact .inr (Rat.le_antisymm h (Rat.not_lt.1 h1))
/-- what Compact keeps of a sorted row: strictly ascending, and nothing is lost -/
theorem compact_asc (d : Array TP) (hs : ∀ i j, i < j → j < d.size → ¬ ratV d[j]!.1 < ratV d[i]!.1) : ∀ m, m ≤ d.size →
    (compactUpTo d m).Pairwise (fun x y => ratV x.1 < ratV y.1) ∧ (∀ x ∈ compactUpTo d m, ∃ j, j < m ∧ d[j]! = x) ∧ ∀ j, j < m → d[j]! ∈ compactUpTo d m
  | 0, _ => ⟨List.Pairwise.nil, fun x hx => (by cases hx), fun j hj => (by omega)⟩
  | m + 1, hm => by
    obtain ⟨h1, h2, h3⟩ := compact_asc d hs m (by omega)
    rw [compactUpTo_succ]
    cases hk : keeps d m
    · rw [if_neg (by simp), List.append_nil]
      refine ⟨h1, fun x hx => ?_, fun j hj => ?_⟩
      · obtain ⟨j, hj, e⟩ := h2 x hx
        exact ⟨j, by omega, e⟩
      · by_cases hjm : j = m
        · subst hjm
          have hk' : ¬ (j = 0 ∨ d[j]! ≠ d[j - 1]!) := of_decide_eq_false hk
          have hj0 : j ≠ 0 := fun h => hk' (.inl h)
          have he : d[j]! = d[j - 1]! := Decidable.byContradiction fun h => hk' (.inr h)
          rw [he]
          exact h3 (j - 1) (by omega)
        · exact h3 j (by omega)
    · rw [if_pos rfl]
      refine ⟨List.pairwise_append.2 ⟨h1, List.pairwise_singleton _ _, fun x hx y hy => ?_⟩, fun x hx => ?_, fun j hj => ?_⟩
      · rw [List.mem_singleton.1 hy]
        obtain ⟨j, hj, rfl⟩ := h2 x hx
        have hk' : m = 0 ∨ d[m]! ≠ d[m - 1]! := of_decide_eq_true hk
        rcases hk' with hk' | hk'
        · omega
        · have a1 := Rat.not_lt.1 (hs j m hj (by omega))
          by_cases hjm : j = m - 1
          · subst hjm
            rcases rat_lt_or_eq a1 with h | h
            · exact h
            · exact (hk' (tp_ext h.symm)).elim
          · have a2 := Rat.not_lt.1 (hs j (m - 1) (by omega) (by omega))
            have a3 := Rat.not_lt.1 (hs (m - 1) m (by omega) (by omega))
            rcases rat_lt_or_eq a3 with h | h
            · rcases rat_lt_or_eq a2 with h' | h'
              · exact rat_lt_trans h' h
              · rw [h']; exact h
            · exact (hk' (tp_ext h.symm)).elim
      · rcases List.mem_append.1 hx with hx | hx
        · obtain ⟨j, hj, e⟩ := h2 x hx
          exact ⟨j, by omega, e⟩
        · rw [List.mem_singleton.1 hx]; exact ⟨m, by omega, rfl⟩
      · by_cases hjm : j = m
        · subst hjm; exact List.mem_append.2 (.inr (List.mem_singleton.2 rfl))
        · exact List.mem_append.2 (.inl (h3 j (by omega)))
theorem map_get (d : Array TP) {j : Nat} (h : j < d.size) : (d.map (·.1))[j]! = d[j]!.1 := by
  rw [getElem!_pos _ j (by simpa using h), getElem!_pos d j h]; simp
theorem compact_map (d : Array TP) : ∀ m, m ≤ d.size → compactUpTo (d.map (·.1)) m = (compactUpTo d m).map (·.1)
  | 0, _ => rfl
  | m + 1, hm => by
    rw [compactUpTo_succ, compactUpTo_succ, List.map_append, compact_map d m (by omega)]
    congr 1
    have hk : keeps (d.map (·.1)) m = keeps d m := by
      unfold keeps
      rw [map_get d (show m < d.size by omega), map_get d (show m - 1 < d.size by omega)]
      rw [decide_eq_decide]
      constructor
      · rintro (h | h)
        · exact .inl h
        · exact .inr fun h' => h (by rw [h'])
      · rintro (h | h)
        · exact .inl h
        · exact .inr fun h' => h (Subtype.ext h')
    rw [hk, map_get d (show m < d.size by omega)]
    cases keeps d m <;> simp
theorem str_dec (x y : ByteArray) : (x.toList == y.toList) = decide (x = y) := by
  rw [Bool.eq_iff_iff, beq_iff_eq, decide_eq_true_eq, Lib.toList_data, Lib.toList_data]
  exact ⟨str_ext, fun h => by rw [h]⟩
theorem compact_len (d : Array TP) (m : Nat) : (compactUpTo d m).length ≤ m := by unfold compactUpTo; rw [List.length_map]; have := List.length_filter_le (keeps d) (List.range m); rw [List.length_range] at this; exact this
/-- what Compact leaves -/
def CompT (blk off cap : Nat) (d : Array TP) (w : World) (e : Ending) (w' : World) : Prop :=
  e = .returned (.slice (some ⟨blk, off, none⟩) (compactUpTo d d.size).length cap) ∧ (∀ j (h : j < (compactUpTo d d.size).length), w'.cell? ⟨blk, off + j, none⟩ = some (encT (compactUpTo d d.size)[j])) ∧ Below blk w w' ∧ KeepsT blk w w'
theorem compact_texts (blk off cap : Nat) (d : Array TP) (w : World) (hH : Holds encT w blk off d) (hsz : d.size ≤ 9223372036854775807) (hcap : d.size ≤ cap) :
    Calls Tryz.prog 96 #[.slice (some ⟨blk, off, none⟩) d.size cap] w (CompT blk off cap d w) := by
  have hH' : Holds Value.string w blk off (d.map (·.1)) := fun j hj => by
    rw [map_get d (by simpa using hj)]
    exact hH j (by simpa using hj)
  have heq : EqlAt Tryz.prog 31 Value.string (fun x y => decide (x = y)) := ⟨fun x y w => by rw [(EqlAt.string Tryz.prog 31).1 x y w]; show Result.ok (Value.bool (x.toList == y.toList)) w = Result.ok (Value.bool (decide (x = y))) w; rw [str_dec], .string _ _⟩
  have hne : NeqAt Tryz.prog 31 Value.string (fun x y => decide (x = y)) := ⟨fun x y w => by rw [(NeqAt.string Tryz.prog 31).1 x y w]; show Result.ok (Value.bool (!(x.toList == y.toList))) w = Result.ok (Value.bool (!decide (x = y))) w; rw [str_dec], .string _ _⟩
  have hds : (d.map (·.1)).size = d.size := by simp
  have hcm := compact_map d d.size (Nat.le_refl _)
  have hcon := AnyE.slices_Compact compText Value.string (fun _ => rfl) heq hne ⟨#[]⟩ (zero_of_info (n := 1) (by kernel_rfl)).1 blk off cap (d.map (·.1)) w hH' (by rw [hds]; exact hsz) (by rw [hds]; exact hcap)
  rw [hds, hcm, List.length_map] at hcon
  refine Calls.mono hcon ?_
  rintro e w' ⟨he, q, rfl⟩
  refine ⟨he, fun j hj => ?_, below_putRow _ _ _ _ _ _, keepsT_putRow _ _ _ _ _ _⟩
  have hlen : (compactUpTo d d.size).length ≤ d.size := by unfold compactUpTo; rw [List.length_map]; have := List.length_filter_le (keeps d) (List.range d.size); rw [List.length_range] at this; exact this
  have hh := holds_putRow Value.string (Sort.ahead w q) blk off (d.map (·.1)) ((compactUpTo d d.size).map (fun x : TP => x.1) ++ List.replicate (d.size - (compactUpTo d d.size).length) (⟨#[]⟩ : ByteArray)).toArray (holds_ahead Value.string w q blk off _ hH') (by simp; omega)
  have h1 := (hh j (by simp; omega)).1
  rw [h1]
  congr 1
  rw [getElem!_pos _ j (by simp; omega)]
  unfold encT
  congr 1
  simp only [List.getElem_toArray]
  rw [List.getElem_append_left (by simpa using hj), List.getElem_map]
end Go.Proofs.YtbogpbjddaoeiaaGreatDoor
