import Derived.Test.YtbogpbjddaoeiaaGreatDoorBackZ
import Derived.Test.YtbogpbjddaoeiaaGreatDoorBuilderZ
import Derived.Test.YtbogpbjddaoeiaaGreatDoorFmtZ
import Derived.Test.YtbogpbjddaoeiaaGreatDoorOpenZ
namespace Go.Proofs.YtbogpbjddaoeiaaGreatDoor
open Go.RowKit Go.Shelf
open Go.Lib (decDigits itoa nDigits)
attribute [local go_sem] Oper.semAt_some
def pad9 (v : Nat) : List UInt8 := List.replicate (9 - nDigits v) 48 ++ decDigits v
/-- the bytes that the rounds over these pieces write -/
def cbytes (len : Nat) (pre : List (Pc len)) : List UInt8 := pre.flatMap fun x => if x.i + 1 < len then pad9 x.v else decDigits x.v
theorem cbytes_snoc (len : Nat) (pre : List (Pc len)) (x : Pc len) : cbytes len (pre ++ [x]) = cbytes len pre ++ (if x.i + 1 < len then pad9 x.v else decDigits x.v) := by simp [cbytes]
theorem nDigits_le9 {v : Nat} (h : v < 1000000000) : nDigits v ≤ 9 := nDigits_le_of_lt (k := 9) (by omega) (by omega)
theorem pad9_length {v : Nat} (h : v < 1000000000) : (pad9 v).length = 9 := by
  have := nDigits_le9 h
  simp [pad9, decDigits_len]; omega
theorem pad9_dig (v : Nat) : ∀ c ∈ pad9 v, isDig c = true := by
  intro c hc
  rcases List.mem_append.1 hc with h | h
  · rw [List.mem_replicate] at h; rw [h.2]; decide
  · exact decDigits_dig v c h
theorem natOf_zeros (k : Nat) (l : List UInt8) : natOf (List.replicate k 48 ++ l) = natOf l := by
  induction k with
  | zero => simp
  | succ k ih =>
    rw [List.replicate_succ, List.cons_append, natOf_cons, ih]
    have : dv 48 = 0 := by have := dv_digit (n := 0) (by decide); simpa using this
    rw [this]; omega
theorem natOf_pad9 (v : Nat) : natOf (pad9 v) = v := by rw [pad9, natOf_zeros, natOf_decDigits]
/-- after k + 1 rounds: the numeral of the top pieces -/
theorem cbytes_down (N : Nat) : ∀ k, k < (pcs N).length →
    cbytes (pcs N).length (down (pcs N) (pcs_lt N) (k + 1)) = decDigits (val ((pcs N).drop ((pcs N).length - 1 - k))) ∧ val ((pcs N).drop ((pcs N).length - 1 - k)) ≠ 0 := by
  intro k
  induction k with
  | zero =>
    intro hk
    have hv := pcAt_val (xs := pcs N) (hx := pcs_lt N) (j := (pcs N).length - 1 - 0) (by omega)
    have hlast : (pcs N).drop ((pcs N).length - 1 - 0) = [(pcs N)[(pcs N).length - 1 - 0]'(by omega)] := by
      rw [List.drop_eq_getElem_cons (by omega), List.drop_eq_nil_of_le (by omega)]
    have hne : (pcs N)[(pcs N).length - 1 - 0]'(by omega) ≠ 0 := by
      have := pcs_getLast N (by intro h; rw [h] at hk; simp at hk)
      rw [List.getLast_eq_getElem] at this
      simpa using this
    rw [hlast]
    refine ⟨?_, by simpa using hne⟩
    rw [down_succ, cbytes_snoc, hv.1, hv.2, if_neg (by omega)]
    simp [down, cbytes]
  | succ k ih =>
    intro hk
    obtain ⟨h1, h2⟩ := ih (by omega)
    have hv := pcAt_val (xs := pcs N) (hx := pcs_lt N) (j := (pcs N).length - 1 - (k + 1)) (by omega)
    have hd : (pcs N).drop ((pcs N).length - 1 - (k + 1)) = (pcs N)[(pcs N).length - 1 - (k + 1)]'(by omega) :: (pcs N).drop ((pcs N).length - 1 - k) := by
      rw [List.drop_eq_getElem_cons (by omega)]
      congr 2
      omega
    have hs : (pcs N)[(pcs N).length - 1 - (k + 1)]'(by omega) < 1000000000 := pcs_lt N _ (List.getElem_mem _)
    rw [down_succ, cbytes_snoc, h1, hv.1, hv.2, if_pos (by omega), hd, val_cons]
    generalize val ((pcs N).drop ((pcs N).length - 1 - k)) = T at *
    generalize (pcs N)[(pcs N).length - 1 - (k + 1)]'(by omega) = y at *
    refine ⟨?_, by omega⟩
    have hval : natOf (decDigits T ++ pad9 y) = y + 1000000000 * T := by
      rw [natOf_append, natOf_decDigits, natOf_pad9, pad9_length hs]
      have : (10 : Nat) ^ 9 = 1000000000 := rfl
      rw [this]; omega
    rw [← hval]
    refine (decDigits_natOf _ (by simp [decDigits_ne_nil]) ?_ ?_).symm
    · intro c hc
      rcases List.mem_append.1 hc with h | h
      · exact decDigits_dig T c h
      · exact pad9_dig y c h
    · obtain ⟨c, r, he, hc⟩ := decDigits_head T h2
      exact .inr ⟨c, r ++ pad9 y, by rw [he]; rfl, hc⟩
theorem cbytes_all (N : Nat) (hN : N ≠ 0) : cbytes (pcs N).length (down (pcs N) (pcs_lt N) (pcs N).length) = decDigits N := by
  have hp := pcs_length_pos hN
  obtain ⟨h1, _⟩ := cbytes_down N ((pcs N).length - 1) (by omega)
  rw [show (pcs N).length - 1 + 1 = (pcs N).length by omega, show (pcs N).length - 1 - ((pcs N).length - 1) = 0 by omega, List.drop_zero, val_pcs] at h1
  exact h1
theorem cbytes_len (len : Nat) (pre : List (Pc len)) : (cbytes len pre).length ≤ 9 * pre.length := by
  induction pre with
  | nil => simp [cbytes]
  | cons x pre ih =>
    have : cbytes len (x :: pre) = (if x.i + 1 < len then pad9 x.v else decDigits x.v) ++ cbytes len pre := by simp [cbytes]
    rw [this, List.length_append, List.length_cons]
    have h9 := nDigits_le9 x.hv
    split
    · rw [pad9_length x.hv]; omega
    · rw [decDigits_len]; omega
theorem cells_kept {B0 : Nat} {W W' : World} {row : Option Nat} (hg : W.grownBy W' row) (hr : ∀ r, row = some r → B0 ≤ r ∧ ∃ o : Obj, W.heap[r]? = some o ∧ o.isCells = false) {k : Nat} {c : Array Value} {e : TypeId} {fz : Nat × Nat} (hk : W.heap[k]? = some (.cells c e fz)) : W'.heap[k]? = some (.cells c e fz) := by
  have hlt : k < W.heap.size := by
    rcases Nat.lt_or_ge k W.heap.size with h | h
    · exact h
    · rw [Array.getElem?_eq_none h] at hk; simp at hk
  rw [hg.block k hlt ?_]
  · exact hk
  · intro e
    obtain ⟨_, o, ho, hc⟩ := hr k e.symm
    rw [hk] at ho
    cases ho
    simp [Obj.isCells] at hc
theorem keepsFrom_below {B : Nat} {W W' : World} (h : Below W.heap.size W W') : KeepsFrom B W W' := ⟨h.size, fun k o _ hk _ => by
  rw [h.block k ?_]
  · exact hk
  · rcases Nat.lt_or_ge k W.heap.size with h | h
    · exact h
    · rw [Array.getElem?_eq_none h] at hk; simp at hk⟩
theorem keepsFrom_kept {B b : Nat} {W W' : World} (h : Kept8 b W W') (hs : W.heap.size ≤ W'.heap.size) (hb : b < B) : KeepsFrom B W W' :=
  ⟨hs, fun k o hB hk ho => h k o hk (by simp; omega) (fun c fz e => by subst e; simp [Obj.isCells] at ho)⟩
theorem kept_cells {b k : Nat} {W W' : World} {c : Array Value} {e : TypeId} {fz : Nat × Nat} (h : Kept8 b W W') (hk : W.heap[k]? = some (.cells c e fz)) (hb : k ≠ b) (he : e ≠ 5) : W'.heap[k]? = some (.cells c e fz) :=
  h k _ hk (by simpa using hb) (fun c' fz' e' => by cases e'; exact he rfl)
theorem isB_own {B b B0 : Nat} {bs : List Value} {W W' : World} {row : Option Nat} (h : IsB B b bs W) (hg : W.grownBy W' row) (hr : ∀ r, row = some r → B0 ≤ r ∧ ∃ o : Obj, W.heap[r]? = some o ∧ o.isCells = false) : IsB B b bs W' := by
  have one : ∀ {p}, BAt B b p bs W → BAt B b p bs W' := by
    rintro p ⟨h1, v, hv, hown, hne⟩
    refine ⟨h1, v, cells_kept hg hr hv, ⟨hown.1, ?_⟩, hne⟩
    rcases hown.2 with h2 | ⟨g, cap, cur, e1, e2, e3, r⟩
    · exact .inl h2
    · exact .inr ⟨g, cap, cur, e1, e2, cells_kept hg hr e3, r⟩
  exact h.imp one one
theorem isB_below {B b : Nat} {bs : List Value} {W W' : World} (h : IsB B b bs W) (hb : Below W.heap.size W W') : IsB B b bs W' :=
  isB_own (B0 := 0) h (row := none) ⟨hb.os, hb.tape, hb.output, hb.size, fun k hk _ => hb.block k hk⟩ (fun r e => by cases e)
theorem zeros_extract (k : Nat) (hk : k ≤ 9) : (⟨#[48, 48, 48, 48, 48, 48, 48, 48, 48]⟩ : ByteArray).extract k 9 = ⟨(List.replicate (9 - k) 48).toArray⟩ := by
  apply str_ext
  rw [Lib.extract_data]
  have : ∀ k : Fin 10, (([48, 48, 48, 48, 48, 48, 48, 48, 48] : List UInt8).drop k.val).take (9 - k.val) = List.replicate (9 - k.val) 48 := by decide
  exact this ⟨k, by omega⟩
theorem isB_fresh (w : World) (B : Nat) (hB : B ≤ w.heap.size) : IsB B w.heap.size (Lib.byteCells []) (w.alloc (.cells #[.pointer none, .slice none 0 0] 243)) :=
  .inl ⟨hB, .slice none 0 0, World.alloc_heap_new w _, World.ownsRow_nil _ _ _ _, by simp [Value.ownBlock]⟩
/-- what is known between two rounds -/
structure CloseInv (w wA : World) (p : Option Addr) (c len Bs : Nat) (ini : List UInt8) (pre : List (Pc len)) (W : World) : Prop where
  b : IsB (w.heap.size + 1) (w.heap.size + 1) (Lib.byteCells (ini ++ cbytes len pre)) W
  low : Below (w.heap.size + 1) wA W
  box : W.heap[Bs]? = some (.cells #[.slice p len c] 190 (0, 0))
theorem closeInv_own {w wA : World} {p : Option Addr} {c len Bs : Nat} {ini : List UInt8} {B : Nat} (hA : wA.heap.size = w.heap.size + 1) (hB : w.heap.size + 1 ≤ B) : OwnFrom B (CloseInv w wA p c len Bs ini) := fun _ _ _ _ hs hg hr =>
  ⟨isB_own hs.b hg hr, ownFrom_below (β := Unit) (by omega) hB () _ _ _ hs.low hg hr, cells_kept hg hr hs.box⟩
theorem putObj_below (W : World) (D : Nat) (o : Obj) {B : Nat} (h : B ≤ D) : Below B W (W.putObj D o) :=
  ⟨rfl, rfl, rfl, by simp, fun k hk => by
    simp only [World.putObj]
    rw [Array.getElem?_setIfInBounds, if_neg (by omega)]⟩
def signedOf (neg : Bool) (N : Nat) : Int := if neg then -(N : Int) else N
set_option maxHeartbeats 2000000 in
set_option maxRecDepth 100000 in
theorem integer_close_neg (pv : Value) (N : Nat) (hN : N ≠ 0) (hlen : (pcs N).length ≤ 1099511627776) (w : World) (hw : Good w) (hI : U64s w pv (pcs N)) :
    CallsIn Fence.wide 9 Tryz.prog 148 #[.agg #[.bool true, pv]] w fun e w' => ∃ r : ByteArray, e = .returned (.string r) ∧ IsI r (-(N : Int)) ∧ Below w.heap.size w w' := by
  obtain ⟨p, c, rfl, hc, hm⟩ := hI.slice
  obtain ⟨wA, hwA⟩ : ∃ wA, wA = w.alloc (Obj.cells #[Value.bool true, Value.slice p (pcs N).length c] 192) := ⟨_, rfl⟩
  have hl0 : ((((pcs N).length : Int)) == 0) = false := by have := pcs_length_pos hN; simp only [beq_eq_false_iff_ne]; omega
  have hl1 : (((pcs N).length) == 0) = false := by have := pcs_length_pos hN; simp only [beq_eq_false_iff_ne]; omega
  have hsA : wA.heap.size = w.heap.size + 1 := by rw [hwA]; simp
  have hA1 : wA.cell? ⟨w.heap.size, 1, none⟩ = some (.slice p (pcs N).length c) := by rw [hwA]; simp [World.cell?_alloc_new]
  have hF := isB_fresh wA (w.heap.size + 1) (by omega)
  rw [hsA] at hF
  have HF := Lib.hid hF
  clear hF
  refine callsIn_of_wp_marks Tryz.func148 rfl trivial ?_ rfl
  simp only [Tryz.ntmps148, List.size_toArray, List.length_cons, List.length_nil, Nat.reduceAdd, Nat.reduceSub, Array.replicate_succ, Array.replicate_zero, List.push_toArray, List.append_toArray, List.nil_append, List.cons_append]
  gi_wp2
  rw [← hwA]
  refine ⟨trivial, ?_⟩
  refine (callsIn_wide.2 (builder_WriteByte (w.heap.size + 1) (w.heap.size + 1) _ 45 _ HF.out (by simp [Lib.byteCells]) (by simp [hsA]))).mono ?_
  rintro e w1 ⟨rfl, hb1, hlow1, _⟩
  have hlow : Below (w.heap.size + 1) wA w1 := ((Below.refl _ _).alloc (by omega) _).trans hlow1
  have hc1 : w1.cell? ⟨w.heap.size, 1, none⟩ = some (.slice p (pcs N).length c) := (hlow.cell (by simp)).trans hA1
  gi_wp2
  refine ⟨trivial, ?_⟩
  refine (back_in Fence.wide _ trivial rfl _ _ _ _).mono ?_
  rintro e w2 ⟨rfl, rfl⟩
  gi_wp2
  obtain ⟨w2, hw2⟩ : ∃ w2, w2 = w1.alloc (Obj.cells #[Value.slice p (pcs N).length c] 190) := ⟨_, rfl⟩
  have hs2 : w2.heap.size = w1.heap.size + 1 := by rw [hw2]; simp
  have hs1 : w.heap.size + 2 ≤ w1.heap.size := by have := hlow1.size; rw [World.size_alloc] at this; omega
  have hlow2 : Below (w.heap.size + 1) wA w2 := by rw [hw2]; exact hlow.alloc (by omega) _
  have hbox : w2.cell? ⟨w1.heap.size, 0, none⟩ = some (.slice p (pcs N).length c) := by rw [hw2]; simp [World.cell?_alloc_new]
  have hA0 : Below w.heap.size w wA := by rw [hwA]; exact (Below.refl _ _).alloc (Nat.le_refl _) _
  have hI2 : U64s w2 (.slice p (pcs N).length c) (pcs N) := hI.below (hA0.trans (hlow2.mono (by omega)))
  have hfr : ∀ a k c', Value.slice p (pcs N).length c = .slice (some a) k c' → a.block < w.heap.size := by
    intro a k c' he
    obtain ⟨b, off, rfl, hbb, _⟩ := hI.cells (pcs_length_pos hN)
    simp only [Value.slice.injEq, Option.some.injEq] at he
    rw [← he.1]; exact hbb
  rw [← hw2]
  refine wpIn_rangeFunc_ownG (n := 9) rfl (by decide) (gf := 220) (lb := #[.pointer (some ⟨w1.heap.size, 0, none⟩)]) rfl trivial (enters_of Tryz.func220 (by kernel_rfl) rfl)
    (back_stops Fence.wide 8 trivial rfl (by decide) w1.heap.size w.heap.size _ (pcs N) (pcs_lt N) (by omega) w2 (by omega) hfr hbox hI2) KeepB.trans (KeepB.put (by omega) (by omega)) (Below.refl _ _) (fun _ => rfl)
    (CloseInv w wA p c (pcs N).length w1.heap.size [45]) (fun _ _ _ => False) (closeInv_own hsA (by omega)) (fun _ _ _ _ _ hs _ _ => hs)
    ⟨by exact (isB_below (.inr hb1) (by rw [hw2]; exact (Below.refl _ _).alloc (Nat.le_refl _) _) : IsB _ _ (Lib.byteCells [] ++ [.int .u8 45]) w2), hlow2, by rw [hw2]; exact World.alloc_heap_new w1 _⟩
    (fun x => { tmps := #[.agg #[.bool true, .slice p (pcs N).length c], .pointer (some ⟨w.heap.size, 0, none⟩), .string ⟨#[]⟩, .pointer (some ⟨w.heap.size + 1, 0, none⟩), .int .i64 (x.i : Int), .int .u64 (x.v : Int), undef, .pointer (some ⟨w.heap.size, 1, none⟩), .slice p (pcs N).length c, .int .i64 ((pcs N).length : Int), .bool false, .pointer (some ⟨w.heap.size, 0, none⟩), .bool true, .nilIface, .pointer (some ⟨w.heap.size, 1, none⟩), .slice p (pcs N).length c, .func (.func 220) #[] #[.pointer (some ⟨w1.heap.size, 0, none⟩)], .int .i64 (x.i : Int), .int .u64 (x.v : Int), undef, undef, undef, undef, undef, undef, undef, undef, undef, undef, undef, undef, undef, undef, undef], defers := [] }) ?assign ?body ?done ?stop
  case assign =>
    intro l x W K hK
    gi_wp2
    exact hK
  case body =>
    rintro l pre x W ⟨hb, hlow3, hbx⟩ hpl
    have hg : Good W := (hw.below hA0).mono hlow3 (by have := hw.big; omega)
    have hcW : W.cell? ⟨w.heap.size, 1, none⟩ = some (.slice p (pcs N).length c) := (hlow3.cell (by simp)).trans hA1
    have hsW : w.heap.size + 1 ≤ W.heap.size := by have := hlow3.size; omega
    have hxv := x.hv
    have hB := Lib.hid hb
    clear hb
    gi_wp2
    refine ⟨trivial, ?_⟩
    refine (CallsIn.inRound l (callsIn_wide.2 (sh_FormatUint_s x.v (by omega) W hg))).mono ?_
    rintro e W1 ⟨s, rfl, hs, hbW1⟩
    have hss : s.size = nDigits x.v := by rw [Lib.size_eq, hs, decDigits_len]
    have hs9 : s.size ≤ 9 := by rw [hss]; exact nDigits_le9 hxv
    have hc1W : W1.cell? ⟨w.heap.size, 1, none⟩ = some (.slice p (pcs N).length c) := (hbW1.cell (by simp; omega)).trans hcW
    have HB1 := Lib.hid (isB_below hB.out hbW1)
    have HS := Lib.hid hs
    have HSS := Lib.hid hss
    have hpl9 : (Lib.byteCells ([45] ++ cbytes (pcs N).length pre)).length ≤ 9 * (pcs N).length + 1 := by
      rw [Lib.byteCells_length]; have := cbytes_len _ pre; simp; omega
    have hKW : KeepsFrom w2.heap.size W W1 := keepsFrom_below hbW1
    have HBX := Lib.hid hbx
    have hsz1 := hbW1.size
    have hbxlt : w1.heap.size < W.heap.size := by
      rcases Nat.lt_or_ge w1.heap.size W.heap.size with h | h
      · exact h
      · rw [Array.getElem?_eq_none h] at hbx; simp at hbx
    have HBX1 := Lib.hid ((hbW1.block _ hbxlt).trans hbx)
    clear hs hss hI hbx
    by_cases hi : x.i + 1 < (pcs N).length
    · have hi1 : decide ((x.i : Int) < ((pcs N).length : Int) - 1) = true := by simp; omega
      have hz : (⟨#[48, 48, 48, 48, 48, 48, 48, 48, 48]⟩ : ByteArray).extract s.size 9 = ⟨(List.replicate (9 - s.size) 48).toArray⟩ := zeros_extract s.size hs9
      have HZ := Lib.hid hz
      have hzl : ((⟨#[48, 48, 48, 48, 48, 48, 48, 48, 48]⟩ : ByteArray).extract s.size 9).size ≤ 9 := by rw [hz, Lib.size_eq]; simp
      clear hz
      gi_wp2
      refine ⟨trivial, ?_⟩
      refine (CallsIn.inRound l (callsIn_wide.2 (builder_WriteString _ _ _ _ W1 HB1.out (by omega) (by omega)))).mono ?_
      rintro e W2 ⟨rfl, hB2, hbW2, hk2⟩
      gi_wp2
      refine ⟨trivial, ?_⟩
      have hl2 : (Lib.byteCells ([45] ++ cbytes (pcs N).length pre) ++ Lib.strCells ((⟨#[48, 48, 48, 48, 48, 48, 48, 48, 48]⟩ : ByteArray).extract s.size 9)).length ≤ 9 * (pcs N).length + 10 := by
        rw [List.length_append, Lib.strCells_length]; omega
      refine (CallsIn.inRound l (callsIn_wide.2 (builder_WriteString _ _ _ s W2 (.inr hB2) (by omega) (by have := hbW2.size; omega)))).mono ?_
      rintro e W3 ⟨rfl, hB3, hbW3, hk3⟩
      gi_wp2
      have hks : KeepsFrom w2.heap.size W W3 := (hKW.trans (keepsFrom_kept hk2 hbW2.size (by omega))).trans (keepsFrom_kept hk3 hbW3.size (by omega))
      have hbx2 := kept_cells hk2 HBX1.out (by omega) (by decide)
      have hbx3 := kept_cells hk3 hbx2 (by omega) (by decide)
      have hlowW : Below (w.heap.size + 1) W W3 := ((hbW1.mono hsW).trans hbW2).trans hbW3
      refine ⟨hks, ?_, ?_, hlow3.trans hlowW, hbx3⟩
      · intro k hk
        rcases hk with hk | rfl
        · exact hlowW.block k (by omega)
        · rw [hbx3, HBX.out]
      · refine .inr ?_
        have e1 : Lib.byteCells ([45] ++ cbytes (pcs N).length pre) ++ Lib.strCells ((⟨#[48, 48, 48, 48, 48, 48, 48, 48, 48]⟩ : ByteArray).extract s.size 9) ++ Lib.strCells s = Lib.byteCells ([45] ++ cbytes (pcs N).length (pre ++ [x])) := by
          rw [cbytes_snoc, if_pos hi, HZ.out]
          simp only [Lib.byteCells, Lib.strCells, pad9, HS.out, HSS.out, List.map_append, List.append_assoc]
        rw [← e1]; exact hB3
    · have hi1 : decide ((x.i : Int) < ((pcs N).length : Int) - 1) = false := by simp; omega
      gi_wp2
      refine ⟨trivial, ?_⟩
      refine (CallsIn.inRound l (callsIn_wide.2 (builder_WriteString _ _ _ s W1 HB1.out (by omega) (by omega)))).mono ?_
      rintro e W3 ⟨rfl, hB3, hbW3, hk3⟩
      gi_wp2
      have hks : KeepsFrom w2.heap.size W W3 := hKW.trans (keepsFrom_kept hk3 hbW3.size (by omega))
      have hbx3 := kept_cells hk3 HBX1.out (by omega) (by decide)
      have hlowW : Below (w.heap.size + 1) W W3 := (hbW1.mono hsW).trans hbW3
      refine ⟨hks, ?_, ?_, hlow3.trans hlowW, hbx3⟩
      · intro k hk
        rcases hk with hk | rfl
        · exact hlowW.block k (by omega)
        · rw [hbx3, HBX.out]
      · refine .inr ?_
        have e1 : Lib.byteCells ([45] ++ cbytes (pcs N).length pre) ++ Lib.strCells s = Lib.byteCells ([45] ++ cbytes (pcs N).length (pre ++ [x])) := by
          rw [cbytes_snoc, if_neg hi]
          simp only [Lib.byteCells, Lib.strCells, HS.out, List.map_append, List.append_assoc]
        rw [← e1]; exact hB3
  case done =>
    rintro D ys W hD rfl ⟨hb, hlow3, hbx⟩ hK
    have hsW : w.heap.size + 1 ≤ W.heap.size := by have := hlow3.size; omega
    have HALL := Lib.hid (cbytes_all N hN)
    gi_wp2
    refine ⟨trivial, ?_⟩
    refine (callsIn_wide.2 (Tryz.Builder_String_any_k (w.heap.size + 1) (w.heap.size + 1) _ W (Lib.IsBuilderF.of hb) (by omega))).mono ?_
    rintro e W1 ⟨rfl, _, hb1, hk1⟩
    have hK1 : W1.heap[D]? = some (.deferred (some [])) := hk1 D _ hK (by simp; omega) (fun c fz e => by cases e)
    gi_wp2
    refine ⟨by simp, .inl ⟨_, _, rfl, run_takeDeferred hK1, ?_⟩⟩
    refine ⟨_, results_tmp rfl _ _ _, ⟨_, rfl, ?_, ?_⟩⟩
    · refine IsI.mk ?_
      rw [itoa_neg (by omega), show (-(N : Int)).natAbs = N by omega, ← HALL.out]
    · exact (hA0.trans ((hlow3.trans hb1).mono (by omega))).trans (putObj_below _ _ _ (by omega))
  case stop =>
    rintro D c pre W _ _ h _
    exact h.elim
set_option maxHeartbeats 2000000 in
set_option maxRecDepth 100000 in
theorem integer_close_pos (pv : Value) (N : Nat) (hN : N ≠ 0) (hlen : (pcs N).length ≤ 1099511627776) (w : World) (hw : Good w) (hI : U64s w pv (pcs N)) :
    CallsIn Fence.wide 9 Tryz.prog 148 #[.agg #[.bool false, pv]] w fun e w' => ∃ r : ByteArray, e = .returned (.string r) ∧ IsI r (N : Int) ∧ Below w.heap.size w w' := by
  obtain ⟨p, c, rfl, hc, hm⟩ := hI.slice
  obtain ⟨wA, hwA⟩ : ∃ wA, wA = w.alloc (Obj.cells #[Value.bool false, Value.slice p (pcs N).length c] 192) := ⟨_, rfl⟩
  have hl0 : ((((pcs N).length : Int)) == 0) = false := by have := pcs_length_pos hN; simp only [beq_eq_false_iff_ne]; omega
  have hl1 : (((pcs N).length) == 0) = false := by have := pcs_length_pos hN; simp only [beq_eq_false_iff_ne]; omega
  have hsA : wA.heap.size = w.heap.size + 1 := by rw [hwA]; simp
  have hA1 : wA.cell? ⟨w.heap.size, 1, none⟩ = some (.slice p (pcs N).length c) := by rw [hwA]; simp [World.cell?_alloc_new]
  have hF := isB_fresh wA (w.heap.size + 1) (by omega)
  rw [hsA] at hF
  have HF := Lib.hid hF
  clear hF
  refine callsIn_of_wp_marks Tryz.func148 rfl trivial ?_ rfl
  simp only [Tryz.ntmps148, List.size_toArray, List.length_cons, List.length_nil, Nat.reduceAdd, Nat.reduceSub, Array.replicate_succ, Array.replicate_zero, List.push_toArray, List.append_toArray, List.nil_append, List.cons_append]
  gi_wp2
  obtain ⟨w1, hw1⟩ : ∃ w1, w1 = wA.alloc (Obj.cells #[Value.pointer none, Value.slice none 0 0] 243) := ⟨_, rfl⟩
  rw [← hwA, ← hw1]
  have hb1 : IsB (w.heap.size + 1) (w.heap.size + 1) (Lib.byteCells []) w1 := by rw [hw1]; exact HF.out
  have hlow1 : Below (w.heap.size + 1) (wA.alloc (Obj.cells #[Value.pointer none, Value.slice none 0 0] 243)) w1 := by rw [← hw1]; exact Below.refl _ _
  clear hw1
  have hlow : Below (w.heap.size + 1) wA w1 := ((Below.refl _ _).alloc (by omega) _).trans hlow1
  have hc1 : w1.cell? ⟨w.heap.size, 1, none⟩ = some (.slice p (pcs N).length c) := (hlow.cell (by simp)).trans hA1
  refine ⟨trivial, ?_⟩
  refine (back_in Fence.wide _ trivial rfl _ _ _ _).mono ?_
  rintro e w2 ⟨rfl, rfl⟩
  gi_wp2
  obtain ⟨w2, hw2⟩ : ∃ w2, w2 = w1.alloc (Obj.cells #[Value.slice p (pcs N).length c] 190) := ⟨_, rfl⟩
  have hs2 : w2.heap.size = w1.heap.size + 1 := by rw [hw2]; simp
  have hs1 : w.heap.size + 2 ≤ w1.heap.size := by have := hlow1.size; rw [World.size_alloc] at this; omega
  have hlow2 : Below (w.heap.size + 1) wA w2 := by rw [hw2]; exact hlow.alloc (by omega) _
  have hbox : w2.cell? ⟨w1.heap.size, 0, none⟩ = some (.slice p (pcs N).length c) := by rw [hw2]; simp [World.cell?_alloc_new]
  have hA0 : Below w.heap.size w wA := by rw [hwA]; exact (Below.refl _ _).alloc (Nat.le_refl _) _
  have hI2 : U64s w2 (.slice p (pcs N).length c) (pcs N) := hI.below (hA0.trans (hlow2.mono (by omega)))
  have hfr : ∀ a k c', Value.slice p (pcs N).length c = .slice (some a) k c' → a.block < w.heap.size := by
    intro a k c' he
    obtain ⟨b, off, rfl, hbb, _⟩ := hI.cells (pcs_length_pos hN)
    simp only [Value.slice.injEq, Option.some.injEq] at he
    rw [← he.1]; exact hbb
  rw [← hw2]
  refine wpIn_rangeFunc_ownG (n := 9) rfl (by decide) (gf := 220) (lb := #[.pointer (some ⟨w1.heap.size, 0, none⟩)]) rfl trivial (enters_of Tryz.func220 (by kernel_rfl) rfl)
    (back_stops Fence.wide 8 trivial rfl (by decide) w1.heap.size w.heap.size _ (pcs N) (pcs_lt N) (by omega) w2 (by omega) hfr hbox hI2) KeepB.trans (KeepB.put (by omega) (by omega)) (Below.refl _ _) (fun _ => rfl)
    (CloseInv w wA p c (pcs N).length w1.heap.size []) (fun _ _ _ => False) (closeInv_own hsA (by omega)) (fun _ _ _ _ _ hs _ _ => hs)
    ⟨by exact (isB_below hb1 (by rw [hw2]; exact (Below.refl _ _).alloc (Nat.le_refl _) _) : IsB _ _ (Lib.byteCells []) w2), hlow2, by rw [hw2]; exact World.alloc_heap_new w1 _⟩
    (fun x => { tmps := #[.agg #[.bool false, .slice p (pcs N).length c], .pointer (some ⟨w.heap.size, 0, none⟩), .string ⟨#[]⟩, .pointer (some ⟨w.heap.size + 1, 0, none⟩), .int .i64 (x.i : Int), .int .u64 (x.v : Int), undef, .pointer (some ⟨w.heap.size, 1, none⟩), .slice p (pcs N).length c, .int .i64 ((pcs N).length : Int), .bool false, .pointer (some ⟨w.heap.size, 0, none⟩), .bool false, undef, .pointer (some ⟨w.heap.size, 1, none⟩), .slice p (pcs N).length c, .func (.func 220) #[] #[.pointer (some ⟨w1.heap.size, 0, none⟩)], .int .i64 (x.i : Int), .int .u64 (x.v : Int), undef, undef, undef, undef, undef, undef, undef, undef, undef, undef, undef, undef, undef, undef, undef], defers := [] }) ?assign ?body ?done ?stop
  case assign =>
    intro l x W K hK
    gi_wp2
    exact hK
  case body =>
    rintro l pre x W ⟨hb, hlow3, hbx⟩ hpl
    have hg : Good W := (hw.below hA0).mono hlow3 (by have := hw.big; omega)
    have hcW : W.cell? ⟨w.heap.size, 1, none⟩ = some (.slice p (pcs N).length c) := (hlow3.cell (by simp)).trans hA1
    have hsW : w.heap.size + 1 ≤ W.heap.size := by have := hlow3.size; omega
    have hxv := x.hv
    have hB := Lib.hid hb
    clear hb
    gi_wp2
    refine ⟨trivial, ?_⟩
    refine (CallsIn.inRound l (callsIn_wide.2 (sh_FormatUint_s x.v (by omega) W hg))).mono ?_
    rintro e W1 ⟨s, rfl, hs, hbW1⟩
    have hss : s.size = nDigits x.v := by rw [Lib.size_eq, hs, decDigits_len]
    have hs9 : s.size ≤ 9 := by rw [hss]; exact nDigits_le9 hxv
    have hc1W : W1.cell? ⟨w.heap.size, 1, none⟩ = some (.slice p (pcs N).length c) := (hbW1.cell (by simp; omega)).trans hcW
    have HB1 := Lib.hid (isB_below hB.out hbW1)
    have HS := Lib.hid hs
    have HSS := Lib.hid hss
    have hpl9 : (Lib.byteCells ([] ++ cbytes (pcs N).length pre)).length ≤ 9 * (pcs N).length + 1 := by
      rw [Lib.byteCells_length]; have := cbytes_len _ pre; simp; omega
    have hKW : KeepsFrom w2.heap.size W W1 := keepsFrom_below hbW1
    have HBX := Lib.hid hbx
    have hsz1 := hbW1.size
    have hbxlt : w1.heap.size < W.heap.size := by
      rcases Nat.lt_or_ge w1.heap.size W.heap.size with h | h
      · exact h
      · rw [Array.getElem?_eq_none h] at hbx; simp at hbx
    have HBX1 := Lib.hid ((hbW1.block _ hbxlt).trans hbx)
    clear hs hss hI hbx
    by_cases hi : x.i + 1 < (pcs N).length
    · have hi1 : decide ((x.i : Int) < ((pcs N).length : Int) - 1) = true := by simp; omega
      have hz : (⟨#[48, 48, 48, 48, 48, 48, 48, 48, 48]⟩ : ByteArray).extract s.size 9 = ⟨(List.replicate (9 - s.size) 48).toArray⟩ := zeros_extract s.size hs9
      have HZ := Lib.hid hz
      have hzl : ((⟨#[48, 48, 48, 48, 48, 48, 48, 48, 48]⟩ : ByteArray).extract s.size 9).size ≤ 9 := by rw [hz, Lib.size_eq]; simp
      clear hz
      gi_wp2
      refine ⟨trivial, ?_⟩
      refine (CallsIn.inRound l (callsIn_wide.2 (builder_WriteString _ _ _ _ W1 HB1.out (by omega) (by omega)))).mono ?_
      rintro e W2 ⟨rfl, hB2, hbW2, hk2⟩
      gi_wp2
      refine ⟨trivial, ?_⟩
      have hl2 : (Lib.byteCells ([] ++ cbytes (pcs N).length pre) ++ Lib.strCells ((⟨#[48, 48, 48, 48, 48, 48, 48, 48, 48]⟩ : ByteArray).extract s.size 9)).length ≤ 9 * (pcs N).length + 10 := by
        rw [List.length_append, Lib.strCells_length]; omega
      refine (CallsIn.inRound l (callsIn_wide.2 (builder_WriteString _ _ _ s W2 (.inr hB2) (by omega) (by have := hbW2.size; omega)))).mono ?_
      rintro e W3 ⟨rfl, hB3, hbW3, hk3⟩
      gi_wp2
      have hks : KeepsFrom w2.heap.size W W3 := (hKW.trans (keepsFrom_kept hk2 hbW2.size (by omega))).trans (keepsFrom_kept hk3 hbW3.size (by omega))
      have hbx2 := kept_cells hk2 HBX1.out (by omega) (by decide)
      have hbx3 := kept_cells hk3 hbx2 (by omega) (by decide)
      have hlowW : Below (w.heap.size + 1) W W3 := ((hbW1.mono hsW).trans hbW2).trans hbW3
      refine ⟨hks, ?_, ?_, hlow3.trans hlowW, hbx3⟩
      · intro k hk
        rcases hk with hk | rfl
        · exact hlowW.block k (by omega)
        · rw [hbx3, HBX.out]
      · refine .inr ?_
        have e1 : Lib.byteCells ([] ++ cbytes (pcs N).length pre) ++ Lib.strCells ((⟨#[48, 48, 48, 48, 48, 48, 48, 48, 48]⟩ : ByteArray).extract s.size 9) ++ Lib.strCells s = Lib.byteCells ([] ++ cbytes (pcs N).length (pre ++ [x])) := by
          rw [cbytes_snoc, if_pos hi, HZ.out]
          simp only [Lib.byteCells, Lib.strCells, pad9, HS.out, HSS.out, List.map_append, List.append_assoc]
        rw [← e1]; exact hB3
    · have hi1 : decide ((x.i : Int) < ((pcs N).length : Int) - 1) = false := by simp; omega
      gi_wp2
      refine ⟨trivial, ?_⟩
      refine (CallsIn.inRound l (callsIn_wide.2 (builder_WriteString _ _ _ s W1 HB1.out (by omega) (by omega)))).mono ?_
      rintro e W3 ⟨rfl, hB3, hbW3, hk3⟩
      gi_wp2
      have hks : KeepsFrom w2.heap.size W W3 := hKW.trans (keepsFrom_kept hk3 hbW3.size (by omega))
      have hbx3 := kept_cells hk3 HBX1.out (by omega) (by decide)
      have hlowW : Below (w.heap.size + 1) W W3 := (hbW1.mono hsW).trans hbW3
      refine ⟨hks, ?_, ?_, hlow3.trans hlowW, hbx3⟩
      · intro k hk
        rcases hk with hk | rfl
        · exact hlowW.block k (by omega)
        · rw [hbx3, HBX.out]
      · refine .inr ?_
        have e1 : Lib.byteCells ([] ++ cbytes (pcs N).length pre) ++ Lib.strCells s = Lib.byteCells ([] ++ cbytes (pcs N).length (pre ++ [x])) := by
          rw [cbytes_snoc, if_neg hi]
          simp only [Lib.byteCells, Lib.strCells, HS.out, List.map_append, List.append_assoc]
        rw [← e1]; exact hB3
  case done =>
    rintro D ys W hD rfl ⟨hb, hlow3, hbx⟩ hK
    have hsW : w.heap.size + 1 ≤ W.heap.size := by have := hlow3.size; omega
    have HALL := Lib.hid (cbytes_all N hN)
    gi_wp2
    refine ⟨trivial, ?_⟩
    refine (callsIn_wide.2 (Tryz.Builder_String_any_k (w.heap.size + 1) (w.heap.size + 1) _ W (Lib.IsBuilderF.of hb) (by omega))).mono ?_
    rintro e W1 ⟨rfl, _, hb1, hk1⟩
    have hK1 : W1.heap[D]? = some (.deferred (some [])) := hk1 D _ hK (by simp; omega) (fun c fz e => by cases e)
    gi_wp2
    refine ⟨by simp, .inl ⟨_, _, rfl, run_takeDeferred hK1, ?_⟩⟩
    refine ⟨_, results_tmp rfl _ _ _, ⟨_, rfl, ?_, ?_⟩⟩
    · refine IsI.mk ?_
      rw [itoa_nat, ← HALL.out]
    · exact (hA0.trans ((hlow3.trans hb1).mono (by omega))).trans (putObj_below _ _ _ (by omega))
  case stop =>
    rintro D c pre W _ _ h _
    exact h.elim
set_option maxHeartbeats 400000 in
set_option maxRecDepth 100000 in
theorem integer_close_zero (neg : Bool) (pv : Value) (w : World) (hI : U64s w pv (pcs 0)) :
    Calls Tryz.prog 148 #[.agg #[.bool neg, pv]] w fun e w' => ∃ r : ByteArray, e = .returned (.string r) ∧ IsI r 0 ∧ Below w.heap.size w w' := by
  obtain ⟨p, c, rfl, hc, hm⟩ := hI.slice
  have h0 : (pcs 0).length = 0 := by rw [pcs_zero]; rfl
  rw [h0]
  go_enter Tryz.func148, Tryz.ntmps148
  go_wp2
  go_ret
  exact ⟨_, rfl, isI_zero, (Below.refl _ _).alloc (Nat.le_refl _) _⟩
theorem integer_close (neg : Bool) (pv : Value) (N : Nat) (hlen : (pcs N).length ≤ 1099511627776) (w : World) (hw : Good w) (hI : U64s w pv (pcs N)) :
    Calls Tryz.prog 148 #[.agg #[.bool neg, pv]] w fun e w' => ∃ r : ByteArray, e = .returned (.string r) ∧ IsI r (signedOf neg N) ∧ Below w.heap.size w w' := by
  by_cases hN : N = 0
  · subst hN
    have : signedOf neg 0 = 0 := by cases neg <;> rfl
    rw [this]
    exact integer_close_zero neg pv w hI
  · cases neg
    · exact callsIn_wide.1 (integer_close_pos pv N hN hlen w hw hI)
    · exact callsIn_wide.1 (integer_close_neg pv N hN hlen w hw hI)
end Go.Proofs.YtbogpbjddaoeiaaGreatDoor
