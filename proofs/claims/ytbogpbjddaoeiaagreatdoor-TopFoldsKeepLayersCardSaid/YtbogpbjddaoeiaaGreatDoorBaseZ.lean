import Derived.Test.YtbogpbjddaoeiaaGreatDoorProg
import Derived.Test.YtbogpbjddaoeiaaGreatDoorMathZ
import Derived.WalkKit
import Derived.WalkSmall
import Derived.Lib.LaidTab
import Derived.Lib.Hide
import Derived.Lib.Strings
namespace Go.Proofs.YtbogpbjddaoeiaaGreatDoor
open Go.Lib (decDigits itoa nDigits compareBytes)
open Go.RowKit

/-- The package-level variables that the calls read stand as they were laid. -/
structure Good (w : World) : Prop where
  pow : Lib.TabIs Tryz.prog w "internal/strconv.uint64pow10" .u64 Lib.pow10Tab
  maxLen : ∃ m, w.cell? ⟨0, 0, none⟩ = some (.int .i64 m)
  big : 6 ≤ w.heap.size
theorem gPow : Tryz.prog.globalNamed "internal/strconv.uint64pow10" = some 1 := by kernel_rfl
theorem Good.mono {w w' : World} {B : Nat} (h : Good w) (hb : Below B w w') (hB : 6 ≤ B) : Good w' := by
  obtain ⟨hp, ⟨m, hm⟩, hs⟩ := h
  exact ⟨var?_below hb gPow (by omega) hp, ⟨m, by rw [hb.cell (by show 0 < B; omega)]; exact hm⟩, Nat.le_trans hs hb.size⟩
theorem Good.below {w w' : World} (h : Good w) (hb : Below w.heap.size w w') : Good w' := h.mono hb h.big
theorem Good.alloc {w : World} (h : Good w) (o : Obj) : Good (w.alloc o) := h.below ((Below.refl _ _).alloc (Nat.le_refl _) o)
theorem Good.drew {w : World} (h : Good w) : Good w.drew := h.below ((Below.refl _ _).drew)

/-- The string is the text of an integer, of a rational number. -/
def IsI (s : ByteArray) (n : Int) : Prop := s.data.toList = itoa n
def IsR (s : ByteArray) (q : Rat) : Prop := s.data.toList = rtext q
theorem IsI.mk {l : List UInt8} {n : Int} (h : l = itoa n) : IsI ⟨l.toArray⟩ n := by unfold IsI; simpa using h
theorem IsR.mk {l : List UInt8} {q : Rat} (h : l = rtext q) : IsR ⟨l.toArray⟩ q := by unfold IsR; simpa using h
theorem isI_itoa (n : Int) : IsI ⟨(itoa n).toArray⟩ n := IsI.mk rfl
theorem IsI.size {s : ByteArray} {n : Int} (h : IsI s n) : s.size = (itoa n).length := by rw [Lib.size_eq, h]
theorem IsR.size {s : ByteArray} {q : Rat} (h : IsR s q) : s.size = (rtext q).length := by rw [Lib.size_eq, h]
theorem IsI.pos {s : ByteArray} {n : Int} (h : IsI s n) : 0 < s.size := by
  rw [h.size]; exact List.length_pos_iff.2 (itoa_ne_nil n)
theorem IsR.pos {s : ByteArray} {q : Rat} (h : IsR s q) : 0 < s.size := by
  rw [h.size]; exact List.length_pos_iff.2 (rtext_ne_nil q)
theorem str_ext {s t : ByteArray} (h : s.data.toList = t.data.toList) : s = t := by
  rw [← Lib.mk_data s, ← Lib.mk_data t, h]
theorem IsI.unique {s t : ByteArray} {n : Int} (h : IsI s n) (k : IsI t n) : s = t := str_ext (h.trans k.symm)
theorem IsR.unique {s t : ByteArray} {q : Rat} (h : IsR s q) (k : IsR t q) : s = t := str_ext (h.trans k.symm)
theorem IsI.inj {s : ByteArray} {m n : Int} (h : IsI s m) (k : IsI s n) : m = n := itoa_inj (h.symm.trans k)
theorem IsR.inj {s : ByteArray} {p q : Rat} (h : IsR s p) (k : IsR s q) : p = q := rtext_inj (h.symm.trans k)
theorem IsI.toR {s : ByteArray} {n : Int} (h : IsI s n) : IsR s (n : Rat) := h.trans (rtext_int n).symm
/-- Comparing texts with '=='. -/
theorem IsI.beq {s : ByteArray} {n m : Int} {l : List UInt8} (h : IsI s n) (hl : l = Go.Lib.itoa m) : (s.toList == l) = decide (n = m) := by
  rw [Lib.toList_data, h, hl]
  by_cases e : n = m
  · subst e; simp
  · have : Go.Lib.itoa n ≠ Go.Lib.itoa m := fun hh => e (itoa_inj hh)
    simp [e, this]
theorem IsR.beq {s : ByteArray} {p q : Rat} {l : List UInt8} (h : IsR s p) (hl : l = rtext q) : (s.toList == l) = decide (p = q) := by
  rw [Lib.toList_data, h, hl]
  by_cases e : p = q
  · subst e; simp
  · have : rtext p ≠ rtext q := fun hh => e (rtext_inj hh)
    simp [e, this]
theorem IsR.beq2 {s t : ByteArray} {p q : Rat} (h : IsR s p) (k : IsR t q) : (s.toList == t.toList) = decide (p = q) :=
  h.beq (by rw [Lib.toList_data]; exact k)
theorem IsI.beq2 {s t : ByteArray} {p q : Int} (h : IsI s p) (k : IsI t q) : (s.toList == t.toList) = decide (p = q) :=
  h.beq (by rw [Lib.toList_data]; exact k)
theorem rtext_zero : rtext 0 = [48] := by
  have := rtext_int 0
  rw [itoa_zero] at this
  simpa using this
theorem rtext_one : rtext 1 = [49] := by
  have := rtext_int 1
  rw [itoa_one] at this
  simpa using this
theorem IsI.zero {s : ByteArray} {n : Int} (h : IsI s n) : (s.toList == [48]) = decide (n = 0) := h.beq itoa_zero.symm
theorem IsI.one {s : ByteArray} {n : Int} (h : IsI s n) : (s.toList == [49]) = decide (n = 1) := h.beq itoa_one.symm
theorem IsR.zero {s : ByteArray} {q : Rat} (h : IsR s q) : (s.toList == [48]) = decide (q = 0) := h.beq rtext_zero.symm
theorem IsR.one {s : ByteArray} {q : Rat} (h : IsR s q) : (s.toList == [49]) = decide (q = 1) := h.beq rtext_one.symm
theorem isI_zero : IsI ⟨#[48]⟩ 0 := itoa_zero.symm
theorem isI_one : IsI ⟨#[49]⟩ 1 := itoa_one.symm
theorem isR_zero : IsR ⟨#[48]⟩ 0 := rtext_zero.symm
theorem isR_one : IsR ⟨#[49]⟩ 1 := rtext_one.symm
/-- The first byte. -/
theorem first_byte (s : ByteArray) (h : 0 < s.size) : ∃ r, s.data.toList = s[0] :: r := by
  have h' : 0 < s.data.toList.length := by rw [← Lib.size_eq]; exact h
  cases hl : s.data.toList with
  | nil => rw [hl] at h'; simp at h'
  | cons c r =>
    refine ⟨r, ?_⟩
    have e : s[0] = s.data.toList[0] := rfl
    rw [e]
    simp [hl]
theorem first45 {s : ByteArray} (h : 0 < s.size) : ((s[0].toNat : Int) == 45) = true ↔ ∃ r, s.data.toList = 45 :: r := by
  obtain ⟨r, hr⟩ := first_byte s h
  rw [hr]
  simp only [beq_iff_eq]
  constructor
  · intro he
    exact ⟨r, by congr 1; apply UInt8.toNat_inj.1; show s[0].toNat = 45; omega⟩
  · rintro ⟨r', he⟩
    have := (List.cons.inj he).1
    rw [this]; rfl
theorem itoa_head_neg {n : Int} : (∃ r, Go.Lib.itoa n = 45 :: r) ↔ n < 0 := by
  constructor
  · rintro ⟨r, h⟩
    apply Int.lt_of_not_ge
    intro h0
    rw [itoa_nonneg h0] at h
    exact decDigits_ne45 _ _ h
  · intro h; exact ⟨_, itoa_neg h⟩
theorem IsI.first {s : ByteArray} {n : Int} (h : IsI s n) (h0 : 0 < s.size) : ((s[0].toNat : Int) == 45) = decide (n < 0) := by
  rw [Bool.eq_iff_iff, first45 h0, h, itoa_head_neg]; simp
theorem IsR.first {s : ByteArray} {q : Rat} (h : IsR s q) (h0 : 0 < s.size) : ((s[0].toNat : Int) == 45) = decide (q < 0) := by
  rw [Bool.eq_iff_iff, first45 h0, h, rtext_head_neg]; simp

theorem ret_int {k : IntKind} {a b : Int} (h : a = b) : Ending.returned (.int k a) = .returned (.int k b) := by rw [h]
theorem ret_bool {a b : Bool} (h : a = b) : Ending.returned (.bool a) = .returned (.bool b) := by rw [h]
theorem ret_str {a b : ByteArray} (h : a = b) : Ending.returned (.string a) = .returned (.string b) := by rw [h]
def lenOf : Value → Nat | .slice _ n _ => n | _ => 0

/-- The slice v has n elements of size cells each; its cells hold cs. -/
def Reads (w : World) (size : Nat) (v : Value) (n : Nat) (cs : List Value) : Prop :=
  cs.length = n * size ∧ ∃ p c, v = .slice p n c ∧ n ≤ c ∧ c ≤ maxLen ∧ (0 < n → ∃ b off, p = some ⟨b, off, none⟩ ∧ b < w.heap.size ∧ ∀ i (h : i < cs.length), w.cell? ⟨b, off + i, none⟩ = some cs[i])
theorem Reads.below {w w' : World} {size n : Nat} {v : Value} {cs : List Value} (h : Reads w size v n cs) (hb : Below w.heap.size w w') : Reads w' size v n cs := by
  obtain ⟨hl, p, c, hv, hc, hm, hx⟩ := h
  refine ⟨hl, p, c, hv, hc, hm, fun h0 => ?_⟩
  obtain ⟨b, off, hp, hbl, hcell⟩ := hx h0
  exact ⟨b, off, hp, Nat.lt_of_lt_of_le hbl hb.size, fun i hi => by rw [hb.cell (p := ⟨b, off + i, none⟩) hbl]; exact hcell i hi⟩
theorem Reads.nil (w : World) (size : Nat) (p : Option Addr) (c : Nat) (hm : c ≤ maxLen) : Reads w size (.slice p 0 c) 0 [] :=
  ⟨by simp, p, c, rfl, Nat.zero_le _, hm, fun h => by omega⟩
theorem Reads.take {w : World} {size n k c : Nat} {p : Option Addr} {cs : List Value} (h : Reads w size (.slice p n c) n cs) (hk : k ≤ n) : Reads w size (.slice p k c) k (cs.take (k * size)) := by
  obtain ⟨hl, p', c', hv, hc, hm, hx⟩ := h
  simp only [Value.slice.injEq, true_and] at hv
  obtain ⟨rfl, rfl⟩ := hv
  have hks : k * size ≤ n * size := Nat.mul_le_mul_right _ hk
  refine ⟨by simp; omega, p, c, rfl, by omega, hm, fun h0 => ?_⟩
  obtain ⟨b, off, hp, hbl, hcell⟩ := hx (by omega)
  refine ⟨b, off, hp, hbl, fun i hi => ?_⟩
  rw [List.getElem_take]
  exact hcell i (by simp at hi; omega)
theorem Reads.of_owns {w : World} {base size n : Nat} {e : TypeId} {v : Value} {cs : List Value} (h : w.ownsRow base e size v n cs) : Reads w size v n cs := by
  obtain ⟨hl, h | ⟨g, cap, cur, hv, hb, hg, hn, hm, hs, ht⟩⟩ := h
  · obtain ⟨rfl, rfl⟩ := h
    exact ⟨hl, none, 0, rfl, Nat.le_refl _, Nat.zero_le _, fun h0 => by omega⟩
  · refine ⟨hl, some ⟨g, 0, none⟩, cap, hv, hn, hm, fun _ => ⟨g, 0, rfl, ?_, fun i hi => ?_⟩⟩
    · rcases Nat.lt_or_ge g w.heap.size with h | h
      · exact h
      · rw [Array.getElem?_eq_none h] at hg; simp at hg
    · have hi' : i < cur.toList.length := by
        have := congrArg List.length ht
        simp at this
        simp only [Array.length_toList]
        omega
      have e1 : cs[i] = cur.toList[i] := by
        simp only [← ht, List.getElem_take]
      simp only [World.cell?, hg, e1]
      simp at hi'
      simp [hi']

theorem owns_below {w w' : World} {base : Nat} {e : TypeId} {size n : Nat} {v : Value} {xs : List Value} (h : w.ownsRow base e size v n xs) (hb : Below w.heap.size w w') : w'.ownsRow base e size v n xs := by
  refine ⟨h.1, ?_⟩
  rcases h.2 with h2 | ⟨g, cap, cur, hv, hg, hh, r⟩
  · exact .inl h2
  · refine .inr ⟨g, cap, cur, hv, hg, ?_, r⟩
    rw [hb.block g ?_]
    · exact hh
    · rcases Nat.lt_or_ge g w.heap.size with h' | h'
      · exact h'
      · simp [Array.getElem?_eq_none h'] at hh
/-- t is a slice type over e: its elements have size cells and so many bytes. -/
structure SliceOf (t e : TypeId) (z : Value) (size bytes : Nat) : Prop where
  ht : Tryz.prog.underlying t = some (.slice e)
  info : (Tryz.prog.info? e).map (fun i => (i.zero, i.size, i.bytes)) = some (some z, size, bytes)
  hzs : z.cells.size = size
  hsz : 0 < size
theorem adr_add (b j : Nat) : (⟨b, 0, none⟩ : Addr).add j = ⟨b, j, none⟩ := by
  unfold Addr.add; split
  · rename_i h; rw [h]
  · simp
/-- 'append(s, ..)' of elements that have just been laid in a block of their own, onto a slice of the call's own. -/
theorem app_new {t e : TypeId} {z : Value} {size bytes : Nat} (S : SliceOf t e z size bytes) {ops : Array Oper} {rest : List Oper} {o : Oper} {a : Act} {Q : Exit → Act → World → Prop} {w : World}
    (hgd : o.guard = none) (s x : Operand) (ho : o.op = .call { callee := .builtin .append, args := #[s, x], argTypes := #[t, t] })
    (base : Nat) (v : Value) (n : Nat) (xs : List Value) (hs : a.eval s = v) (hown : w.ownsRow base e size v n xs)
    (m c : Nat) (news : Array Value) (hx : a.eval x = .slice (some ⟨w.heap.size, 0, none⟩) m c) (hl : news.size = m * size) (h1 : ∀ u ∈ news.toList, u.oneCell' = true)
    (hn : (n + m) * bytes ≤ 140737488355328) (hby : 0 < bytes) (hbase : base ≤ w.heap.size) (xs' : List Value) (hxs : xs ++ news.toList = xs')
    (h : ∀ v' w', w'.ownsRow base e size v' (n + m) xs' → Below base w w' → wpList Tryz.prog ops Q rest (a.put o.dst v') w') : wpList Tryz.prog ops Q (o :: rest) a (w.alloc (.cells news e)) := by
  obtain ⟨i, hi, hz0, hz1, hz2⟩ := info_parts S.info
  have hb1 : Below base w (w.alloc (.cells news e)) := (Below.refl _ _).alloc hbase _
  have hle : n + m ≤ (n + m) * bytes := Nat.le_mul_of_pos_right _ hby
  refine wpList_append_own _ hgd s x t ho base e i z size bytes S.ht hi hz0 hz1 hz2 S.hzs S.hsz v n xs hs ?_ ⟨w.heap.size, 0, none⟩ m c news.toList hx (by simpa using hl) ?_ h1 (by unfold maxLen; omega) hn (by simp; omega) ?_
  · exact hown.alloc _
  · intro j u hj
    rw [adr_add, World.cell?_alloc_new]
    simpa using hj
  · intro v' w' ho hg _
    rw [hxs] at ho
    refine h v' w' ho (hb1.grown hg (by simp; omega) (fun k hk => (hown.lt k hk).1))

/-- The same, inside a region that draws its order ('go_region_law'). -/
theorem step_app_new {t e : TypeId} {z : Value} {size bytes : Nat} (S : SliceOf t e z size bytes) {ops : Array Oper} {o : Oper} {a : Act} {K : Act → World → Prop} {Q : Exit → Act → World → Prop} {E : Prop} {w : World}
    (hgd : o.guard = none) (s x : Operand) (ho : o.op = .call { callee := .builtin .append, args := #[s, x], argTypes := #[t, t] })
    (base : Nat) (v : Value) (n : Nat) (xs : List Value) (hs : a.eval s = v) (hown : w.ownsRow base e size v n xs)
    (m c : Nat) (news : Array Value) (hx : a.eval x = .slice (some ⟨w.heap.size, 0, none⟩) m c) (hl : news.size = m * size) (h1 : ∀ u ∈ news.toList, u.oneCell' = true)
    (hn : (n + m) * bytes ≤ 140737488355328) (hby : 0 < bytes) (hbase : base ≤ w.heap.size) (xs' : List Value) (hxs : xs ++ news.toList = xs')
    (h : ∀ v' w', w'.ownsRow base e size v' (n + m) xs' → Below base w w' → K (a.put o.dst v') w') :
    if Region.wanted o (yielded ops a.tmps) = true then Oper.wp Tryz.prog o a (w.alloc (.cells news e)) K Q else E := by
  have hw : Region.wanted o (yielded ops a.tmps) = true := by simp [Region.wanted, hgd]
  rw [if_pos hw]
  obtain ⟨i, hi, hz0, hz1, hz2⟩ := info_parts S.info
  have hb1 : Below base w (w.alloc (.cells news e)) := (Below.refl _ _).alloc hbase _
  have hle : n + m ≤ (n + m) * bytes := Nat.le_mul_of_pos_right _ hby
  refine wp_append_own (w.alloc (.cells news e)) s x t ho base e i z size bytes S.ht hi hz0 hz1 hz2 S.hzs S.hsz v n xs hs ?_ ⟨w.heap.size, 0, none⟩ m c news.toList hx (by simpa using hl) ?_ h1 (by unfold maxLen; omega) hn (by simp; omega) ?_
  · exact hown.alloc _
  · intro j u hj
    rw [adr_add, World.cell?_alloc_new]
    simpa using hj
  · intro v' w' ho hg _
    rw [hxs] at ho
    refine h v' w' ho (hb1.grown hg (by simp; omega) (fun k hk => (hown.lt k hk).1))

theorem step_app_drew {t e : TypeId} {z : Value} {size bytes : Nat} (S : SliceOf t e z size bytes) {ops : Array Oper} {o : Oper} {a : Act} {K : Act → World → Prop} {Q : Exit → Act → World → Prop} {E : Prop} {w : World}
    (hgd : o.guard = none) (s x : Operand) (ho : o.op = .call { callee := .builtin .append, args := #[s, x], argTypes := #[t, t] })
    (base : Nat) (v : Value) (n : Nat) (xs : List Value) (hs : a.eval s = v) (hown : w.ownsRow base e size v n xs)
    (m c : Nat) (news : Array Value) (hx : a.eval x = .slice (some ⟨w.heap.size, 0, none⟩) m c) (hl : news.size = m * size) (h1 : ∀ u ∈ news.toList, u.oneCell' = true)
    (hn : (n + m) * bytes ≤ 140737488355328) (hby : 0 < bytes) (hbase : base ≤ w.heap.size) (xs' : List Value) (hxs : xs ++ news.toList = xs')
    (h : ∀ v' w', w'.ownsRow base e size v' (n + m) xs' → Below base w w' → K (a.put o.dst v') w') :
    if Region.wanted o (yielded ops a.tmps) = true then Oper.wp Tryz.prog o a (w.alloc (.cells news e)).drew K Q else E :=
  step_app_new S (w := w.drew) hgd s x ho base v n xs hs hown m c news hx hl h1 hn hby hbase xs' hxs fun v' w' h2 h3 => h v' w' h2 ⟨h3.os, h3.tape, h3.output, h3.size, h3.block⟩

end Go.Proofs.YtbogpbjddaoeiaaGreatDoor
