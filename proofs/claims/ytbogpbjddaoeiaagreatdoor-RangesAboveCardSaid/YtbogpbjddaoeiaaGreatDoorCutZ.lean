import Derived.Test.YtbogpbjddaoeiaaGreatDoorAbvQZ
import Derived.Test.YtbogpbjddaoeiaaGreatDoorLawKZ
import Derived.Test.YtbogpbjddaoeiaaGreatDoorEndsPZ
import Derived.ArgAppend
namespace Go.Proofs.YtbogpbjddaoeiaaGreatDoor
open Go.RowKit Go.Shelf
open Go.Lib (decDigits itoa nDigits)
/-- a slice of texts of numbers -/
def Txts (w : World) (v : Value) (C : List Rat) : Prop := ∃ b c, v = .slice (some ⟨b, 0, none⟩) C.length c ∧ C.length ≤ c ∧ c ≤ maxLen ∧ b < w.heap.size ∧ ∀ i (h : i < C.length), w.cell? ⟨b, i, none⟩ = some (.string (tx C[i]))
theorem Txts.below {w w' : World} {v : Value} {C : List Rat} (h : Txts w v C) (hb : Below w.heap.size w w') : Txts w' v C := by
  obtain ⟨b, c, h1, h2, h3, h4, h5⟩ := h
  exact ⟨b, c, h1, h2, h3, Nat.lt_of_lt_of_le h4 hb.size, fun i hi => (hb.cell (p := ⟨b, i, none⟩) h4).trans (h5 i hi)⟩
def cellsX (C : List Rat) : List Value := C.map fun q => .string (tx q)
theorem cellsX_len (C : List Rat) : (cellsX C).length = C.length := by unfold cellsX; rw [List.length_map]
theorem cellsX_get {C : List Rat} {i : Nat} (h : i < C.length) : (cellsX C)[i]? = some (.string (tx C[i])) := by unfold cellsX; rw [List.getElem?_map, List.getElem?_eq_getElem h]; rfl
theorem cellsX_one (C : List Rat) : ∀ u ∈ cellsX C, u.oneCell' = true := fun u hu => by
  unfold cellsX at hu
  obtain ⟨q, _, rfl⟩ := List.mem_map.1 hu
  rfl
theorem txts_of_owns {w : World} {base : Nat} {v : Value} {C : List Rat} (h : w.ownsRow base 31 1 v C.length (cellsX C)) (h0 : 0 < C.length) : Txts w v C := by
  obtain ⟨n, hn⟩ : ∃ n, C.length = n + 1 := ⟨C.length - 1, by omega⟩
  have h' := h
  rw [hn] at h'
  obtain ⟨g, cap, rfl⟩ := ownsRow_succ h'
  rw [← hn] at h' ⊢
  obtain ⟨_, g2, g3, g4, _, hc⟩ := owns_row_cells1 h'
  exact ⟨g, cap, rfl, g3, g4, g2, fun i hi => (hc i _ (cellsX_get hi)).1⟩
theorem txts_start (a b : Rat) (w : World) : Txts (w.alloc (Obj.cells #[.string (tx a), .string (tx b)] 31)) (.slice (some ⟨w.heap.size, 0, none⟩) 2 2) [a, b] := by
  refine ⟨_, _, rfl, Nat.le_refl _, by decide, by simp, fun i hi => ?_⟩
  match i, hi with
  | 0, _ => exact alloc_cells w #[_, _] _ 0 (by simp)
  | 1, _ => exact alloc_cells w #[_, _] _ 1 (by simp)
/-- a cut's texts, from a place on -/
theorem cells_from {w : World} {b : Nat} {C : List Rat} (h : ∀ i (h : i < C.length), w.cell? ⟨b, i, none⟩ = some (.string (tx C[i]))) (k : Nat) : ∀ (j : Nat) (u : Value), (cellsX (C.drop k))[j]? = some u → w.cell? ((⟨b, k, none⟩ : Addr).add j) = some u := by
  intro j u hj
  have hjl : j < (C.drop k).length := by have := (List.getElem?_eq_some_iff.1 hj).1; rwa [cellsX_len] at this
  rw [cellsX_get hjl] at hj
  cases hj
  have hk : k + j < C.length := by rw [List.length_drop] at hjl; omega
  rw [show (⟨b, k, none⟩ : Addr).add j = ⟨b, k + j, none⟩ by unfold Addr.add; split; (rename_i h0; rw [h0]; rfl); rfl, h _ hk, List.getElem_drop]
theorem cells_upto {w : World} {b : Nat} {C : List Rat} (h : ∀ i (h : i < C.length), w.cell? ⟨b, i, none⟩ = some (.string (tx C[i]))) (k : Nat) : ∀ (j : Nat) (u : Value), (cellsX (C.take k))[j]? = some u → w.cell? ((⟨b, 0, none⟩ : Addr).add j) = some u := by
  intro j u hj
  have hjl : j < (C.take k).length := by have := (List.getElem?_eq_some_iff.1 hj).1; rwa [cellsX_len] at this
  rw [cellsX_get hjl] at hj
  cases hj
  have hk : j < C.length := by rw [List.length_take] at hjl; omega
  rw [show (⟨b, 0, none⟩ : Addr).add j = ⟨b, j, none⟩ by unfold Addr.add; split; (rename_i h0; rw [h0]); simp, h _ hk, List.getElem_take]
theorem add_zero_addr (g j : Nat) : (⟨g, 0, none⟩ : Addr).add j = ⟨g, j, none⟩ := by
  unfold Addr.add
  split
  · rename_i h0; rw [h0]
  · simp
def CutPost (C : List Rat) (x : Rat) (w : World) (e : Ending) (w' : World) : Prop := ∃ v, e = .returned v ∧ Txts w' v (cutQ C x) ∧ Below w.heap.size w w'
theorem cutQ_same {C : List Rat} {x : Rat} (h : cutK x C = 0 ∨ cutK x C = C.length ∨ C[cutK x C]? = some x) : cutQ C x = C := by unfold cutQ; rw [if_pos h]
theorem cutQ_new {C : List Rat} {x : Rat} {k : Nat} (hk : cutK x C = k) (h0 : k ≠ 0) (h1 : k < C.length) (h2 : C[k] ≠ x) : cutQ C x = C.take k ++ x :: C.drop k := by
  unfold cutQ
  rw [hk, if_neg]
  rintro (h | h | h)
  · exact h0 h
  · omega
  · rw [List.getElem?_eq_getElem h1] at h
    exact h2 (Option.some.inj h)
theorem isT (q : Rat) : IsR (tx q) q := isR_mk q
theorem txSize {q : Rat} (h : FrB q) : (tx q).size ≤ 402 := ratB_size h.ok.1
/-- an append that has no room, as one operation -/
theorem wp_append_grow (w : World) {o : Oper} {a : Act} {K : Act → World → Prop} {Q : Exit → Act → World → Prop} (s x : Operand) (t : TypeId)
    (ho : o.op = .call { callee := .builtin .append, args := #[s, x], argTypes := #[t, t] })
    (e : TypeId) (i : TypeInfo) (z : Value) (size bytes : Nat) (ht : Tryz.prog.underlying t = some (.slice e)) (hi : Tryz.prog.info? e = some i) (hz : i.zero = some z) (hsize : i.size = size) (hby : i.bytes = bytes) (hzs : z.cells.size = size) (hsz : 0 < size)
    (b : Addr) (n cap : Nat) (olds : List Value) (hs : a.eval s = .slice (some b) n cap) (hlo : olds.length = n * size) (holds : ∀ j u, olds[j]? = some u → w.cell? (b.add j) = some u)
    (ad : Addr) (m c : Nat) (news : List Value) (hx : a.eval x = .slice (some ad) m c) (hl : news.length = m * size) (hnews : ∀ j u, news[j]? = some u → w.cell? (ad.add j) = some u)
    (hg : cap < n + m) (h63 : n + m ≤ maxLen) (hbytes : (n + m) * bytes ≤ 140737488355328)
    (h : ∀ v' w', w'.ownsRow w.heap.size e size v' (n + m) (olds ++ news) → w.grownBy w' none → K (a.put o.dst v') w') : o.wp Tryz.prog a w K Q := by
  obtain ⟨v', w', hr, h2, h3⟩ := run_append_arg_grows (P := Tryz.prog) w t o.type e i z size bytes ht hi hz hsize hby hzs hsz b n cap olds hlo holds ad m c news hl hnews hg h63 hbytes
  unfold Oper.wp execOp
  simp only [ho, resolve, invoke, builtin, Sem.run_bind, Sem.run_pure, Result.andThen_ok, List.map_toArray, List.map_cons, List.map_nil, hs, hx, hr]
  exact h v' w' h2 h3
set_option maxRecDepth 100000 in
set_option maxHeartbeats 8000000 in
theorem law_cut (v : Value) (C : List Rat) (x : Rat) (hx : FrB x) (hC : ∀ c ∈ C, FrB c) (w : World) (hw : Good w) (hv : Txts w v C) (h2 : 2 ≤ C.length) (hl : C.length ≤ 1000) :
    Calls Tryz.prog 34 #[v, .string (tx x)] w (CutPost C x w) := by
  have HV := Lib.hid hv
  obtain ⟨b, c, rfl, hcn, hcm, hbl, hcell⟩ := hv
  have HK := Lib.hid (cutK_le x C)
  have HKL := Lib.hid (cutK_lt x C)
  have HKA := Lib.hid (cutK_at x C)
  have hsx := txSize hx
  have HX := Lib.hid (isT x)
  have hbw := Below.refl w.heap.size w
  have hcm' : c ≤ 9223372036854775807 := by unfold maxLen at hcm; omega
  have HRET := Lib.hid (fun (w' : World) (hb : Below w.heap.size w w') (h : cutQ C x = C) => show CutPost C x w (.returned (.slice (some ⟨b, 0, none⟩) C.length c)) w' from ⟨_, rfl, by rw [h]; exact HV.out.below hb, hb⟩)
  obtain ⟨t, ht⟩ : ∃ t, t = tx x := ⟨_, rfl⟩
  rw [← ht] at hsx HX ⊢
  have HT := Lib.hid ht
  clear ht
  go_enter Tryz.func34, Tryz.ntmps34
  go_wp2_with fail
  go_loopw [5] (fun kv wr => ∃ k : Nat, k ≤ cutK x C ∧ kv = .int .i64 (k : Int) ∧ Below w.heap.size w wr) (fun kv _ => C.length - (intOf kv).toNat)
  case atStart => exact ⟨0, Nat.zero_le _, rfl, hbw⟩
  case round =>
    obtain ⟨k, hkk, rfl, hbr⟩ := hrel
    have HKK := Lib.hid hkk
    have hkl : k ≤ C.length := by have := HK.out; omega
    clear hkk
    by_cases hk : k < C.length
    · have c0 := hcell k hk
      rw [← hbr.cell (p := ⟨b, k, none⟩) hbl] at c0
      have hsk := txSize (hC _ (List.getElem_mem hk))
      have hkn : decide ((k : Int) < (C.length : Int)) = true := decide_eq_true (by omega)
      have i1 : (0 : Int) ≤ (k : Int) := by omega
      have i2 : (k : Int) < (C.length : Int) := by omega
      obtain ⟨lt, hlt⟩ : ∃ lt : Bool, lt = decide (C[k] < x) := ⟨_, rfl⟩
      have HLT := Lib.hid hlt
      have HS := Lib.hid (isT C[k])
      have HEQ := Lib.hid ((isT C[k]).beq2 HX.out)
      obtain ⟨s, hs⟩ : ∃ s, s = tx C[k] := ⟨_, rfl⟩
      rw [← hs] at c0 hsk HS HEQ
      clear hlt hs
      cases lt
      · have hkc : cutK x C = k := by
          have h1 := HKK.out
          rcases Nat.lt_or_ge k (cutK x C) with h5 | h5
          · exact (of_decide_eq_false HLT.out.symm (HKL.out k hk h5)).elim
          · omega
        have HKC := Lib.hid hkc
        by_cases h0 : k = 0
        · subst h0
          have HR := Lib.hid (fun w' hb => HRET.out w' hb (cutQ_same (.inl HKC.out)))
          clear hkc
          go_wp2_with fail
          refine (law_less s t _ _ HS.out HX.out (by omega) (by omega) _ (hw.below hbr)).mono ?_
          rintro e w1 ⟨rfl, hb1⟩
          rw [← HLT.out]
          go_wp2
          go_ret
          exact HR.out _ (hbr.trans (hb1.mono hbr.size))
        · have k0 : ((k : Int) == 0) = false := beq_false_of_ne (by omega)
          have k1 : ((k : Int) == (C.length : Int)) = false := beq_false_of_ne (by omega)
          obtain ⟨q, hq⟩ : ∃ q : Bool, q = decide (C[k] = x) := ⟨_, rfl⟩
          rw [← hq] at HEQ
          have HQ := Lib.hid hq
          have hse := HEQ.out
          clear hkc hq
          cases q
          · have hCk : C[k] ≠ x := of_decide_eq_false HQ.out.symm
            have HNEW := Lib.hid (cutQ_new HKC.out h0 hk hCk)
            go_wp2_with fail
            refine (law_less s t _ _ HS.out HX.out (by omega) (by omega) _ (hw.below hbr)).mono ?_
            rintro e w1 ⟨rfl, hb1⟩
            rw [← HLT.out]
            have hbr1 := hbr.trans (hb1.mono hbr.size)
            have c1 := (hb1.cell (p := ⟨b, k, none⟩) (Nat.lt_of_lt_of_le hbl hbr.size)).trans c0
            have hbl1 : b < w1.heap.size := Nat.lt_of_lt_of_le hbl hbr1.size
            have HC1 := Lib.hid (fun i (hi : i < C.length) => (hbr1.cell (p := ⟨b, i, none⟩) hbl).trans (hcell i hi))
            have hkc : k ≤ c := by omega
            go_wp2_with fail
            refine wp_held_list (fun W' => Below w1.heap.size w1 W') [0, 1, 2, 3, 4, 6, 7, 8] [5, 9, 10] 11 (by kernel_rfl) (by kernel_rfl) ⟨rfl, rfl, rfl, Nat.le_refl _, fun _ _ => rfl⟩ ?_
            iterate 8
              refine wpTakeL_step rfl ?_ rfl ?_ ?_
              rotate_left
              · intro W' hS'
                go_simp
                try with_reducible rfl
              try simp only [List.getElem_toArray, List.getElem_cons_zero, List.getElem_cons_succ, Act.put, List.setIfInBounds_toArray, List.set_cons_zero, List.set_cons_succ]
            have hH0 : Below w1.heap.size w1 w1.drew := ⟨rfl, rfl, rfl, Nat.le_refl _, fun _ _ => rfl⟩
            rw [if_neg (show ¬ c = k by omega)]
            refine wpKeepL_step rfl rfl (fun K hK => ?_)
            go_simp
            obtain ⟨wa, hwa⟩ : ∃ wa, wa = (w1.alloc (Obj.cells #[.string t] 31)).drew := ⟨_, rfl⟩
            have hba : Below w1.heap.size w1 wa := by rw [hwa]; exact (alloc_below _ _).drew
            have hca : ∀ (j : Nat) (u : Value), [Value.string t][j]? = some u → wa.cell? ((⟨w1.heap.size, 0, none⟩ : Addr).add j) = some u := by
              rw [hwa]
              intro j u hj
              match j, hj with
              | 0, hj => cases hj; exact alloc_cells w1 #[.string t] _ 0 (by simp)
            rw [← hwa]
            refine hK _ _ ⟨hba, ?_⟩
            clear hK K hwa
            try simp only [List.getElem_toArray, List.getElem_cons_zero, List.getElem_cons_succ, Act.put, List.setIfInBounds_toArray, List.set_cons_zero, List.set_cons_succ]
            obtain ⟨i0, hi0, hz0, hz1, hz2⟩ := info_parts slText.info
            refine wpKeepL_step rfl rfl (fun K hK => ?_)
            refine wp_append_grow wa (.tmp 42) (.tmp 45) 63 rfl 31 i0 (.string ⟨#[]⟩) 1 16 slText.ht hi0 hz0 hz1 hz2 slText.hzs slText.hsz ⟨w1.heap.size, 0, none⟩ 1 1 [.string t] rfl rfl hca ⟨b, k, none⟩ (C.length - k) (c - k) (cellsX (C.drop k)) rfl (by rw [cellsX_len, List.length_drop, Nat.mul_one]) (cells_from (fun i hi => (hba.cell (p := ⟨b, i, none⟩) hbl1).trans (HC1.out i hi)) k) (by omega) (by unfold maxLen; omega) (by omega) ?_
            intro v1 wb hown1 hgrow1
            have hbb : Below w1.heap.size w1 wb := hba.grown hgrow1 hba.size (fun g hg => by cases hg)
            rw [Nat.add_comm 1] at hown1
            obtain ⟨g1, cp1, rfl⟩ := ownsRow_succ hown1
            obtain ⟨_, hg1, _, _, _, hc1⟩ := owns_row_cells1 hown1
            have hl1 : ([Value.string t] ++ cellsX (C.drop k)).length = (C.length - k + 1) * 1 := by rw [List.length_append, cellsX_len, List.length_drop]; simp; omega
            refine hK _ _ ⟨hbb, ?_⟩
            clear hK K
            try simp only [List.getElem_toArray, List.getElem_cons_zero, List.getElem_cons_succ, Act.put, List.setIfInBounds_toArray, List.set_cons_zero, List.set_cons_succ]
            refine wpKeepL_step rfl rfl (fun K hK => ?_)
            refine wp_append_grow wb (.tmp 40) (.tmp 46) 63 rfl 31 i0 (.string ⟨#[]⟩) 1 16 slText.ht hi0 hz0 hz1 hz2 slText.hzs slText.hsz ⟨b, 0, none⟩ k k (cellsX (C.take k)) rfl (by rw [cellsX_len, List.length_take, Nat.mul_one]; omega) (cells_upto (fun i hi => (hbb.cell (p := ⟨b, i, none⟩) hbl1).trans (HC1.out i hi)) k) ⟨g1, 0, none⟩ (C.length - k + 1) cp1 ([.string t] ++ cellsX (C.drop k)) rfl hl1 (fun j u hj => by rw [add_zero_addr]; exact (hc1 j u hj).1) (by omega) (by unfold maxLen; omega) (by omega) ?_
            intro v2 wc hown2 hgrow2
            have hbc : Below w1.heap.size w1 wc := hbb.grown hgrow2 hbb.size (fun g hg => by cases hg)
            have hcl : (C.take k ++ x :: C.drop k).length = k + (C.length - k + 1) := by rw [List.length_append, List.length_take, List.length_cons, List.length_drop]; omega
            have hcx : cellsX (C.take k) ++ ([Value.string t] ++ cellsX (C.drop k)) = cellsX (C.take k ++ x :: C.drop k) := by rw [HT.out]; unfold cellsX; rw [List.map_append]; rfl
            rw [hcx, ← hcl] at hown2
            have HT2 := Lib.hid (txts_of_owns hown2 (by omega))
            refine hK _ _ ⟨hbc, ?_⟩
            clear hK K hown1 hown2 hcl hcx hc1
            try simp only [List.getElem_toArray, List.getElem_cons_zero, List.getElem_cons_succ, Act.put, List.setIfInBounds_toArray, List.set_cons_zero, List.set_cons_succ]
            unfold wpKeepL
            simp only [List.drop_succ_cons, List.drop_zero]
            try simp only [List.getElem_toArray, List.getElem_cons_zero, List.getElem_cons_succ, Act.put, List.setIfInBounds_toArray, List.set_cons_zero, List.set_cons_succ]
            refine wpKeep_step rfl (fun K hK => ?_)
            go_simp
            refine hK _ _ ⟨trivial, wpKeep_nil ?_⟩
            clear hK K
            try simp only [List.getElem_toArray, List.getElem_cons_zero, List.getElem_cons_succ, Act.put, List.setIfInBounds_toArray, List.set_cons_zero, List.set_cons_succ]
            refine NormalOnly.mk ?_
            go_wp2
            go_ret
            exact ⟨v2, rfl, by rw [HNEW.out]; exact HT2.out, hbr1.trans (hbc.mono hbr1.size)⟩
          · have HR := Lib.hid (fun w' hb => HRET.out w' hb (cutQ_same (.inr (.inr (by rw [HKC.out, List.getElem?_eq_getElem hk, of_decide_eq_true HQ.out.symm])))))
            go_wp2_with fail
            refine (law_less s t _ _ HS.out HX.out (by omega) (by omega) _ (hw.below hbr)).mono ?_
            rintro e w1 ⟨rfl, hb1⟩
            rw [← HLT.out]
            have hbr1 := hbr.trans (hb1.mono hbr.size)
            have c1 := (hb1.cell (p := ⟨b, k, none⟩) (Nat.lt_of_lt_of_le hbl hbr.size)).trans c0
            go_wp2
            go_ret
            exact HR.out _ hbr1
      · have hkc : k < cutK x C := by
          have h1 := HKK.out
          rcases Nat.lt_or_ge k (cutK x C) with h5 | h5
          · exact h5
          · have e : cutK x C = k := by omega
            have := HKA.out (by omega)
            simp only [e] at this
            exact (this (of_decide_eq_true HLT.out.symm)).elim
        go_wp2_with fail
        refine (law_less s t _ _ HS.out HX.out (by omega) (by omega) _ (hw.below hbr)).mono ?_
        rintro e w1 ⟨rfl, hb1⟩
        rw [← HLT.out]
        go_wp2
        refine ⟨⟨k + 1, hkc, int_succ k, hbr.trans (hb1.mono hbr.size)⟩, ?_⟩
        show C.length - ((k : Int) + 1).toNat < C.length - ((k : Int)).toNat
        omega
    · have hkn : decide ((k : Int) < (C.length : Int)) = false := decide_eq_false (by omega)
      obtain rfl : k = C.length := by omega
      have hkc : cutK x C = C.length := by have := HK.out; have := HKK.out; omega
      have HR := Lib.hid (fun w' hb => HRET.out w' hb (cutQ_same (.inr (.inl hkc))))
      have k0 : ((C.length : Int) == 0) = false := beq_false_of_ne (by omega)
      clear hkc
      go_wp2
      go_ret
      exact HR.out _ hbr
end Go.Proofs.YtbogpbjddaoeiaaGreatDoor
