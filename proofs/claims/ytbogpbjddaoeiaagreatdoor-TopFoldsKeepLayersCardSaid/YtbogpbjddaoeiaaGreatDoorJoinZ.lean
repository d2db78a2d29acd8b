import Derived.Test.YtbogpbjddaoeiaaGreatDoorLaysZ
import Derived.Test.YtbogpbjddaoeiaaGreatDoorHeldInZ
namespace Go.Proofs.YtbogpbjddaoeiaaGreatDoor
open Go.RowKit Go.Shelf Go.Sort Go.Lib
open Go.Lib (decDigits itoa nDigits)
theorem slPart : SliceOf 22 33 (.agg #[.string ⟨#[]⟩, .string ⟨#[]⟩]) 2 32 := ⟨Tryz.underlying22, by kernel_rfl, rfl, by decide⟩
def cellsP (l : List RP) : List Value := l.flatMap encP
theorem cellsP_len (l : List RP) : (cellsP l).length = l.length * 2 := by
  induction l with
  | nil => rfl
  | cons x l ih => unfold cellsP at *; rw [List.flatMap_cons, List.length_append, ih, List.length_cons]; simp [encP]; omega
theorem cellsP_snoc (l : List RP) (x : RP) : cellsP (l ++ [x]) = cellsP l ++ encP x := by unfold cellsP; simp
theorem cellsP_oneCell (x : RP) : ∀ v ∈ encP x, v.oneCell' = true := by intro v hv; simp [encP] at hv; rcases hv with rfl | rfl <;> rfl
noncomputable def maxP (a b : ByteArray) : ByteArray := if ratV a < ratV b then b else a
theorem maxP_ok {a b : ByteArray} (ha : ratB a.data.toList = true) (hb : ratB b.data.toList = true) : ratB (maxP a b).data.toList = true := by unfold maxP; split <;> assumption
/-- one step of the merge, on what has been put out, the last first -/
noncomputable def mergeR : List RP → RP → List RP
  | [], p => [p]
  | q :: r, p => if ratV q.1.2 < ratV p.1.1 then p :: q :: r else ⟨(q.1.1, maxP q.1.2 p.1.2), q.2.1, maxP_ok q.2.2 p.2.2⟩ :: r
noncomputable def accP (M : List RP) (k : Nat) : List RP := (M.take k).foldl mergeR []
theorem accP_succ {M : List RP} {k : Nat} (hk : k < M.length) : accP M (k + 1) = mergeR (accP M k) M[k] := by
  unfold accP; rw [List.take_add_one, List.getElem?_eq_getElem hk, List.foldl_append]; rfl
theorem mergeR_len : ∀ (A : List RP) (p : RP), (mergeR A p).length ≤ A.length + 1
  | [], p => by simp [mergeR]
  | q :: r, p => by
    rw [mergeR]
    split
    · simp
    · simp
theorem accP_len (M : List RP) : ∀ k, (accP M k).length ≤ k := by
  intro k
  induction k with
  | zero => simp [accP]
  | succ k ih =>
    by_cases hk : k < M.length
    · rw [accP_succ hk]
      have := mergeR_len (accP M k) M[k]
      omega
    · have : accP M (k + 1) = accP M k := by unfold accP; rw [List.take_of_length_le (by omega), List.take_of_length_le (by omega)]
      rw [this]; omega
/-- the union of sorted intervals -/
noncomputable def mergeP (M : List RP) : List RP := (M.foldl mergeR []).reverse
/-- joined's word: the intervals, sorted by their low ends in some order, and merged. -/
def JoinPost (L : List RP) (w : World) (e : Ending) (w' : World) : Prop :=
  ∃ (v : Value) (M : List RP), e = .returned v ∧ M.Perm L ∧ M.Pairwise (fun x y => ¬ ratV y.1.1 < ratV x.1.1) ∧ w'.ownsRow w.heap.size 33 2 v (mergeP M).length (cellsP (mergeP M)) ∧ Below w.heap.size w w'
def JoinSt (M : List RP) (n0 : Nat) (w1 : World) (k : Nat) (ov : Value) (wr : World) : Prop :=
  k ≤ M.length ∧ wr.ownsRow n0 33 2 ov (accP M k).length (cellsP (accP M k).reverse) ∧ Below n0 w1 wr
theorem owns_row_cells {w : World} {base : Nat} {e : TypeId} {v : Value} {n : Nat} {xs : List Value} {g cap : Nat} (h : w.ownsRow base e 2 v n xs) (hv : v = .slice (some ⟨g, 0, none⟩) n cap) {j : Nat} {u : Value} (hj : xs[j]? = some u) : w.cell? ⟨g, j, none⟩ = some u ∧ w.frozen? ⟨g, j, none⟩ = false ∧ g < w.heap.size ∧ base ≤ g ∧ n ≤ cap ∧ cap ≤ maxLen := by
  obtain ⟨hl, h | ⟨g', cap', cur, hv', hb, hg, hn, hm, hs, ht⟩⟩ := h
  · obtain ⟨rfl, rfl⟩ := h
    simp at hl
    subst hl
    simp at hj
  · rw [hv] at hv'
    simp only [Value.slice.injEq, Option.some.injEq, Addr.mk.injEq, and_true, true_and] at hv'
    obtain ⟨rfl, rfl⟩ := hv'
    have hc : cur[j]? = some u := by
      rw [← ht] at hj
      rw [List.getElem?_take] at hj
      split at hj
      · simpa using hj
      · simp at hj
    refine ⟨by simp [World.cell?, hg, hc], by simp [World.frozen?, hg], lt_of_some hg, hb, hn, hm⟩
theorem oneTwo (a b : ByteArray) : ∀ u ∈ (#[Value.string a, Value.string b] : Array Value).toList, u.oneCell' = true := by
  intro u hu
  simp at hu
  rcases hu with rfl | rfl <;> rfl
theorem cells_cons (A : List RP) (p : RP) : cellsP (p :: A).reverse = cellsP A.reverse ++ [Value.string p.1.1, Value.string p.1.2] := by rw [List.reverse_cons, cellsP_snoc]; rfl
theorem cells_set (q : RP) (r : List RP) (mx : ByteArray) {m : Nat} (hm : m = r.length) : (cellsP (q :: r).reverse).set (m * 2 + 1) (.string mx) = cellsP r.reverse ++ [.string q.1.1, .string mx] := by
  rw [cells_cons, List.set_append_right _ _ (by rw [cellsP_len, List.length_reverse, hm]; omega)]
  have e : m * 2 + 1 - (cellsP r.reverse).length = 1 := by rw [cellsP_len, List.length_reverse, hm]; omega
  rw [e]; rfl
theorem owns_base {w : World} {b1 b2 : Nat} {e : TypeId} {size n : Nat} {v : Value} {xs : List Value} (h : w.ownsRow b2 e size v n xs) (hb : b1 ≤ b2) : w.ownsRow b1 e size v n xs := by
  refine ⟨h.1, ?_⟩
  rcases h.2 with h2 | ⟨g, cap, cur, hv, hg, r⟩
  · exact .inl h2
  · exact .inr ⟨g, cap, cur, hv, Nat.le_trans hb hg, r⟩
theorem cellsP_get : ∀ (L : List RP) (t : Nat), t < L.length * 2 → (cellsP L)[t]? = some ((encP L[t / 2]!)[t % 2]!)
  | [], t, h => by simp at h
  | x :: l, 0, _ => by simp [cellsP, encP]
  | x :: l, 1, _ => by simp [cellsP, encP]
  | x :: l, t + 2, h => by
    have ih := cellsP_get l t (by simp at h; omega)
    have e1 : cellsP (x :: l) = Value.string x.1.1 :: Value.string x.1.2 :: cellsP l := by simp [cellsP, encP]
    rw [e1, show (t + 2) / 2 = t / 2 + 1 by omega, show (t + 2) % 2 = t % 2 by omega]
    simpa using ih
theorem cellsP_of_pairs {w : World} {b off : Nat} {L : List RP} (hcell : ∀ i (h : i < (L.map fun x : RP => x.1).length), w.cell? ⟨b, off + i * 2, none⟩ = some (.string (L.map fun x : RP => x.1)[i].1) ∧ w.cell? ⟨b, off + i * 2 + 1, none⟩ = some (.string (L.map fun x : RP => x.1)[i].2)) :
    ∀ j u, (cellsP L)[j]? = some u → w.cell? ⟨b, off + j, none⟩ = some u := by
  intro j u hj
  have hlt : j < L.length * 2 := by
    rw [← cellsP_len]
    rcases Nat.lt_or_ge j (cellsP L).length with h | h
    · exact h
    · rw [List.getElem?_eq_none h] at hj; cases hj
  rw [cellsP_get L j hlt] at hj
  cases hj
  have h2 : j / 2 < L.length := by omega
  obtain ⟨c0, c1⟩ := hcell (j / 2) (by simpa using h2)
  rw [getElem!_pos L (j / 2) h2]
  simp only [List.getElem_map] at c0 c1
  rcases Nat.mod_two_eq_zero_or_one j with h | h
  · rw [show off + j = off + j / 2 * 2 by omega, h]
    exact c0
  · rw [show off + j = off + j / 2 * 2 + 1 by omega, h]
    exact c1
theorem holds_of_owns {w : World} {base : Nat} {g n cap : Nat} {L : List RP} (h : w.ownsRow base 33 2 (.slice (some ⟨g, 0, none⟩) n cap) n (cellsP L)) : HoldsK encP 2 w g 0 L.toArray := by
  intro j hj
  rw [size_flatK] at hj
  have hj' : j < L.length * 2 := by simpa using hj
  obtain ⟨h1, h2, _⟩ := owns_row_cells h rfl (cellsP_get L j hj')
  rw [get_flatK _ _ _ _ hj, Nat.zero_add]
  have e : L.toArray[j / 2]! = L[j / 2]! := by simp
  rw [e]
  exact ⟨h1, h2⟩
set_option maxRecDepth 100000 in
set_option maxHeartbeats 4000000 in
theorem joined_body (b off c : Nat) (L : List RP) (w : World) (hw : Good w) (hlen : L.length ≤ 1000000) (hl0 : 0 < L.length) (hv : Pairs w (.slice (some ⟨b, off, none⟩) L.length c) (L.map (·.1))) :
    Calls Tryz.prog 68 #[.slice (some ⟨b, off, none⟩) L.length c] w (JoinPost L w) := by
  obtain ⟨p, c', hvv, hc, hm, hx⟩ := hv
  obtain ⟨b', off', rfl, hbl, hcell⟩ := hx (by simpa using hl0)
  simp only [Value.slice.injEq, Option.some.injEq, Addr.mk.injEq, and_true, List.length_map, true_and] at hvv
  obtain ⟨⟨rfl, rfl⟩, rfl⟩ := hvv
  obtain ⟨i0, hi, hz0, hz1, hz2⟩ := info_parts slPart.info
  have hclone := AnyE.slices_Clone (ρ := clonePart_ren) clonePart i0 _ 2 32 hi hz0 hz1 hz2 slPart.hzs (by decide) Tryz.sizeOf33 b off L.length c (cellsP L) w (by rw [cellsP_len]) (by unfold maxLen; omega) (by omega) (cellsP_of_pairs hcell) (fun u hu => by
    obtain ⟨x, _, hx⟩ := List.mem_flatMap.1 hu
    exact cellsP_oneCell x u hx)
  change Calls Tryz.prog 122 _ _ _ at hclone
  have HCL := Lib.hid hclone
  clear hclone hcell hx
  go_enter Tryz.func68, Tryz.ntmps68
  go_wp2_with fail
  refine HCL.out.mono ?_
  rintro e w1 ⟨v1, rfl, hown1, hne1, hb1⟩
  obtain ⟨g, cap, rfl⟩ : ∃ g cap, v1 = .slice (some ⟨g, 0, none⟩) L.length cap := by
    rcases hown1.2 with ⟨h, _⟩ | ⟨g, cap, _, h, _⟩
    · exact (hne1 h).elim
    · exact ⟨g, cap, h⟩
  obtain ⟨hgb, hgs⟩ := hown1.lt g rfl
  have hH1 := holds_of_owns hown1
  have hbig := hw.big
  have hg1 := hw.below hb1
  have hsort := sort_parts g 0 cap L.toArray w1 hg1 (by omega) hgs hH1 (by simp; omega)
  rw [List.size_toArray] at hsort
  have HSO := Lib.hid hsort
  have hcapl : L.length ≤ cap ∧ cap ≤ maxLen := by
    obtain ⟨_, _, _, _, h5, h6⟩ := owns_row_cells hown1 rfl (cellsP_get L 0 (by omega))
    exact ⟨h5, h6⟩
  clear hsort hown1 hne1 hH1
  go_wp2_with fail
  refine HSO.out.mono ?_
  rintro e w2 ⟨rfl, d, hds, hperm, hsrt, hH2, hb2⟩
  obtain ⟨M, rfl⟩ : ∃ M : List RP, d = M.toArray := ⟨d.toList, by simp⟩
  have hML : M.length = L.length := by simpa using hds
  rw [List.toList_toArray] at hperm
  have hs2 := hb2.size
  have hbw2 : Below w.heap.size w w2 := hb1.trans (hb2.mono hgb)
  have hg2 := hw.below hbw2
  have HH2 := Lib.hid hH2
  have HPE := Lib.hid hperm
  have HSR := Lib.hid hsrt
  clear hH2 hperm hsrt hds
  have hst0 : JoinSt M w2.heap.size w2 0 (.slice none 0 0) w2 := ⟨Nat.zero_le _, World.ownsRow_nil _ _ _ _, Below.refl _ _⟩
  go_wp2_with fail
  go_loopw [3, 5, 6, 13] (fun ov _ _ iv wr => ∃ (k : Nat) (o : Value), o = ov ∧ iv = .int .i64 (k : Int) ∧ JoinSt M w2.heap.size w2 k o wr) (fun _ _ _ iv _ => L.length - (intOf iv).toNat)
  case atStart => exact ⟨0, _, rfl, rfl, hst0⟩
  case round =>
    obtain ⟨k, ov, rfl, rfl, hst⟩ := hrel
    by_cases hk : k < L.length
    · have hkM : k < M.length := by omega
      obtain ⟨hkl, hown, hbr⟩ := hst
      obtain ⟨p, hp⟩ : ∃ p, p = M[k] := ⟨_, rfl⟩
      have hE : M.toArray[k]! = p := by rw [hp]; simp [getElem!_pos, hkM]
      have c0 : wr.cell? ⟨g, k * 2, none⟩ = some (.string p.1.1) := by
        have := (hbr.cell (p := ⟨g, 0 + k * 2 + 0, none⟩) (by simp; omega)).trans ((HH2.out.cell (i := k) (c := 0) (by simpa using hkM) (by decide)).1)
        rw [hE, Nat.zero_add] at this
        exact this
      have c1 : wr.cell? ⟨g, k * 2 + 1, none⟩ = some (.string p.1.2) := by
        have := (hbr.cell (p := ⟨g, 0 + k * 2 + 1, none⟩) (by simp; omega)).trans ((HH2.out.cell (i := k) (c := 1) (by simpa using hkM) (by decide)).1)
        rw [hE, Nat.zero_add] at this
        exact this
      have hkn : decide ((k : Int) < (L.length : Int)) = true := decide_eq_true (by omega)
      obtain ⟨A, hA⟩ : ∃ A, A = accP M k := ⟨_, rfl⟩
      have hAl : A.length ≤ k := by rw [hA]; exact accP_len M k
      rw [← hA] at hown
      have hsr := hbr.size
      have HA := Lib.hid hA.symm
      have HP := Lib.hid hp
      have hgr : Good wr := hg2.below hbr
      obtain ⟨x1, x2, xs1, xs2⟩ := p.isR
      have X1 := Lib.hid x1
      have X2 := Lib.hid x2
      have hba := alloc_below wr (Obj.cells #[.string p.1.1, .string p.1.2] 33)
      have hpa := PartAt.alloc p.1.1 p.1.2 wr 33
      clear hA x1 x2 hp hE
      cases A with
      | nil =>
        obtain ⟨a0, cp0, rfl⟩ : ∃ a0 cp0, ov = .slice a0 0 cp0 := by
          rcases hown.2 with ⟨h, _⟩ | ⟨g', cap', _, h, _⟩
          · exact ⟨none, 0, h⟩
          · exact ⟨_, _, h⟩
        have HMG := Lib.hid (show mergeR [] M[k] = [p] by rw [← HP.out]; rfl)
        obtain ⟨A, hA0⟩ : ∃ A : List RP, A = [] := ⟨_, rfl⟩
        go_wp2_with fail
        generalize wr.alloc (Obj.cells #[.string p.1.1, .string p.1.2] 33) = wA at hba hpa ⊢
        go_quiet (fail)
        have hbX0 := hba.trans ((below_drewN wA nq).mono hba.size)
        obtain ⟨p0, p1, p2⟩ := hpa.below (below_drewN wA nq)
        generalize wA.drewN nq = wX at p0 p1 p2 hbX0 ⊢
        have hownX := owns_below hown hbX0
        have HO := Lib.hid hownX
        have HBX := Lib.hid (hbr.trans (hbX0.mono hsr))
        have hbX : w2.heap.size ≤ wX.heap.size := Nat.le_trans hsr hbX0.size
        have hk8 : (([] : List RP).length + 1) * 32 ≤ 140737488355328 := by decide
        clear hown hownX
        go_wp2_with (at_builtin; refine app_new slPart rfl _ _ rfl w2.heap.size _ 0 _ rfl HO.out 1 1 _ rfl rfl (oneTwo _ _) (by decide) (by decide) hbX _ (by exact (cells_cons [] p).symm) ?_; intro v1 w9 hown2 hb9; have HO2 := Lib.hid hown2; clear hown2)
        refine ⟨⟨k + 1, _, rfl, int_succ k, hkM, ?_, HBX.out.trans hb9⟩, ?_⟩
        · rw [accP_succ hkM, HA.out, HMG.out]; exact HO2.out
        · show L.length - ((k : Int) + 1).toNat < L.length - ((k : Int)).toNat
          omega
      | cons q r =>
        obtain ⟨g2, cp2, rfl⟩ := ownsRow_succ hown
        have hget : ∀ j, (cellsP (q :: r).reverse)[r.length * 2 + j]? = [Value.string q.1.1, Value.string q.1.2][j]? := by
          intro j
          rw [cells_cons, List.getElem?_append_right (by rw [cellsP_len]; simp)]
          congr 1
          rw [cellsP_len]; simp
        obtain ⟨e1, ef, hg2r, hg2b, hcp, hcpm⟩ := owns_row_cells hown rfl (hget 1)
        obtain ⟨y1, y2, ys1, ys2⟩ := q.isR
        have X3 := Lib.hid y2
        obtain ⟨lt, hlt⟩ : ∃ lt : Bool, lt = decide (ratV q.1.2 < ratV p.1.1) := ⟨_, rfl⟩
        have HLT := Lib.hid hlt
        have hAl' : r.length + 1 ≤ k := hAl
        obtain ⟨m, hm⟩ : ∃ m, m = r.length := ⟨_, rfl⟩
        rw [← hm] at e1 ef hget
        change wr.ownsRow _ _ _ (.slice (some ⟨g2, 0, none⟩) (r.length + 1) cp2) (r.length + 1) _ at hown
        obtain ⟨n, hn⟩ : ∃ n, n = r.length + 1 := ⟨_, rfl⟩
        rw [← hn] at hown ⊢
        obtain ⟨Mi, hMi⟩ : ∃ Mi : Int, Mi = (m : Int) := ⟨_, rfl⟩
        have hncp : n ≤ cp2 := by rw [hn]; exact hcp
        have i0 : decide (0 < (n : Int)) = true := decide_eq_true (by omega)
        have hn0 : 0 < n := by omega
        have i1 : IntKind.i64.wrap ((n : Int) - 1) = Mi := (IntWalk.i64_in _ (by omega)).trans (by omega)
        have i2 : (0 : Int) ≤ Mi := by omega
        have i3 : Mi.toNat = m := by omega
        have i4 : Mi < (n : Int) := by omega
        have hk8 : (n + 1) * 32 ≤ 140737488355328 := by omega
        have HM := Lib.hid hm
        have HN := Lib.hid hn
        have HAL := Lib.hid hAl
        have hgA : Good (wr.alloc (Obj.cells #[.string p.1.1, .string p.1.2] 33)) := hgr.alloc _
        replace e1 := (hba.cell (p := ⟨g2, m * 2 + 1, none⟩) hg2r).trans e1
        replace ef : (wr.alloc (Obj.cells #[.string p.1.1, .string p.1.2] 33)).frozen? ⟨g2, m * 2 + 1, none⟩ = false := (hba.frozen (p := ⟨g2, m * 2 + 1, none⟩) hg2r).trans ef
        have hg2A : g2 < (wr.alloc (Obj.cells #[.string p.1.1, .string p.1.2] 33)).heap.size := Nat.lt_of_lt_of_le hg2r hba.size
        clear hlt y1 y2 hm hn hMi hAl hAl' hcp
        cases lt
        · have hnl : ¬ ratV q.1.2 < ratV p.1.1 := of_decide_eq_false HLT.out.symm
          have HMG := Lib.hid (show mergeR (q :: r) M[k] = ⟨(q.1.1, maxP q.1.2 p.1.2), q.2.1, maxP_ok q.2.2 p.2.2⟩ :: r by rw [← HP.out, mergeR, if_neg hnl])
          clear hnl
          go_wp2_with fail
          generalize wr.alloc (Obj.cells #[.string p.1.1, .string p.1.2] 33) = wA at hba hpa e1 ef hg2A hgA ⊢
          obtain ⟨pl, p0, p1⟩ := hpa
          go_region_held3 (fun W => W.cell? ⟨g2, m * 2 + 1, none⟩ = some (.string q.1.2) ∧ W.cell? ⟨wr.heap.size, 0, none⟩ = some (.string p.1.1) ∧ Below wA.heap.size wA W)
            (first | exact ord_drew e1 p0 | (refine ord_keep hg2A pl (by assumption) ?_; first | assumption | (go_split_ands; refine ⟨?_, ?_, ?_⟩ <;> assumption)))
            ((go_at_call 71; refine (ranges_less _ _ _ _ X3.out X1.out (by omega) (by omega) _ ?_).mono ?_; exact hgA.below (OrdS.low (by assumption)); rintro e w' ⟨rfl, hb3⟩; rw [← HLT.out]))
          have hbAX : Below wA.heap.size wA w' := OrdS.low (by assumption)
          have hbX0 := hba.trans (hbAX.mono hba.size)
          obtain ⟨pl', p0', p1'⟩ := PartAt.below ⟨pl, p0, p1⟩ hbAX
          have e1' := (hbAX.cell (p := ⟨g2, m * 2 + 1, none⟩) hg2A).trans e1
          have hownX := owns_below hown hbX0
          have HO := Lib.hid hownX
          have HBX := Lib.hid (hbr.trans (hbX0.mono hsr))
          have hbX : w2.heap.size ≤ w'.heap.size := Nat.le_trans hsr hbX0.size
          clear hown hownX
          have ef' := (hbAX.frozen (p := ⟨g2, m * 2 + 1, none⟩) hg2A).trans ef
          have hgX := hgA.below hbAX
          go_wp2_with fail
          refine wp_held_list (fun W => W.cell? ⟨g2, m * 2 + 1, none⟩ = some (.string q.1.2) ∧ W.cell? ⟨wr.heap.size, 1, none⟩ = some (.string p.1.2) ∧ Below w'.heap.size w' W) [0, 1, 2, 3, 4, 5, 6, 7, 8, 9, 10] [11] 12 (by kernel_rfl) (by kernel_rfl) (ord_drew e1' p1') ?_
          iterate 11
            refine wpTakeL_step rfl ?_ rfl ?_ ?_
            rotate_left
            · intro W' hS'
              obtain ⟨s0, s1, s2⟩ := hS'
              go_simp
              try with_reducible rfl
            try simp only [List.getElem_toArray, List.getElem_cons_zero, List.getElem_cons_succ, Act.put, List.setIfInBounds_toArray, List.set_cons_zero, List.set_cons_succ]
          have hg2w : g2 < w'.heap.size := Nat.lt_of_lt_of_le hg2A hbAX.size
          have hH0 := ord_drew e1' p1'
          have y22 := X3.out
          have hMx := rational_Max q.1.2 p.1.2 _ _ X3.out X2.out (by omega) (by omega)
          refine wpKeepL_step rfl rfl (fun K hK => ?_)
          go_simp
          refine (hMx _ (hgX.below hH0.2.2)).mono ?_
          rintro e w8 ⟨mx, rfl, hmx, hb8⟩
          have hH1 := ord_keep (pa := ⟨g2, m * 2 + 1, none⟩) (pb := ⟨wr.heap.size, 1, none⟩) hg2w pl' hb8 hH0
          refine hK _ _ ⟨hH1, ?_⟩
          clear hK K
          unfold wpKeepL
          simp only [List.drop_succ_cons, List.drop_zero]
          try simp only [List.getElem_toArray, List.getElem_cons_zero, List.getElem_cons_succ, Act.put, List.setIfInBounds_toArray, List.set_cons_zero, List.set_cons_succ]
          have hb08 := hH1.2.2
          have ef8 := (hb08.frozen (p := ⟨g2, m * 2 + 1, none⟩) hg2w).trans ef'
          have e18 := hH1.1
          have hO8 := owns_below HO.out hb08
          have HO8 := Lib.hid ((hO8.stored (m * 2 + 1) (.string mx)).1)
          have HB8 := Lib.hid (HBX.out.trans ((hb08.mono hbX).trans ((Below.refl _ _).setCell (p := ⟨g2, m * 2 + 1, none⟩) hg2b (.string mx))))
          have HMX := Lib.hid hmx
          clear hO8 hH0 hH1 hMx y22 hmx
          iterate 2
            refine wpKeep_step rfl (fun K hK => ?_)
            go_simp
            refine hK _ _ ⟨trivial, ?_⟩
            clear hK K
            try simp only [List.getElem_toArray, List.getElem_cons_zero, List.getElem_cons_succ, Act.put, List.setIfInBounds_toArray, List.set_cons_zero, List.set_cons_succ]
          refine wpKeep_step rfl (fun K hK => ?_)
          go_simp
          refine hK _ _ ⟨trivial, wpKeep_nil ?_⟩
          clear hK K
          try simp only [List.getElem_toArray, List.getElem_cons_zero, List.getElem_cons_succ, Act.put, List.setIfInBounds_toArray, List.set_cons_zero, List.set_cons_succ]
          refine NormalOnly.mk ?_
          go_wp2
          refine ⟨⟨k + 1, _, rfl, int_succ k, hkM, ?_, HB8.out⟩, ?_⟩
          · rw [accP_succ hkM, HA.out, HMG.out]
            have h9 := HO8.out
            rw [cells_set q r mx HM.out, HN.out] at h9
            rw [cells_cons]
            have e10 : mx = maxP q.1.2 p.1.2 := HMX.out
            rw [e10] at h9
            rw [e10, HN.out]
            exact h9
          · show L.length - ((k : Int) + 1).toNat < L.length - ((k : Int)).toNat
            omega
        · have hnl : ratV q.1.2 < ratV p.1.1 := of_decide_eq_true HLT.out.symm
          have HMG := Lib.hid (show mergeR (q :: r) M[k] = p :: q :: r by rw [← HP.out, mergeR, if_pos hnl])
          clear hnl
          go_wp2_with fail
          generalize wr.alloc (Obj.cells #[.string p.1.1, .string p.1.2] 33) = wA at hba hpa e1 ef hg2A hgA ⊢
          obtain ⟨pl, p0, p1⟩ := hpa
          go_region_held3 (fun W => W.cell? ⟨g2, m * 2 + 1, none⟩ = some (.string q.1.2) ∧ W.cell? ⟨wr.heap.size, 0, none⟩ = some (.string p.1.1) ∧ Below wA.heap.size wA W)
            (first | exact ord_drew e1 p0 | (refine ord_keep hg2A pl (by assumption) ?_; first | assumption | (go_split_ands; refine ⟨?_, ?_, ?_⟩ <;> assumption)))
            ((go_at_call 71; refine (ranges_less _ _ _ _ X3.out X1.out (by omega) (by omega) _ ?_).mono ?_; exact hgA.below (OrdS.low (by assumption)); rintro e w' ⟨rfl, hb3⟩; rw [← HLT.out]))
          have hbAX : Below wA.heap.size wA w' := OrdS.low (by assumption)
          have hbX0 := hba.trans (hbAX.mono hba.size)
          obtain ⟨pl', p0', p1'⟩ := PartAt.below ⟨pl, p0, p1⟩ hbAX
          have e1' := (hbAX.cell (p := ⟨g2, m * 2 + 1, none⟩) hg2A).trans e1
          have hownX := owns_below hown hbX0
          have HO := Lib.hid hownX
          have HBX := Lib.hid (hbr.trans (hbX0.mono hsr))
          have hbX : w2.heap.size ≤ w'.heap.size := Nat.le_trans hsr hbX0.size
          clear hown hownX
          go_wp2_with (at_builtin; refine app_new slPart rfl _ _ rfl w2.heap.size _ n _ rfl HO.out 1 1 _ rfl rfl (oneTwo _ _) hk8 (by decide) hbX _ (by exact (cells_cons (q :: r) p).symm) ?_; intro v1 w9 hown2 hb9; have HO2 := Lib.hid hown2; clear hown2)
          refine ⟨⟨k + 1, _, rfl, int_succ k, hkM, ?_, HBX.out.trans hb9⟩, ?_⟩
          · rw [accP_succ hkM, HA.out, HMG.out]
            have := HO2.out
            rw [HN.out] at this
            exact this
          · show L.length - ((k : Int) + 1).toNat < L.length - ((k : Int)).toNat
            omega
    · obtain rfl : k = L.length := by have := hst.1; omega
      have hkn : decide ((L.length : Int) < (L.length : Int)) = false := decide_eq_false (by omega)
      obtain ⟨_, hown, hbr⟩ := hst
      have HO := Lib.hid hown
      clear hown
      go_wp2
      go_ret
      refine ⟨ov, M, rfl, HPE.out, ?_, ?_, hbw2.trans (hbr.mono hbw2.size)⟩
      · rw [List.pairwise_iff_getElem]
        intro i j hi hj hij
        have := HSR.out i j hij (by simpa using hj)
        simpa [getElem!_pos, hi, hj] using this
      · have h1 : mergeP M = (accP M L.length).reverse := by unfold mergeP accP; rw [← hML, List.take_length]
        rw [h1, List.length_reverse]
        exact owns_base (HO.out) hbw2.size
end Go.Proofs.YtbogpbjddaoeiaaGreatDoor
namespace Go.Proofs.YtbogpbjddaoeiaaGreatDoor
open Go.RowKit
open Go.Lib (decDigits itoa nDigits)
/-- the first error of some intervals, each by itself -/
noncomputable def ofErr : List Pair → Int
  | [] => 0
  | p :: r => if partErr p.1 p.2 = 0 then ofErr r else partErr p.1 p.2
noncomputable def ofErrs (L : List Pair) : Int := if 200 < L.length then 4 else ofErr L
theorem ofErr_ok : ∀ (L : List Pair), ofErr L = 0 → ∀ p ∈ L, partErr p.1 p.2 = 0
  | [], _, p, hp => by simp at hp
  | q :: r, h, p, hp => by
    unfold ofErr at h
    by_cases hq : partErr q.1 q.2 = 0
    · rw [if_pos hq] at h
      rcases List.mem_cons.1 hp with rfl | hp
      · exact hq
      · exact ofErr_ok r h p hp
    · rw [if_neg hq] at h; exact (hq h).elim
theorem to_rp (L : List Pair) (h : ∀ p ∈ L, partErr p.1 p.2 = 0) : ∃ R : List RP, R.map (·.1) = L := by
  induction L with
  | nil => exact ⟨[], rfl⟩
  | cons p l ih =>
    obtain ⟨R, hR⟩ := ih fun q hq => h q (List.mem_cons_of_mem _ hq)
    obtain ⟨b1, b2, _⟩ := partErr_ok (h p (List.mem_cons_self ..))
    exact ⟨⟨p, b1, b2⟩ :: R, by rw [List.map_cons, hR]⟩
def OfPost (L : List Pair) (w : World) (e : Ending) (w' : World) : Prop :=
  (ofErrs L = 0 → ∃ (v : Value) (R M : List RP), e = .returned (.tuple #[v, .int .i64 0]) ∧ R.map (·.1) = L ∧ M.Perm R ∧ M.Pairwise (fun x y => ¬ ratV y.1.1 < ratV x.1.1) ∧ w'.ownsRow w.heap.size 33 2 v (mergeP M).length (cellsP (mergeP M)) ∧ Below w.heap.size w w') ∧
  (ofErrs L ≠ 0 → e = .returned (.tuple #[.slice none 0 0, .int .i64 (ofErrs L)]) ∧ Below w.heap.size w w')
def OfSt (L : List Pair) (k : Nat) : Prop := k ≤ L.length ∧ ofErr L = ofErr (L.drop k)
set_option maxHeartbeats 4000000 in
theorem ranges_Of (b off c : Nat) (L : List Pair) (w : World) (hw : Good w) (hv : Pairs w (.slice (some ⟨b, off, none⟩) L.length c) L) (hsz : SzOk L) (hl0 : 0 < L.length) :
    Calls Tryz.prog 17 #[.slice (some ⟨b, off, none⟩) L.length c] w (OfPost L w) := by
  have hv0 := hv
  obtain ⟨p, c', hvv, hc, hm, hx⟩ := hv
  obtain ⟨b', off', rfl, hbl, hcell⟩ := hx hl0
  simp only [Value.slice.injEq, Option.some.injEq, Addr.mk.injEq, and_true, true_and] at hvv
  obtain ⟨⟨rfl, rfl⟩, rfl⟩ := hvv
  by_cases h1 : 200 < L.length
  · have HE := Lib.hid (show ofErrs L = 4 by unfold ofErrs; rw [if_pos h1])
    have e2 : decide ((200 : Int) < (L.length : Int)) = true := decide_eq_true (by omega)
    generalize L.length = n at hc e2 h1 hl0 ⊢
    clear hx hsz hcell hv0
    go_enter Tryz.func17, Tryz.ntmps17
    go_wp2
    go_ret2
    exact ⟨fun h => by rw [HE.out] at h; simp at h, fun _ => ⟨by rw [HE.out]; rfl, Below.refl _ _⟩⟩
  · have HE := Lib.hid (show ofErrs L = ofErr L by unfold ofErrs; rw [if_neg h1])
    have e2 : decide ((200 : Int) < (L.length : Int)) = false := decide_eq_false (by omega)
    have hst : OfSt L 0 := ⟨Nat.zero_le _, by simp⟩
    have hbw := Below.refl w.heap.size w
    clear hx
    go_enter Tryz.func17, Tryz.ntmps17
    go_wp2_with fail
    go_loopw [2, 3, 5, 6, 12] (fun rv ev _ _ iv wr => ∃ k : Nat, OfSt L k ∧ rv = .slice none 0 0 ∧ ev = .int .i64 0 ∧ iv = .int .i64 (k : Int) ∧ Below w.heap.size w wr) (fun _ _ _ _ iv _ => L.length - (intOf iv).toNat)
    case atStart => exact ⟨0, hst, rfl, rfl, rfl, hbw⟩
    case round =>
      obtain ⟨k, hst, rfl, rfl, rfl, hbr⟩ := hrel
      by_cases hk : k < L.length
      · obtain ⟨c0, c1⟩ := hcell k hk
        rw [← hbr.cell (p := ⟨b, off + k * 2, none⟩) hbl] at c0
        rw [← hbr.cell (p := ⟨b, off + k * 2 + 1, none⟩) hbl] at c1
        have hkn : decide ((k : Int) < (L.length : Int)) = true := decide_eq_true (by omega)
        obtain ⟨hs1, hs2⟩ := hsz _ (List.getElem_mem hk)
        have hba := alloc_below wr (Obj.cells #[.string L[k].1, .string L[k].2] 33)
        have hd := hst.2
        rw [KnSt.drop hk, ofErr] at hd
        have HST := Lib.hid hst
        by_cases hp : partErr L[k].1 L[k].2 = 0
        · rw [if_pos hp] at hd
          have HD := Lib.hid hd
          have HP := Lib.hid hp
          clear hd hp hst
          go_wp2_with fail
          generalize wr.alloc (Obj.cells #[.string L[k].1, .string L[k].2] 33) = wA at hba ⊢
          have hb0 := hbr.trans (hba.mono hbr.size)
          refine (part_check L[k].1 L[k].2 (by omega) (by omega) _ (hw.below hb0)).mono ?_
          rintro e w1 ⟨rfl, hb1⟩
          rw [HP.out]
          go_wp2
          refine ⟨⟨k + 1, ⟨hk, HD.out⟩, rfl, rfl, int_succ k, hb0.trans (hb1.mono hb0.size)⟩, ?_⟩
          show L.length - ((k : Int) + 1).toNat < L.length - ((k : Int)).toNat
          omega
        · rw [if_neg hp] at hd
          have HD := Lib.hid (HE.out.trans hd)
          have hne : (partErr L[k].1 L[k].2 != 0) = true := by simpa using hp
          have HP := Lib.hid hp
          clear hd hp hst
          go_wp2_with fail
          generalize wr.alloc (Obj.cells #[.string L[k].1, .string L[k].2] 33) = wA at hba ⊢
          have hb0 := hbr.trans (hba.mono hbr.size)
          refine (part_check L[k].1 L[k].2 (by omega) (by omega) _ (hw.below hb0)).mono ?_
          rintro e w1 ⟨rfl, hb1⟩
          generalize partErr L[k].1 L[k].2 = pe at hne HD HP ⊢
          go_wp2
          go_ret2
          exact ⟨fun h => (HP.out (HD.out.symm.trans h)).elim, fun _ => ⟨by rw [HD.out]; rfl, hb0.trans (hb1.mono hb0.size)⟩⟩
      · have hkn : decide ((k : Int) < (L.length : Int)) = false := decide_eq_false (by omega)
        obtain rfl : k = L.length := by have := hst.1; omega
        have h0 : ofErr L = 0 := by rw [hst.2, List.drop_length]; rfl
        obtain ⟨R, hR⟩ := to_rp L (ofErr_ok L h0)
        have HR := Lib.hid hR
        have hRl : R.length = L.length := by rw [← hR, List.length_map]
        have hj := joined_body b off c R wr (hw.below hbr) (by omega) (by omega) (by rw [hRl, hR]; exact hv0.below hbr)
        rw [hRl] at hj
        have HJ := Lib.hid hj
        have H0 := Lib.hid (HE.out.trans h0)
        clear hj hR h0 hst hcell hsz
        go_wp2_with fail
        refine HJ.out.mono ?_
        rintro e w1 ⟨v, M, rfl, hpm, hpw, hown, hb1⟩
        go_wp2
        go_ret2
        exact ⟨fun _ => ⟨v, R, M, rfl, HR.out, hpm, hpw, owns_base hown hbr.size, hbr.trans (hb1.mono hbr.size)⟩, fun h => (h H0.out).elim⟩
end Go.Proofs.YtbogpbjddaoeiaaGreatDoor
namespace Go.Proofs.YtbogpbjddaoeiaaGreatDoor
open Go.RowKit
open Go.Lib (decDigits itoa nDigits)
open Classical in
/-- Check's error of the intervals behind prev. -/
noncomputable def ckErr : Option Pair → List Pair → Int
  | _, [] => 0
  | prev, p :: r => if partErr p.1 p.2 = 0 then (if (∃ q, prev = some q ∧ ¬ ratV q.2 < ratV p.1) then 6 else ckErr (some p) r) else partErr p.1 p.2
noncomputable def checkErr (L : List Pair) : Int := if 200 < L.length then 4 else ckErr none L
def CkSt (L : List Pair) (k : Nat) : Prop := k ≤ L.length ∧ ckErr none L = ckErr (if h : 0 < k ∧ k - 1 < L.length then some L[k - 1] else none) (L.drop k) ∧ ∀ (h : 0 < k ∧ k - 1 < L.length), partErr L[k - 1].1 L[k - 1].2 = 0
theorem drop_cons {L : List Pair} {k : Nat} (hk : k < L.length) : L.drop k = L[k] :: L.drop (k + 1) := by rw [List.drop_eq_getElem_cons hk]
theorem CkSt.zero (L : List Pair) : CkSt L 0 := ⟨Nat.zero_le _, by simp, fun h => by omega⟩
theorem CkSt.bad {L : List Pair} {k : Nat} (h : CkSt L k) (hk : k < L.length) (hb : partErr L[k].1 L[k].2 ≠ 0) : ckErr none L = partErr L[k].1 L[k].2 := by
  rw [h.2.1, drop_cons hk, ckErr, if_neg hb]
theorem CkSt.order {L : List Pair} {k : Nat} (h : CkSt L k) (hk : k < L.length) (hb : partErr L[k].1 L[k].2 = 0) (h0 : 0 < k) (hlt : decide (ratV L[k - 1].2 < ratV L[k].1) = false) : ckErr none L = 6 := by
  rw [h.2.1, drop_cons hk, ckErr, if_pos hb, dif_pos ⟨h0, by omega⟩, if_pos ⟨_, rfl, of_decide_eq_false hlt⟩]
theorem CkSt.step {L : List Pair} {k : Nat} (h : CkSt L k) (hk : k < L.length) (hb : partErr L[k].1 L[k].2 = 0) (hlt : ∀ h0 : 0 < k, decide (ratV L[k - 1].2 < ratV L[k].1) = true) : CkSt L (k + 1) := by
  refine ⟨hk, ?_, fun _ => hb⟩
  rw [h.2.1, drop_cons hk, ckErr, if_pos hb, dif_pos (show 0 < k + 1 ∧ k + 1 - 1 < L.length from ⟨by omega, by omega⟩), if_neg]
  · rfl
  · rintro ⟨p, hp, hn⟩
    split at hp
    · rename_i h0
      cases hp
      exact hn (of_decide_eq_true (hlt h0.1))
    · cases hp
theorem CkSt.done {L : List Pair} (h : CkSt L L.length) : ckErr none L = 0 := by
  rw [h.2.1, List.drop_length]; rfl
set_option maxHeartbeats 4000000 in
theorem ranges_Check (v : Value) (L : List Pair) (w : World) (hw : Good w) (hv : Pairs w v L) (hsz : SzOk L) :
    Calls Tryz.prog 20 #[v] w fun e w' => e = .returned (.int .i64 (checkErr L)) ∧ Below w.heap.size w w' := by
  obtain ⟨p, c, rfl, hc, hm, hx⟩ := hv
  by_cases h1 : 200 < L.length
  · have HE := Lib.hid (show checkErr L = 4 by unfold checkErr; rw [if_pos h1])
    have e2 : decide ((200 : Int) < (L.length : Int)) = true := decide_eq_true (by omega)
    generalize L.length = n at hc e2 ⊢
    clear hx hsz
    go_enter Tryz.func20, Tryz.ntmps20
    go_wp2
    go_ret
    exact ⟨ret_int HE.out.symm, Below.refl _ _⟩
  · have HE := Lib.hid (show checkErr L = ckErr none L by unfold checkErr; rw [if_neg h1])
    have e2 : decide ((200 : Int) < (L.length : Int)) = false := decide_eq_false (by omega)
    have hst := CkSt.zero L
    have hbw := Below.refl w.heap.size w
    go_enter Tryz.func20, Tryz.ntmps20
    go_wp2_with fail
    go_loopw [11, 2, 3, 4, 5] (fun iv rv _ _ _ wr => ∃ k : Nat, CkSt L k ∧ iv = .int .i64 (k : Int) ∧ rv = .int .i64 0 ∧ Below w.heap.size w wr) (fun iv _ _ _ _ _ => L.length - (intOf iv).toNat)
    case atStart => exact ⟨0, hst, rfl, rfl, hbw⟩
    case round =>
      obtain ⟨k, hst, rfl, rfl, hbr⟩ := hrel
      by_cases hk : k < L.length
      · obtain ⟨b, off, rfl, hbl, hcell⟩ := hx (by omega)
        obtain ⟨c0, c1⟩ := hcell k hk
        rw [← hbr.cell (p := ⟨b, off + k * 2, none⟩) hbl] at c0
        rw [← hbr.cell (p := ⟨b, off + k * 2 + 1, none⟩) hbl] at c1
        have hkn : decide ((k : Int) < (L.length : Int)) = true := decide_eq_true (by omega)
        have HST := Lib.hid hst
        clear hst
        have hpa := PartAt.alloc L[k].1 L[k].2 wr 33
        have hba := alloc_below wr (Obj.cells #[.string L[k].1, .string L[k].2] 33)
        obtain ⟨hs1, hs2⟩ := hsz _ (List.getElem_mem hk)
        by_cases hp : partErr L[k].1 L[k].2 = 0
        · have HP := Lib.hid hp
          obtain ⟨pb1, pb2, _⟩ := partErr_ok hp
          have HA := Lib.hid pb1
          clear hp pb1 pb2
          by_cases hk0 : 0 < k
          · have hg : decide (0 < (k : Int)) = true := decide_eq_true (by omega)
            obtain ⟨d0, d1⟩ := hcell (k - 1) (by omega)
            obtain ⟨hs3, hs4⟩ := hsz _ (List.getElem_mem (show k - 1 < L.length by omega))
            have HB := Lib.hid (partErr_ok (HST.out.2.2 ⟨hk0, by omega⟩)).2.1
            obtain ⟨lt, hlt⟩ : ∃ lt : Bool, lt = decide (ratV L[k - 1].2 < ratV L[k].1) := ⟨_, rfl⟩
            have HLT := Lib.hid hlt
            clear hlt
            cases lt
            · have HF := Lib.hid (CkSt.order HST.out hk HP.out hk0 HLT.out.symm)
              go_wp2_with fail
              generalize wr.alloc (Obj.cells #[.string L[k].1, .string L[k].2] 33) = wA at hba hpa ⊢
              have hb0 := hbr.trans (hba.mono hbr.size)
              refine (part_check L[k].1 L[k].2 (by omega) (by omega) _ (hw.below hb0)).mono ?_
              rintro e w1 ⟨rfl, hb1⟩
              rw [HP.out]
              have hb01 := hb0.trans (hb1.mono hb0.size)
              obtain ⟨q0, q1, q2⟩ := hpa.below hb1
              obtain ⟨m, hm'⟩ : ∃ m, m = k - 1 := ⟨_, rfl⟩
              have d2 : w1.cell? ⟨b, off + m * 2 + 1, none⟩ = some (.string L[k - 1].2) := by rw [hm', hb01.cell (p := ⟨b, off + (k - 1) * 2 + 1, none⟩) hbl]; exact d1
              obtain ⟨M, hM⟩ : ∃ M : Int, M = (m : Int) := ⟨_, rfl⟩
              have i1 : IntKind.i64.wrap ((k : Int) - 1) = M := (IntWalk.i64_in _ (by omega)).trans (by omega)
              have i2 : 0 ≤ M := by omega
              have i3 : M.toNat = m := by omega
              have i4 : M < (L.length : Int) := by omega
              clear d1 hM hm'
              have b2 : b < w1.heap.size := Nat.lt_of_lt_of_le hbl hb01.size
              go_wp2_with fail
              go_region_held3 (fun W => W.cell? ⟨b, off + m * 2 + 1, none⟩ = some (.string L[k - 1].2) ∧ W.cell? ⟨wr.heap.size, 0, none⟩ = some (.string L[k].1) ∧ Below w1.heap.size w1 W)
                (first | exact ord_drew d2 q1 | (refine ord_keep b2 q0 (by assumption) ?_; first | assumption | (go_split_ands; refine ⟨?_, ?_, ?_⟩ <;> assumption)))
                ((go_at_call 71; refine (ranges_less _ _ _ _ (ratV_isR HB.out) (ratV_isR HA.out) (by omega) (by omega) _ ?_).mono ?_; exact hw.below (hb01.trans ((OrdS.low (by assumption)).mono hb01.size)); rintro e w' ⟨rfl, hb3⟩; rw [← HLT.out]))
              go_wp2
              go_ret
              exact ⟨ret_int (by rw [HE.out, HF.out]), hb01.trans ((OrdS.low (by assumption)).mono hb01.size)⟩
            · have HF := Lib.hid (CkSt.step HST.out hk HP.out (fun _ => HLT.out.symm))
              go_wp2_with fail
              generalize wr.alloc (Obj.cells #[.string L[k].1, .string L[k].2] 33) = wA at hba hpa ⊢
              have hb0 := hbr.trans (hba.mono hbr.size)
              refine (part_check L[k].1 L[k].2 (by omega) (by omega) _ (hw.below hb0)).mono ?_
              rintro e w1 ⟨rfl, hb1⟩
              rw [HP.out]
              have hb01 := hb0.trans (hb1.mono hb0.size)
              obtain ⟨q0, q1, q2⟩ := hpa.below hb1
              obtain ⟨m, hm'⟩ : ∃ m, m = k - 1 := ⟨_, rfl⟩
              have d2 : w1.cell? ⟨b, off + m * 2 + 1, none⟩ = some (.string L[k - 1].2) := by rw [hm', hb01.cell (p := ⟨b, off + (k - 1) * 2 + 1, none⟩) hbl]; exact d1
              obtain ⟨M, hM⟩ : ∃ M : Int, M = (m : Int) := ⟨_, rfl⟩
              have i1 : IntKind.i64.wrap ((k : Int) - 1) = M := (IntWalk.i64_in _ (by omega)).trans (by omega)
              have i2 : 0 ≤ M := by omega
              have i3 : M.toNat = m := by omega
              have i4 : M < (L.length : Int) := by omega
              clear d1 hM hm'
              have b2 : b < w1.heap.size := Nat.lt_of_lt_of_le hbl hb01.size
              go_wp2_with fail
              go_region_held3 (fun W => W.cell? ⟨b, off + m * 2 + 1, none⟩ = some (.string L[k - 1].2) ∧ W.cell? ⟨wr.heap.size, 0, none⟩ = some (.string L[k].1) ∧ Below w1.heap.size w1 W)
                (first | exact ord_drew d2 q1 | (refine ord_keep b2 q0 (by assumption) ?_; first | assumption | (go_split_ands; refine ⟨?_, ?_, ?_⟩ <;> assumption)))
                ((go_at_call 71; refine (ranges_less _ _ _ _ (ratV_isR HB.out) (ratV_isR HA.out) (by omega) (by omega) _ ?_).mono ?_; exact hw.below (hb01.trans ((OrdS.low (by assumption)).mono hb01.size)); rintro e w' ⟨rfl, hb3⟩; rw [← HLT.out]))
              go_wp2
              refine ⟨⟨k + 1, HF.out, int_succ k, rfl, hb01.trans ((OrdS.low (by assumption)).mono hb01.size)⟩, ?_⟩
              show L.length - ((k : Int) + 1).toNat < L.length - ((k : Int)).toNat
              omega
          · have hg : decide (0 < (k : Int)) = false := decide_eq_false (by omega)
            have HF := Lib.hid (CkSt.step HST.out hk HP.out (fun h => absurd h hk0))
            go_wp2_with fail
            generalize wr.alloc (Obj.cells #[.string L[k].1, .string L[k].2] 33) = wA at hba hpa ⊢
            have hb0 := hbr.trans (hba.mono hbr.size)
            refine (part_check L[k].1 L[k].2 (by omega) (by omega) _ (hw.below hb0)).mono ?_
            rintro e w1 ⟨rfl, hb1⟩
            rw [HP.out]
            have hb01 := hb0.trans (hb1.mono hb0.size)
            go_wp2_with fail
            go_quiet (fail)
            go_wp2
            refine ⟨⟨k + 1, HF.out, int_succ k, rfl, hb01.trans ((below_drewN w1 _).mono hb01.size)⟩, ?_⟩
            show L.length - ((k : Int) + 1).toNat < L.length - ((k : Int)).toNat
            omega
        · have hne : (partErr L[k].1 L[k].2 != 0) = true := by simpa using hp
          have HF := Lib.hid (CkSt.bad HST.out hk hp)
          clear hp
          go_wp2_with fail
          generalize wr.alloc (Obj.cells #[.string L[k].1, .string L[k].2] 33) = wA at hba hpa ⊢
          have hb0 := hbr.trans (hba.mono hbr.size)
          refine (part_check L[k].1 L[k].2 (by omega) (by omega) _ (hw.below hb0)).mono ?_
          rintro e w1 ⟨rfl, hb1⟩
          generalize partErr L[k].1 L[k].2 = pe at hne HF ⊢
          go_wp2
          go_ret
          exact ⟨ret_int (by rw [HE.out, HF.out]), hb0.trans (hb1.mono hb0.size)⟩
      · have hkn : decide ((k : Int) < (L.length : Int)) = false := decide_eq_false (by omega)
        obtain rfl : k = L.length := by have := hst.1; omega
        have HF := Lib.hid (CkSt.done hst)
        clear hst
        go_wp2
        go_ret
        exact ⟨ret_int (by rw [HE.out, HF.out]), hbr⟩
end Go.Proofs.YtbogpbjddaoeiaaGreatDoor
namespace Go.Proofs.YtbogpbjddaoeiaaGreatDoor
open Go.RowKit
open Go.Lib (decDigits itoa nDigits)
theorem ckErr_ok : ∀ (L : List Pair) (prev : Option Pair), ckErr prev L = 0 → AllOk L
  | [], _, _ => fun p hp => by simp at hp
  | q :: r, prev, h => by
    unfold ckErr at h
    by_cases hq : partErr q.1 q.2 = 0
    · rw [if_pos hq] at h
      by_cases hx : ∃ p, prev = some p ∧ ¬ ratV p.2 < ratV q.1
      · rw [if_pos hx] at h; simp at h
      · rw [if_neg hx] at h
        intro p hp
        rcases List.mem_cons.1 hp with rfl | hp
        · exact ⟨(partErr_ok hq).1, (partErr_ok hq).2.1⟩
        · exact ckErr_ok r _ h p hp
    · rw [if_neg hq] at h; exact (hq h).elim
theorem checkErr_ok {L : List Pair} (h : checkErr L = 0) : AllOk L ∧ L.length ≤ 200 := by
  unfold checkErr at h
  by_cases h1 : 200 < L.length
  · rw [if_pos h1] at h; simp at h
  · rw [if_neg h1] at h; exact ⟨ckErr_ok L none h, by omega⟩
noncomputable def lenSum (L : List Pair) : Rat := L.foldl (fun s p => s + (ratV p.2 - ratV p.1)) 0
theorem lenSum_take {L : List Pair} {k : Nat} (hk : k < L.length) : lenSum (L.take (k + 1)) = lenSum (L.take k) + (ratV L[k].2 - ratV L[k].1) := by
  unfold lenSum; rw [List.take_add_one, List.getElem?_eq_getElem hk, List.foldl_append]; rfl
def LenPost (L : List Pair) (w : World) (e : Ending) (w' : World) : Prop :=
  (checkErr L = 0 → ∃ r : ByteArray, IsR r (lenSum L) ∧ ResPost r w e w') ∧ (checkErr L ≠ 0 → ErrPost (.string ⟨#[]⟩) (checkErr L) w e w')
def LenSt (L : List Pair) (k : Nat) (r : ByteArray) : Prop := k ≤ L.length ∧ IsR r (lenSum (L.take k)) ∧ Small k (lenSum (L.take k))
set_option maxHeartbeats 4000000 in
theorem ranges_Length (v : Value) (L : List Pair) (w : World) (hw : Good w) (hv : Pairs w v L) (hsz : SzOk L) :
    Calls Tryz.prog 47 #[v] w (LenPost L w) := by
  have hck := ranges_Check v L w hw hv hsz
  obtain ⟨p, c, rfl, hc, hm, hx⟩ := hv
  have HCK := Lib.hid hck
  clear hck
  by_cases h0 : checkErr L = 0
  · obtain ⟨hok, hlen⟩ := checkErr_ok h0
    have H0 := Lib.hid h0
    have hst : LenSt L 0 ⟨#[48]⟩ := ⟨Nat.zero_le _, by rw [List.take_zero]; exact isR_zero, by rw [List.take_zero]; exact Small.zero⟩
    have HOK := Lib.hid hok
    clear h0 hsz hok
    go_enter Tryz.func47, Tryz.ntmps47
    go_wp2_with fail
    refine HCK.out.mono ?_
    rintro e w1 ⟨rfl, hb1⟩
    rw [H0.out]
    go_wp2_with fail
    go_loopw [5, 7, 15] (fun sv _ iv wr => ∃ (k : Nat) (r : ByteArray), sv = .string r ∧ iv = .int .i64 (k : Int) ∧ LenSt L k r ∧ Below w.heap.size w wr) (fun _ _ iv _ => L.length - (intOf iv).toNat)
    case atStart => exact ⟨0, _, rfl, rfl, hst, hb1⟩
    case round =>
      obtain ⟨k, r, rfl, rfl, hst, hbr⟩ := hrel
      obtain ⟨hkl, hr, hsm⟩ := hst
      have hrsz : r.size ≤ 200000000 := by
        have u1 := isR_size_nd hr
        have u2 := hsm.1
        have u3 := hsm.2
        omega
      have HR := Lib.hid hr
      have HSM := Lib.hid hsm
      clear hr hsm
      by_cases hk : k < L.length
      · obtain ⟨b, off, rfl, hbl, hcell⟩ := hx (by omega)
        obtain ⟨c0, c1⟩ := hcell k hk
        rw [← hbr.cell (p := ⟨b, off + k * 2, none⟩) hbl] at c0
        rw [← hbr.cell (p := ⟨b, off + k * 2 + 1, none⟩) hbl] at c1
        have hkn : decide ((k : Int) < (L.length : Int)) = true := decide_eq_true (by omega)
        have hba := alloc_below wr (Obj.cells #[.string L[k].1, .string L[k].2] 33)
        obtain ⟨x1, x2, s1, s2⟩ := HOK.out.at hk
        have X1 := Lib.hid x1
        have X2 := Lib.hid x2
        clear x1 x2
        go_wp2_with fail
        generalize wr.alloc (Obj.cells #[.string L[k].1, .string L[k].2] 33) = wA at hba ⊢
        have hb0 := hbr.trans (hba.mono hbr.size)
        refine (rational_Sub L[k].2 L[k].1 _ _ X2.out X1.out (by omega) (by omega) _ (hw.below hb0)).mono ?_
        rintro e w2 ⟨r1, rfl, hr1, hb2⟩
        have q1 := isR_sub_size X2.out X1.out hr1
        have HR1 := Lib.hid hr1
        clear hr1
        have hb02 := hb0.trans (hb2.mono hb0.size)
        go_wp2_with fail
        refine (rational_Add r r1 _ _ HR.out HR1.out (by omega) (by omega) _ (hw.below hb02)).mono ?_
        rintro e w3 ⟨r2, rfl, hr2, hb3⟩
        have HR2 := Lib.hid hr2
        clear hr2
        go_wp2
        refine ⟨⟨k + 1, r2, rfl, int_succ k, ⟨hk, by rw [lenSum_take hk]; exact HR2.out, ?_⟩, hb02.trans (hb3.mono hb02.size)⟩, ?_⟩
        · rw [lenSum_take hk]
          have hn := isR_nlen HR1.out
          exact HSM.out.add (Nat.le_trans hn.1 (by omega)) (Nat.le_trans hn.2 (by omega))
        · show L.length - ((k : Int) + 1).toNat < L.length - ((k : Int)).toNat
          omega
      · have hkn : decide ((k : Int) < (L.length : Int)) = false := decide_eq_false (by omega)
        obtain rfl : k = L.length := by omega
        go_wp2_with fail
        refine (ranges_result r (by omega) _ (hw.below hbr)).mono ?_
        rintro e w2 ⟨⟨v, rfl, hv⟩, hb2⟩
        have hbb := hbr.trans (hb2.mono hbr.size)
        have HRR := Lib.hid (show IsR r (lenSum L) by have := HR.out; rw [List.take_length] at this; exact this)
        cases hrb : ratB r.data.toList
        · rw [hrb] at hv
          have HRB := Lib.hid hrb
          subst hv
          clear hrb
          go_wp2
          go_ret2
          exact ⟨fun _ => ⟨r, HRR.out, ⟨_, rfl, by rw [HRB.out]; rfl⟩, hbb⟩, fun h => (h H0.out).elim⟩
        · rw [hrb] at hv
          have HRB := Lib.hid hrb
          subst hv
          clear hrb
          go_wp2
          go_ret2
          exact ⟨fun _ => ⟨r, HRR.out, ⟨_, rfl, by rw [HRB.out]; rfl⟩, hbb⟩, fun h => (h H0.out).elim⟩
  · have hne : (checkErr L != 0) = true := by simpa using h0
    have HN := Lib.hid h0
    clear h0 hx hsz
    go_enter Tryz.func47, Tryz.ntmps47
    go_wp2_with fail
    refine HCK.out.mono ?_
    rintro e w1 ⟨rfl, hb1⟩
    generalize hpe : checkErr L = pe at hne ⊢
    have HPE := Lib.hid hpe
    clear hpe
    go_wp2
    go_ret2
    exact ⟨fun h => (HN.out h).elim, fun _ => ⟨by rw [HPE.out]; rfl, hb1⟩⟩
end Go.Proofs.YtbogpbjddaoeiaaGreatDoor
namespace Go.Proofs.YtbogpbjddaoeiaaGreatDoor
open Go.RowKit Go.Shelf
open Go.Lib (decDigits itoa nDigits)
/-- what checkBoth says -/
noncomputable def bothErr (L M : List Pair) : Int := if checkErr L = 0 then checkErr M else checkErr L
theorem ranges_checkBoth (v u : Value) (L M : List Pair) (w : World) (hw : Good w) (hv : Pairs w v L) (hu : Pairs w u M) (hsz : SzOk L) (hsz' : SzOk M) :
    Calls Tryz.prog 135 #[v, u] w fun e w' => e = .returned (.int .i64 (bothErr L M)) ∧ Below w.heap.size w w' := by
  have h1 := ranges_Check v L w hw hv hsz
  have h2 := fun w' (hb : Below w.heap.size w w') => ranges_Check u M w' (hw.below hb) (hu.below hb) hsz'
  have H1 := Lib.hid h1
  have H2 := Lib.hid h2
  clear h1 h2 hv hu hsz hsz'
  by_cases h0 : checkErr L = 0
  · have H0 := Lib.hid h0
    have HE := Lib.hid (show bothErr L M = checkErr M by unfold bothErr; rw [if_pos h0])
    clear h0
    go_enter Tryz.func135, Tryz.ntmps135
    go_wp2_with fail
    refine H1.out.mono ?_
    rintro e w1 ⟨rfl, hb1⟩
    rw [H0.out]
    go_wp2_with fail
    refine (H2.out w1 hb1).mono ?_
    rintro e w2 ⟨rfl, hb2⟩
    go_wp2
    go_ret
    exact ⟨ret_int HE.out.symm, hb1.trans (hb2.mono hb1.size)⟩
  · have HE := Lib.hid (show bothErr L M = checkErr L by unfold bothErr; rw [if_neg h0])
    have n1 : (checkErr L != 0) = true := by simpa using h0
    clear h0
    go_enter Tryz.func135, Tryz.ntmps135
    go_wp2_with fail
    refine H1.out.mono ?_
    rintro e w1 ⟨rfl, hb1⟩
    generalize checkErr L = pe at n1 HE ⊢
    go_wp2
    go_ret
    exact ⟨ret_int HE.out.symm, hb1⟩
theorem combine_err (v u f : Value) (hf : ∃ g a b, f = .func g a b) (L M : List Pair) (w : World) (hw : Good w) (hv : Pairs w v L) (hu : Pairs w u M) (hsz : SzOk L) (hsz' : SzOk M) (hk : bothErr L M ≠ 0) :
    Calls Tryz.prog 90 #[v, u, f] w (ErrPost (.slice none 0 0) (bothErr L M) w) := by
  obtain ⟨g, a, b, rfl⟩ := hf
  have h2 := fun w' (hb : Below w.heap.size w w') => ranges_checkBoth v u L M w' (hw.below hb) (hv.below hb) (hu.below hb) hsz hsz'
  have H2 := Lib.hid h2
  obtain ⟨p, c, rfl, _, _, _⟩ := hv
  obtain ⟨p', c', rfl, _, _, _⟩ := hu
  have n1 : (bothErr L M != 0) = true := by simpa using hk
  clear h2 hsz hsz' hk
  go_enter Tryz.func90, Tryz.ntmps90
  go_wp2_with fail
  obtain ⟨wA, hwA⟩ : ∃ wA, wA = ((w.alloc (Obj.cells #[.slice p L.length c] 22)).alloc (Obj.cells #[.slice p' M.length c'] 22)).alloc (Obj.cells #[.func g a b] 135) := ⟨_, rfl⟩
  have hA0 : Below w.heap.size w wA := by rw [hwA]; exact ((alloc_below _ _).trans ((alloc_below _ _).mono (by simp))).trans ((alloc_below _ _).mono (by simp; omega))
  rw [← hwA]
  clear hwA
  refine (H2.out wA hA0).mono ?_
  rintro e w1 ⟨rfl, hb1⟩
  generalize hpe : bothErr L M = pe at n1 ⊢
  have HPE := Lib.hid hpe
  clear hpe
  go_wp2
  go_ret2
  exact ⟨by rw [HPE.out]; rfl, hA0.trans (hb1.mono hA0.size)⟩
theorem union_err (v u : Value) (L M : List Pair) (w : World) (hw : Good w) (hv : Pairs w v L) (hu : Pairs w u M) (hsz : SzOk L) (hsz' : SzOk M) (hk : bothErr L M ≠ 0) :
    Calls Tryz.prog 43 #[v, u] w (ErrPost (.slice none 0 0) (bothErr L M) w) := by
  have h2 := combine_err v u (.func (.func 91) #[] #[]) ⟨_, _, _, rfl⟩ L M w hw hv hu hsz hsz' hk
  have H2 := Lib.hid h2
  clear h2 hv hu hsz hsz' hk
  go_enter Tryz.func43, Tryz.ntmps43
  go_wp2_with fail
  refine H2.out.mono ?_
  rintro e w1 ⟨rfl, hb1⟩
  generalize hpe : bothErr L M = pe
  have HPE := Lib.hid hpe
  clear hpe
  go_wp2
  go_ret2
  exact ⟨by rw [HPE.out]; rfl, hb1⟩
theorem intersect_err (v u : Value) (L M : List Pair) (w : World) (hw : Good w) (hv : Pairs w v L) (hu : Pairs w u M) (hsz : SzOk L) (hsz' : SzOk M) (hk : bothErr L M ≠ 0) :
    Calls Tryz.prog 44 #[v, u] w (ErrPost (.slice none 0 0) (bothErr L M) w) := by
  have h2 := combine_err v u (.func (.func 92) #[] #[]) ⟨_, _, _, rfl⟩ L M w hw hv hu hsz hsz' hk
  have H2 := Lib.hid h2
  clear h2 hv hu hsz hsz' hk
  go_enter Tryz.func44, Tryz.ntmps44
  go_wp2_with fail
  refine H2.out.mono ?_
  rintro e w1 ⟨rfl, hb1⟩
  generalize hpe : bothErr L M = pe
  have HPE := Lib.hid hpe
  clear hpe
  go_wp2
  go_ret2
  exact ⟨by rw [HPE.out]; rfl, hb1⟩
theorem subtract_err (v u : Value) (L M : List Pair) (w : World) (hw : Good w) (hv : Pairs w v L) (hu : Pairs w u M) (hsz : SzOk L) (hsz' : SzOk M) (hk : bothErr L M ≠ 0) :
    Calls Tryz.prog 45 #[v, u] w (ErrPost (.slice none 0 0) (bothErr L M) w) := by
  have h2 := combine_err v u (.func (.func 93) #[] #[]) ⟨_, _, _, rfl⟩ L M w hw hv hu hsz hsz' hk
  have H2 := Lib.hid h2
  clear h2 hv hu hsz hsz' hk
  go_enter Tryz.func45, Tryz.ntmps45
  go_wp2_with fail
  refine H2.out.mono ?_
  rintro e w1 ⟨rfl, hb1⟩
  generalize hpe : bothErr L M = pe
  have HPE := Lib.hid hpe
  clear hpe
  go_wp2
  go_ret2
  exact ⟨by rw [HPE.out]; rfl, hb1⟩
theorem within_err (v u : Value) (L M : List Pair) (w : World) (hw : Good w) (hv : Pairs w v L) (hu : Pairs w u M) (hsz : SzOk L) (hsz' : SzOk M) (hk : bothErr L M ≠ 0) :
    Calls Tryz.prog 46 #[v, u] w (ErrPost (.bool false) (bothErr L M) w) := by
  have h2 := subtract_err v u L M w hw hv hu hsz hsz' hk
  have H2 := Lib.hid h2
  have n1 : (bothErr L M == 0) = false := by simpa using hk
  clear h2 hv hu hsz hsz' hk
  go_enter Tryz.func46, Tryz.ntmps46
  go_wp2_with fail
  refine H2.out.mono ?_
  rintro e w1 ⟨rfl, hb1⟩
  generalize hpe : bothErr L M = pe at n1 ⊢
  have HPE := Lib.hid hpe
  clear hpe
  go_wp2
  go_ret2
  exact ⟨by rw [HPE.out]; rfl, hb1⟩
theorem contains_err (v : Value) (L : List Pair) (x : ByteArray) (w : World) (hw : Good w) (hv : Pairs w v L) (hsz : SzOk L) (hk : checkErr L ≠ 0) :
    Calls Tryz.prog 31 #[v, .string x] w (ErrPost (.bool false) (checkErr L) w) := by
  have h1 := ranges_Check v L w hw hv hsz
  have H1 := Lib.hid h1
  have n1 : (checkErr L != 0) = true := by simpa using hk
  clear h1 hv hsz hk
  go_enter Tryz.func31, Tryz.ntmps31
  go_wp2_with fail
  refine H1.out.mono ?_
  rintro e w1 ⟨rfl, hb1⟩
  generalize hpe : checkErr L = pe at n1 ⊢
  have HPE := Lib.hid hpe
  clear hpe
  go_wp2
  go_ret2
  exact ⟨by rw [HPE.out]; rfl, hb1⟩
end Go.Proofs.YtbogpbjddaoeiaaGreatDoor
