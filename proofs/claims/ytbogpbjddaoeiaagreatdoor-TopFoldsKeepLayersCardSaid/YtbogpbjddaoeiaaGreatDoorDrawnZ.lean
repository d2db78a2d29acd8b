import Derived.Calls
import Derived.Below
import Derived.Sort.Grow
import Derived.Deep.Draws
namespace Go.Proofs.YtbogpbjddaoeiaaGreatDoor
open Go
theorem ask_d {α : Type} (c : Ask α) : ∀ w : World, w.drawn ≤ (w.ask c).2.drawn := by
  induction c with
  | done a => intro w; exact Nat.le_refl _
  | ask what range k ih =>
    intro w
    unfold World.ask
    dsimp only
    split
    · exact ih _ _
    · exact Nat.le_trans (Nat.le_succ _) (ih _ { w with drawn := w.drawn + 1 })
theorem sys_d (w : World) (c : Sys) : w.drawn ≤ (w.sys c).2.drawn := by
  have h := ask_d (Kernel.perform c w.os) w
  unfold World.sys
  split
  · exact Nat.le_refl _
  · rename_i heq
    rw [heq] at h
    exact h
theorem far_d {p : Program} {w w' : World} {a : Addr} {v : Value} {at_ : Bool} {l : List Addr} (h : w.farStore p a v at_ = .ok (w', l)) : w'.drawn = w.drawn := by
  unfold World.farStore at h
  split at h
  · split at h
    · rename_i r heq
      cases h
      unfold World.viewStore at heq
      simp only [bind, Except.bind, pure, Except.pure] at heq
      repeat' split at heq
      all_goals first
        | (cases heq; done)
        | (cases heq; rfl)
        | skip
    · cases h
  · cases h
def RGe {α : Type} (n : Nat) : Result α → Prop
  | .ok _ w => n ≤ w.drawn
  | .halt _ w => n ≤ w.drawn
theorem set_d (w : World) (a : Addr) (v : Value) : (w.setCell a v).drawn = w.drawn := rfl
theorem freeze_d (w : World) (a : Addr) (n : Nat) : (w.freeze a n).drawn = w.drawn := by
  unfold World.freeze; split <;> rfl
theorem run_d {α : Type} {p : Program} (s : Sem α) (w : World) (n : Nat) (h : n ≤ w.drawn) : RGe n (s.run p w) := by
  fun_induction Sem.run p s w
  all_goals first
    | exact h
    | (rename_i ih; exact ih h)
    | (rename_i ih; exact ih (Nat.le_trans h (Nat.le_succ _)))
    | (rename_i ih; exact ih (Nat.le_trans h (sys_d _ _)))
    | (rename_i ih; exact ih (by rw [freeze_d]; exact h))
    | (rename_i hf ih; exact ih (by rw [far_d hf]; exact h))
theorem runT_d {α : Type} {p : Program} (s : Sem α) (w : World) (es : Array Event) (n : Nat) (h : n ≤ w.drawn) : RGe n (s.runT p w es).1 := by
  fun_induction Sem.runT p s w es
  all_goals first
    | exact h
    | (rename_i ih; exact ih h)
    | (rename_i ih; exact ih (Nat.le_trans h (Nat.le_succ _)))
    | (rename_i ih; exact ih (Nat.le_trans h (sys_d _ _)))
    | (rename_i ih; exact ih (by rw [freeze_d]; exact h))
    | (rename_i hf ih; exact ih (by rw [far_d hf]; exact h))
theorem run_ok_d {α : Type} {p : Program} {s : Sem α} {w w' : World} {a : α} {n : Nat} (e : s.run p w = .ok a w') (h : n ≤ w.drawn) : n ≤ w'.drawn := by
  have := run_d (p := p) s w n h
  rw [e] at this; exact this
theorem run_halt_d {α : Type} {p : Program} {s : Sem α} {w w' : World} {a : Halt} {n : Nat} (e : s.run p w = .halt a w') (h : n ≤ w.drawn) : n ≤ w'.drawn := by
  have := run_d (p := p) s w n h
  rw [e] at this; exact this
theorem runT_ok_d {α : Type} {p : Program} {s : Sem α} {w w' : World} {es es' : Array Event} {a : α} {n : Nat} (e : s.runT p w es = (.ok a w', es')) (h : n ≤ w.drawn) : n ≤ w'.drawn := by
  have := runT_d (p := p) s w es n h
  rw [e] at this; exact this
theorem runT_halt_d {α : Type} {p : Program} {s : Sem α} {w w' : World} {es es' : Array Event} {a : Halt} {n : Nat} (e : s.runT p w es = (.halt a w', es')) (h : n ≤ w.drawn) : n ≤ w'.drawn := by
  have := runT_d (p := p) s w es n h
  rw [e] at this; exact this
theorem fst_ok_d {α : Type} {p : Program} {s : Sem α} {w w' : World} {es : Array Event} {a : α} {n : Nat} (e : (s.runT p w es).1 = .ok a w') (h : n ≤ w.drawn) : n ≤ w'.drawn := by
  have := runT_d (p := p) s w es n h
  rw [e] at this; exact this
theorem fst_halt_d {α : Type} {p : Program} {s : Sem α} {w w' : World} {es : Array Event} {a : Halt} {n : Nat} (e : (s.runT p w es).1 = .halt a w') (h : n ≤ w.drawn) : n ≤ w'.drawn := by
  have := runT_d (p := p) s w es n h
  rw [e] at this; exact this
def GGe (n : Nat) : GStep → Prop
  | .go _ w _ => n ≤ w.drawn
  | .comm _ _ _ _ w _ => n ≤ w.drawn
  | .spawn _ _ w _ => n ≤ w.drawn
  | .count _ w _ => n ≤ w.drawn
  | .timer _ _ w _ => n ≤ w.drawn
  | .alone _ _ w _ => n ≤ w.drawn
  | .newcoro _ _ _ w _ => n ≤ w.drawn
  | .coroswitch _ _ _ w _ => n ≤ w.drawn
  | .collect _ w _ => n ≤ w.drawn
  | .watch _ w _ => n ≤ w.drawn
  | .ended _ _ _ => True
theorem after_d {n : Nat} {es : Array Event} {g : GStep} (h : GGe n g) : GGe n (g.after es) := by
  cases g <;> exact h
theorem ite_d {n : Nat} {c : Prop} [Decidable c] {a b : GStep} (ha : GGe n a) (hb : GGe n b) : GGe n (if c then a else b) := by
  split
  · exact ha
  · exact hb
theorem endWith_d (n : Nat) (w : World) (fd : Nat) (t : ByteArray) (o : Outcome) : GGe n (endWith w fd t o) := by
  unfold endWith
  dsimp only
  split
  · split <;> trivial
  · trivial
  · trivial
theorem dieOf_d {n : Nat} {fr : Frame} {l : List ByteArray} {m : String} {b : Bool} {w : World} (h : n ≤ w.drawn) : GGe n (dieOf fr l m b w) := h
theorem endThrow_d {n : Nat} {fr : Frame} {m : String} {w : World} (h : n ≤ w.drawn) : GGe n (endThrow fr m w) := h
theorem endPrinting_d {n : Nat} {p : Program} {fr : Frame} {v : Value} {w : World} (h : n ≤ w.drawn) : GGe n (endPrinting p fr v w) := by
  unfold endPrinting
  dsimp only
  repeat' split
  all_goals first | exact endThrow_d h | trivial
theorem endFatal_d {n : Nat} {p : Program} {fr : Frame} {cs : List Frame} {d : Option Dying} {m : String} {w : World} (h : n ≤ w.drawn) : GGe n (endFatal p fr cs d m w) := by
  unfold endFatal
  dsimp only
  split
  · rename_i heq
    exact dieOf_d (run_ok_d heq h)
  · trivial
  · trivial
theorem writeOn_d {n : Nat} {p : Program} {fr : Frame} {d : Dying} {f : Fatal} {w : World} (h : n ≤ w.drawn) : GGe n (writeOn p fr d f w) := by
  unfold writeOn
  dsimp only
  split
  · trivial
  · split
    · rename_i heq
      exact runT_ok_d heq h
    · rename_i heq
      exact runT_halt_d heq h
    · trivial
    · trivial
theorem die_d {n : Nat} {p : Program} {fr : Frame} {d : Dying} {w : World} (h : n ≤ w.drawn) : GGe n (die p fr d w) := by
  unfold die
  split
  · exact writeOn_d h
  · split
    · split
      · exact h
      · exact endWith_d _ _ _ _ _
    · dsimp only
      split
      · exact h
      · split
        · rename_i heq
          exact run_ok_d heq h
        · trivial
      · refine after_d ?_
        split
        · rename_i heq; exact fst_ok_d heq h
        · rename_i heq; exact fst_ok_d heq h
        · trivial
        · rename_i heq; exact endPrinting_d (fst_halt_d heq h)
        · trivial
      · trivial
theorem doReturn_d {n : Nat} {p : Program} {main : Bool} {fr : Frame} {cs : List Frame} {d : Option Dying} {v : Value} {w : World} (h : n ≤ w.drawn) : GGe n (doReturn p main fr cs d v w) := by
  unfold doReturn
  repeat' split
  all_goals first | exact h | trivial | skip
theorem callDeferred_d {n : Nat} {p : Program} {fr : Frame} {cs : List Frame} {dy : Option Dying} {d : Deferred} {w : World} (h : n ≤ w.drawn) : GGe n (callDeferred p fr cs dy d w) := by
  unfold callDeferred
  refine ite_d trivial ?_
  dsimp only
  refine after_d ?_
  split
  all_goals first
    | trivial
    | (rename_i heq; exact fst_ok_d heq h)
    | (rename_i heq; exact fst_halt_d heq h)
    | (rename_i heq; exact endFatal_d (fst_halt_d heq h))
    | (rename_i heq; exact endThrow_d (fst_halt_d heq h))
    | (rename_i heq _; exact fst_ok_d heq h)
    | (rename_i heq; have h2 := fst_ok_d heq h; split <;> exact h2)
    | skip
theorem unwind_d {n : Nat} {p : Program} {main : Bool} {fr : Frame} {cs : List Frame} {d : Option Dying} {w : World} (h : n ≤ w.drawn) : GGe n (unwind p main fr cs d w) := by
  unfold unwind
  split
  · dsimp only
    refine after_d ?_
    split
    · rename_i heq; exact fst_ok_d heq h
    · trivial
  · exact callDeferred_d h
  · split
    · trivial
    · split
      · trivial
      · split
        · exact h
        · split
          · split
            · exact h
            · split
              · rename_i heq; exact run_ok_d heq h
              · trivial
              · trivial
          · split
            · exact endPrinting_d h
            · trivial
    · split
      · exact doReturn_d h
      · dsimp only
        refine after_d ?_
        split
        · rename_i heq; exact doReturn_d (fst_ok_d heq h)
        · trivial
        · trivial
theorem early_d {n : Nat} {p : Program} {fr : Frame} {cs : List Frame} {d : Option Dying} {g : Nat} {w : World} (h : n ≤ w.drawn) : GGe n (early p fr cs d g w) := by
  have key : ∀ w : World, n ≤ w.drawn → GGe n (match w.heap[g]? with
    | some (.pending c elem) => .go { frame := fr, callers := cs, status := .running, dying := d } { w with heap := w.heap.setIfInBounds g (.cells c elem) }
    | _ => .ended (.stuck "early: the variable does not wait" (fr.pos p)) w) := by
    intro w h
    split
    · exact h
    · trivial
  unfold early
  dsimp only
  refine ite_d (key w h) ?_
  split
  · trivial
  · refine ite_d (key w h) ?_
    refine ite_d (key w h) ?_
    split
    · trivial
    · exact h
    · trivial
    · exact key w h
    · refine ite_d h ?_
      refine ite_d (key w h) ?_
      split
      · rename_i heq; exact key _ (run_ok_d heq h)
      · rename_i heq; exact run_ok_d (by assumption) h
      · trivial
theorem apply_d {n : Nat} {p : Program} {listen : Bool} {fr : Frame} {cs : List Frame} {d : Option Dying} {s : Sem Next} {w : World} (h : n ≤ w.drawn) : GGe n (stepG.apply p listen fr cs d s w) := by
  unfold stepG.apply
  dsimp only
  refine after_d ?_
  have hr : RGe n (if listen = true then s.runT p w #[] else (s.run p w, #[])).1 := by
    split
    · exact runT_d _ _ _ _ h
    · exact run_d _ _ _ h
  generalize (if listen = true then s.runT p w #[] else (s.run p w, #[])) = x at hr ⊢
  obtain ⟨r, es⟩ := x
  dsimp only at hr ⊢
  split
  all_goals first
    | trivial
    | exact hr
    | exact endFatal_d hr
    | exact endThrow_d hr
    | exact early_d hr
    | (split <;> exact hr)
    | exact ite_d (endThrow_d hr) hr
    | skip
theorem oper_d {n : Nat} {p : Program} {listen : Bool} {fr : Frame} {cs : List Frame} {d : Option Dying} {w : World} (h : n ≤ w.drawn) : GGe n (stepG.oper p listen fr cs d w) := by
  unfold stepG.oper
  split
  · trivial
  · split
    · exact apply_d h
    · exact apply_d h
theorem elim_d {n : Nat} {α : Type} {o : Option α} {a : GStep} {f : α → GStep} (ha : GGe n a) (hf : ∀ x, GGe n (f x)) : GGe n (o.elim a f) := by
  cases o
  · exact ha
  · exact hf _
theorem exec_d {n : Nat} {p : Program} {main : Bool} {listen : Bool} {fr : Frame} {cs : List Frame} {d : Option Dying} {w : World} (h : n ≤ w.drawn) : GGe n (stepG.exec p main listen fr cs d w) := by
  have leave : ∀ (c : Prop) [Decidable c] (jump : Option Code), GGe n (match fr.roundOf with
      | none => if c then .go { frame := { fr with mode := .returning }, callers := cs, status := .running, dying := d } w else .ended (.stuck "exit, goto: no such block or label" (fr.pos p)) w
      | some l =>
        GStep.after (seen p fr.fn ((Instr.endRound l jump).runT p w #[]).2) <| match ((Instr.endRound l jump).runT p w #[]).1 with
        | .ok v w => doReturn p main fr cs d v w
        | .halt _ w => .ended (.stuck "range over a function: no such loop" (fr.pos p)) w) := by
    intro c _ jump
    split
    · exact ite_d h trivial
    · refine after_d ?_
      split
      · rename_i heq; exact doReturn_d (fst_ok_d heq h)
      · trivial
  unfold stepG.exec
  dsimp only
  split
  all_goals first
    | trivial
    | exact h
    | exact apply_d h
    | exact leave _ _
    | exact elim_d (leave _ _) (fun _ => h)
    | exact elim_d trivial (fun _ => apply_d h)
    | exact ite_d (oper_d h) h
    | (split <;> first | exact h | trivial)
    | (refine after_d ?_; split <;> first | (rename_i heq; exact apply_d (fst_ok_d heq h)) | (rename_i heq; exact fst_ok_d heq h) | (rename_i heq; exact fst_halt_d heq h) | trivial)
    | (refine ite_d h ?_; split <;> first | (rename_i heq; exact run_ok_d heq h) | trivial)
    | skip
theorem stepG_d {n : Nat} {p : Program} {main : Bool} {listen : Bool} {g : Goroutine} {w : World} (h : n ≤ w.drawn) : GGe n (stepG p main g w listen) := by
  unfold stepG
  split
  split
  · exact die_d h
  · exact exec_d h
  · exact unwind_d h
def SGe (n : Nat) : Stepped → Prop
  | .next m => n ≤ m.world.drawn
  | .ended _ _ => True
theorem site_d {n : Nat} {c : Prop} [Decidable c] {a b : Stepped} (ha : SGe n a) (hb : SGe n b) : SGe n (if c then a else b) := by
  split
  · exact ha
  · exact hb
theorem pite_d {n : Nat} {c : Prop} [Decidable c] {a b : Stepped × Array MemOp} (ha : SGe n a.1) (hb : SGe n b.1) : SGe n (if c then a else b).1 := by
  split
  · exact ha
  · exact hb
theorem comm_d {n : Nat} {p : Program} {rest : Rest} {gs : Array Goroutine} {i : Nat} {g : Goroutine} {cases : Array CommCase} {bl : Bool} {sh : CommShape} {w : World} (h : n ≤ w.drawn) : SGe n (communicate p rest gs i g cases bl sh w).1 := by
  unfold communicate
  dsimp only
  refine pite_d trivial ?_
  refine pite_d ?_ ?_
  · refine pite_d ?_ h
    split
    · rename_i heq
      unfold waitingAt at heq
      split at heq
      · split at heq
        · cases heq; exact h
        · cases heq
      · cases heq; exact h
    · trivial
  · split
    · trivial
    · rename_i heq
      have h2 := run_ok_d heq h
      split
      · split
        · rename_i h3; exact run_halt_d h3 h2
        · trivial
      · exact h2
      · exact h2
      · split
        · exact h2
        · split
          · rename_i h3; have h4 := run_ok_d h3 h2; exact h4
          · trivial
      · exact h2
      · exact h2
      · trivial
theorem look_d {n : Nat} {p : Program} {gs : Array Goroutine} {rest : Rest} {w : World} (h : n ≤ w.drawn) : SGe n (look p gs rest w) := by
  unfold look
  split
  · dsimp only
    refine site_d trivial ?_
    split
    · trivial
    · split
      · rename_i heq; have h2 := run_ok_d heq h; exact h2
      · trivial
      · trivial
  · trivial
theorem endThrow_go {fr : Frame} {m : String} {w w' : World} {g : Goroutine} {es : Array Event} (e : endThrow fr m w = .go g w' es) : w' = w := by
  unfold endThrow dieOf at e
  cases e; rfl
theorem serve_d {n : Nat} {p : Program} {m : Machine} {k : Nat} (h : n ≤ m.world.drawn) : SGe n (serve p m k) := by
  unfold serve
  split
  · trivial
  · exact h
  · dsimp only
    split
    · trivial
    · exact h
theorem drain_d (w : World) (c : Nat) : (drain w c).2.drawn = w.drawn := by
  unfold drain; split <;> rfl
theorem retime_d (m : Machine) (k : Nat) (t : Timer) (a b : Nat) : (retime m k t a b).2.world.drawn = m.world.drawn := by
  unfold retime
  dsimp only
  split
  · exact drain_d _ _
  · rfl
theorem timerOp_d {m m' : Machine} {op : TimerOp} {v : Value} (h : timerOp m op = .ok (v, m')) : m'.world.drawn = m.world.drawn := by
  unfold timerOp at h
  split at h
  · split at h
    · cases h; rfl
    · split at h
      · split at h
        · cases h
        · cases h; rfl
      · cases h
  · unfold timerOp.named at h
    split at h
    · rw [Except.ok.injEq] at h
      have h2 := congrArg (fun x : Value × Machine => x.2.world.drawn) h
      dsimp only at h2
      rw [retime_d] at h2
      exact h2.symm
    · cases h
  · split at h
    · rename_i m1 ho
      have hm : m1.world.drawn = m.world.drawn := by
        unfold timerOp.opened at ho
        split at ho
        · split at ho
          · cases ho; rfl
          · cases ho
        · cases ho; rfl
      unfold timerOp.named at h
      split at h
      · rw [Except.ok.injEq] at h
        have h2 := congrArg (fun x : Value × Machine => x.2.world.drawn) h
        dsimp only at h2
        rw [retime_d] at h2
        rw [← h2]; exact hm
      · cases h
    · cases h
  · cases h; rfl
theorem mrun_d {n : Nat} {p : Program} {m : Machine} {i : Nat} {listen : Bool} (h : n ≤ m.world.drawn) : SGe n (runT p m i listen).1 := by
  unfold runT
  dsimp only
  have hs := stepG_d (p := p) (main := i == 0) (listen := listen) (g := (m.gs.swapAt! i { (default : Goroutine) with status := .finished }).1) h
  generalize stepG p (i == 0) (m.gs.swapAt! i { (default : Goroutine) with status := .finished }).1 m.world listen = s at hs ⊢
  split
  · trivial
  · exact comm_d hs
  · exact hs
  · exact hs
  · exact site_d trivial hs
  · exact hs
  · exact look_d hs
  · exact hs
  · exact hs
  · split
    · exact hs
    · split
      · rename_i heq
        show n ≤ _
        dsimp only
        rw [endThrow_go heq]; exact hs
      · trivial
    · trivial
  · split
    · rename_i heq
      have h2 := timerOp_d heq
      show n ≤ _
      dsimp only
      rw [h2]; exact hs
    · split
      · rename_i heq
        show n ≤ _
        dsimp only
        rw [endThrow_go heq]; exact hs
      · trivial
    · trivial
    · trivial
def MGe (n : Nat) : Move → Prop
  | .goroutine m _ => n ≤ m.world.drawn
  | .machine s _ => SGe n s
theorem mite_d {n : Nat} {c : Prop} [Decidable c] {a b : Move} (ha : MGe n a) (hb : MGe n b) : MGe n (if c then a else b) := by
  split
  · exact ha
  · exact hb
theorem endWith_go {w w' : World} {fd : Nat} {t : ByteArray} {o o' : Outcome} {es : Array Event} (_ : endWith w fd t o = .ended o' w' es) : True := trivial
theorem askOn_d {n : Nat} {p : Program} {m : Machine} (h : n ≤ m.world.drawn) : MGe n (askOn p m) := by
  have pick : ∀ (m : Machine) (l : List Nat), n ≤ m.world.drawn → MGe n (match (choose (.sched l.length)).run p m.world with
      | .halt _ w => .machine (.ended (.stuck "sched" "") w)
      | .ok k world =>
        if l.length ≤ 1 then .goroutine { m with world } (l.getD k 0) else
        match (choose (.extern "sched.slice" 65536)).run p world with
        | .halt _ w => .machine (.ended (.stuck "sched.slice" "") w)
        | .ok n world => .goroutine { m with world, rest := { m.rest with slice := if n = 0 then none else some (l.getD k 0, n) } } (l.getD k 0)) := by
    intro m l h
    split
    · trivial
    · rename_i heq
      have h2 := run_ok_d heq h
      refine mite_d h2 ?_
      split
      · trivial
      · rename_i h3; have h4 := run_ok_d h3 h2; exact h4
  unfold askOn
  dsimp only
  split
  · trivial
  · rename_i heq
    have h2 := run_ok_d heq h
    refine mite_d (serve_d h2) ?_
    split
    · split
      · exact h2
      · refine mite_d h2 ?_
        split
        · trivial
        · trivial
    · split
      · refine pick { m with world := _ } _ ?_; exact h2
      · split
        · trivial
        · rename_i h3; have h4 := run_ok_d h3 h2; (refine pick { m with world := _ } _ ?_; exact h4)
        · rename_i h3; have h4 := run_ok_d h3 h2; exact h4
        · rename_i h3; have h4 := run_ok_d h3 h2; exact pick _ _ h4
theorem ask_m_d {n : Nat} {p : Program} {m : Machine} (h : n ≤ m.world.drawn) : MGe n (ask p m) := by
  unfold ask
  split
  · split
    · trivial
    · rename_i heq
      have h2 := run_ok_d heq h
      have h3 := look_d (p := p) (gs := m.gs) (rest := m.rest) h2
      split
      · rename_i hl; rw [hl] at h3; exact askOn_d h3
      · exact h3
    · rename_i heq
      have h2 := run_ok_d heq h
      exact askOn_d h2
  · exact askOn_d h
theorem move_d {n : Nat} {p : Program} {m : Machine} (h : n ≤ m.world.drawn) : MGe n (move p m) := by
  unfold move
  split
  · exact mite_d h trivial
  · split
    · exact mite_d h (ask_m_d h)
    · exact ask_m_d h
theorem step_d {p : Program} {m m' : Machine} (h : step p m = .next m') : m.world.drawn ≤ m'.world.drawn := by
  have key : SGe m.world.drawn (step p m) := by
    unfold step stepT
    have hm := move_d (p := p) (m := m) (Nat.le_refl _)
    split
    · rename_i heq; rw [heq] at hm; exact mrun_d hm
    · rename_i heq; rw [heq] at hm; exact hm
  rw [h] at key; exact key
theorem runN_d {p : Program} : ∀ (k : Nat) (m m' : Machine), runN p k m = .next m' → m.world.drawn ≤ m'.world.drawn := by
  intro k
  induction k with
  | zero => intro m m' h; unfold runN at h; cases h; exact Nat.le_refl _
  | succ k ih =>
    intro m m' h
    unfold runN at h
    split at h
    · rename_i heq; exact Nat.le_trans (step_d heq) (ih _ _ h)
    · rename_i hne; exact (hne _ h).elim
theorem steps_d {p : Program} {m m' : Machine} (h : Steps p m m') : m.world.drawn ≤ m'.world.drawn := by
  obtain ⟨k, h⟩ := h
  exact runN_d k _ _ h
/-- A call that comes to its end has drawn no fewer. -/
theorem calls_drawn {P : Program} {f : FuncId} {args : Array Value} {w : World} {R : Ending → World → Prop} (h : Calls P f args w R) :
    Calls P f args w fun e w' => R e w' ∧ (e ≠ .outgrown → w.drawn ≤ w'.drawn) := by
  intro cs
  obtain ⟨e, w', fr, hr, hc, hf, hl⟩ := h cs
  refine ⟨e, w', fr, ⟨hr, fun hne => ?_⟩, hc, hf, hl⟩
  cases e with
  | returned v => exact steps_d hc
  | panicked c => exact steps_d hc
  | outgrown => exact (hne rfl).elim
end Go.Proofs.YtbogpbjddaoeiaaGreatDoor
namespace Go.Proofs.YtbogpbjddaoeiaaGreatDoor
open Go Go.RowKit Go.Sort
theorem grown_of_below {w w' : World} (hb : Below w.heap.size w w') (hd : w.drawn ≤ w'.drawn) : ∃ q os, w' = grow (w.drewN q) os := by
  obtain ⟨ho, ht, hp, hs, hk⟩ := hb
  refine ⟨w'.drawn - w.drawn, w'.heap.extract w.heap.size w'.heap.size, ?_⟩
  have hh : w'.heap = w.heap ++ w'.heap.extract w.heap.size w'.heap.size := by
    apply Array.ext'
    rw [Array.toList_append, Array.toList_extract]
    apply List.ext_getElem?
    intro i
    by_cases hi : i < w.heap.size
    · rw [List.getElem?_append_left (by simpa using hi)]
      have := hk i hi
      simpa using this
    · rw [List.getElem?_append_right (by simp; omega)]
      simp only [Array.length_toList, List.extract_eq_take_drop]
      rw [List.getElem?_take]
      by_cases h2 : i < w'.heap.size
      · rw [if_pos (by omega), List.getElem?_drop]
        congr 1
        omega
      · rw [if_neg (by omega)]
        rw [List.getElem?_eq_none (by simp; omega)]
  cases w; cases w'
  simp only [grow, World.drewN] at *
  subst ho ht hp
  simp only [World.mk.injEq, and_self, and_true, true_and]
  exact ⟨hh, by omega⟩
theorem calls_grown {P : Program} {f : FuncId} {args : Array Value} {w : World} {R : Ending → World → Prop} (h : Calls P f args w R) (hR : ∀ e w', R e w' → (∃ v, e = .returned v) ∧ Below w.heap.size w w') :
    Calls P f args w fun e w' => R e w' ∧ ∃ q os, w' = grow (w.drewN q) os :=
  (calls_drawn h).mono fun e w' ⟨hr, hd⟩ => ⟨hr, by
    obtain ⟨⟨v, rfl⟩, hb⟩ := hR e w' hr
    exact grown_of_below hb (hd (by simp))⟩
end Go.Proofs.YtbogpbjddaoeiaaGreatDoor
