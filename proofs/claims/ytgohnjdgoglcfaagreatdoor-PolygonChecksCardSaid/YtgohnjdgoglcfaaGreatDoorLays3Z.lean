import Derived.Test.YtgohnjdgoglcfaaGreatDoorT9Z
import Derived.Shelf.SlGeneric
import Derived.Shelf.SlSortCmp.WholeK
import Derived.Shelf.SlicesQ.Reverse
import Derived.Shelf.SlicesE.Clone
import Derived.Calls
import Derived.Below
import Derived.Sort.Grow
import Derived.Deep.Draws
namespace Go.Proofs.YtgohnjdgoglcfaaGreatDoor
open Go.Shelf
def sortPt_ren:Go.Shelf.Ren:=⟨fun | 6=>54 | 15=>104 | 14=>103 | 28=>149 | 29=>150 | 20=>141 | 21=>142 | 22=>143 | 23=>144 | 24=>145 | 25=>146 | 26=>147 | 27=>148 | 46=>177 | 47=>178 | 48=>179 | 49=>180 | 50=>181 | 57=>199 | n=>n,fun | 22=>22 | 24=>31 | 25=>93 | 3=>3 | 39=>129 | 0=>0 | 53=>166 | 55=>168 | 4=>4 | 46=>160 | 45=>159 | 50=>147 | 5=>5 | 9=>9 | 66=>194 | 70=>198 | 76=>217 | 77=>218 | n=>n,fun | n=>n⟩
theorem sortPt:Go.Proofs.SlLaysF0.n6 Tryz.prog sortPt_ren:={
 mixed:=by kernel_rfl,
 f6:=⟨Tryz.f54.name,by decide,Tryz.func54.trans (congrArg some (by kernel_rfl))⟩,
 f14:=⟨Tryz.f103.name,by decide,Tryz.func103.trans (congrArg some (by kernel_rfl))⟩,
 f15:=Tryz.func104.trans (congrArg some (by kernel_rfl)),
 f20:=⟨Tryz.f141.name,by decide,Tryz.func141.trans (congrArg some (by kernel_rfl))⟩,
 f21:=⟨Tryz.f142.name,by decide,Tryz.func142.trans (congrArg some (by kernel_rfl))⟩,
 f22:=⟨Tryz.f143.name,by decide,Tryz.func143.trans (congrArg some (by kernel_rfl))⟩,
 f23:=⟨Tryz.f144.name,by decide,Tryz.func144.trans (congrArg some (by kernel_rfl))⟩,
 f24:=⟨Tryz.f145.name,by decide,Tryz.func145.trans (congrArg some (by kernel_rfl))⟩,
 f25:=⟨Tryz.f146.name,by decide,Tryz.func146.trans (congrArg some (by kernel_rfl))⟩,
 f26:=⟨Tryz.f147.name,by decide,Tryz.func147.trans (congrArg some (by kernel_rfl))⟩,
 f27:=⟨Tryz.f148.name,by decide,Tryz.func148.trans (congrArg some (by kernel_rfl))⟩,
 f28:=Tryz.func149.trans (congrArg some (by kernel_rfl)),
 f29:=Tryz.func150.trans (congrArg some (by kernel_rfl)),
 f46:=⟨Tryz.f177.name,by decide,Tryz.func177.trans (congrArg some (by kernel_rfl))⟩,
 f47:=Tryz.func178.trans (congrArg some (by kernel_rfl)),
 f48:=Tryz.func179.trans (congrArg some (by kernel_rfl)),
 f49:=⟨Tryz.f180.name,by decide,Tryz.func180.trans (congrArg some (by kernel_rfl))⟩,
 f50:=⟨Tryz.f181.name,by decide,Tryz.func181.trans (congrArg some (by kernel_rfl))⟩,
 f57:=⟨Tryz.f199.name,by decide,Tryz.func199.trans (congrArg some (by kernel_rfl))⟩,
 t0:=Tryz.underlying0,
 a0:=Tryz.isAgg0,
 z0:=Tryz.sizeOf0,
 v0:=Tryz.zeroValue0,
 t3:=Tryz.underlying3,
 a3:=Tryz.isAgg3,
 z3:=Tryz.sizeOf3,
 v3:=Tryz.zeroValue3,
 t4:=Tryz.underlying4,
 a4:=Tryz.isAgg4,
 z4:=Tryz.sizeOf4,
 v4:=Tryz.zeroValue4,
 t5:=Tryz.underlying5,
 a5:=Tryz.isAgg5,
 z5:=Tryz.sizeOf5,
 v5:=Tryz.zeroValue5,
 t9:=Tryz.underlying9,
 a9:=Tryz.isAgg9,
 z9:=Tryz.sizeOf9,
 v9:=Tryz.zeroValue9,
 t22:=Tryz.underlying22,
 a22:=Tryz.isAgg22,
 z22:=Tryz.sizeOf22,
 v22:=Tryz.zeroValue22,
 t25:=Tryz.underlying93,
 a25:=Tryz.isAgg93,
 z25:=Tryz.sizeOf93,
 v25:=Tryz.zeroValue93,
 t39:=Tryz.underlying129,
 a39:=Tryz.isAgg129,
 z39:=Tryz.sizeOf129,
 v39:=Tryz.zeroValue129,
 t45:=Tryz.underlying159,
 a45:=Tryz.isAgg159,
 z45:=Tryz.sizeOf159,
 v45:=Tryz.zeroValue159,
 t46:=Tryz.underlying160,
 a46:=Tryz.isAgg160,
 z46:=Tryz.sizeOf160,
 v46:=Tryz.zeroValue160,
 t50:=Tryz.underlying147,
 a50:=Tryz.isAgg147,
 z50:=Tryz.sizeOf147,
 v50:=Tryz.zeroValue147,
 t53:=Tryz.underlying166,
 a53:=Tryz.isAgg166,
 z53:=Tryz.sizeOf166,
 v53:=Tryz.zeroValue166,
 t55:=Tryz.underlying168,
 a55:=Tryz.isAgg168,
 z55:=Tryz.sizeOf168,
 v55:=Tryz.zeroValue168,
 t66:=Tryz.underlying194,
 a66:=Tryz.isAgg194,
 z66:=Tryz.sizeOf194,
 v66:=Tryz.zeroValue194,
 t70:=Tryz.underlying198,
 a70:=Tryz.isAgg198,
 z70:=Tryz.sizeOf198,
 v70:=Tryz.zeroValue198,
 t76:=Tryz.underlying217,
 a76:=Tryz.isAgg217,
 z76:=Tryz.sizeOf217,
 v76:=Tryz.zeroValue217,
 t77:=Tryz.underlying218,
 a77:=Tryz.isAgg218,
 z77:=Tryz.sizeOf218,
 v77:=Tryz.zeroValue218 }
def clonePt_ren:Go.Shelf.Ren:=⟨fun | 41=>53 | n=>n,fun | 22=>22 | 23=>31 | 4=>4 | n=>n,fun | n=>n⟩
theorem clonePt:Go.Proofs.SlLaysE0.n41 Tryz.prog clonePt_ren:={
 mixed:=by kernel_rfl,
 f41:=⟨Tryz.f53.name,by decide,Tryz.func53.trans (congrArg some (by kernel_rfl))⟩,
 t4:=Tryz.underlying4,
 a4:=Tryz.isAgg4,
 z4:=Tryz.sizeOf4,
 v4:=Tryz.zeroValue4,
 t22:=Tryz.underlying22,
 a22:=Tryz.isAgg22,
 z22:=Tryz.sizeOf22,
 v22:=Tryz.zeroValue22 }
def revPt_ren:Go.Shelf.Ren:=⟨fun | 35=>58 | n=>n,fun | 22=>22 | 23=>31 | 3=>3 | 4=>4 | 0=>0 | n=>n,fun | n=>n⟩
theorem revPt:Go.Proofs.SlLaysE0.n35 Tryz.prog revPt_ren:={
 mixed:=by kernel_rfl,
 f35:=⟨Tryz.f58.name,by decide,Tryz.func58.trans (congrArg some (by kernel_rfl))⟩,
 t0:=Tryz.underlying0,
 a0:=Tryz.isAgg0,
 z0:=Tryz.sizeOf0,
 v0:=Tryz.zeroValue0,
 t3:=Tryz.underlying3,
 a3:=Tryz.isAgg3,
 z3:=Tryz.sizeOf3,
 v3:=Tryz.zeroValue3,
 t4:=Tryz.underlying4,
 a4:=Tryz.isAgg4,
 z4:=Tryz.sizeOf4,
 v4:=Tryz.zeroValue4,
 t22:=Tryz.underlying22,
 a22:=Tryz.isAgg22,
 z22:=Tryz.sizeOf22,
 v22:=Tryz.zeroValue22 }
end Go.Proofs.YtgohnjdgoglcfaaGreatDoor
namespace Go.Proofs.YtgohnjdgoglcfaaGreatDoor
open Go
theorem ask_d {α:Type} (c:Ask α):∀ w:World,w.drawn≤(w.ask c).2.drawn:=by
 induction c with
 | done a=>intro w;exact Nat.le_refl _
 | ask what range k ih =>
  intro w
  unfold World.ask
  dsimp only
  split
  ·exact ih _ _
  ·exact Nat.le_trans (Nat.le_succ _) (ih _ { w with drawn:=w.drawn+1 })
theorem sys_d (w:World) (c:Sys):w.drawn≤(w.sys c).2.drawn:=by
 have h:=ask_d (Kernel.perform c w.os) w
 unfold World.sys
 split
 ·exact Nat.le_refl _
 ·rename_i heq
  rw [heq] at h
  exact h
theorem far_d {p:Program} {w w':World} {a:Addr} {v:Value} {at_:Bool} {l:List Addr} (h:w.farStore p a v at_=.ok (w',l)):w'.drawn=w.drawn:=by
 unfold World.farStore at h
 split at h
 ·split at h
  ·rename_i r heq
   cases h
   unfold World.viewStore at heq
   simp only [bind,Except.bind,pure,Except.pure] at heq
   repeat' split at heq
   all_goals first
    | (cases heq;done)
    | (cases heq;rfl)
    | skip
  ·cases h
 ·cases h
def RGe {α:Type} (n:Nat):Result α→Prop
 | .ok _ w=>n≤w.drawn
 | .halt _ w=>n≤w.drawn
theorem freeze_d (w:World) (a:Addr) (n:Nat):(w.freeze a n).drawn=w.drawn:=by
 unfold World.freeze;split <;> rfl
theorem run_d {α:Type} {p:Program} (s:Sem α) (w:World) (n:Nat) (h:n≤w.drawn):RGe n (s.run p w):=by
 fun_induction Sem.run p s w
 all_goals first
  | exact h
  | (rename_i ih;exact ih h)
  | (rename_i ih;exact ih (Nat.le_trans h (Nat.le_succ _)))
  | (rename_i ih;exact ih (Nat.le_trans h (sys_d _ _)))
  | (rename_i ih;exact ih (by rw [freeze_d];exact h))
  | (rename_i hf ih;exact ih (by rw [far_d hf];exact h))
theorem runT_d {α:Type} {p:Program} (s:Sem α) (w:World) (es:Array Event) (n:Nat) (h:n≤w.drawn):RGe n (s.runT p w es).1:=by
 fun_induction Sem.runT p s w es
 all_goals first
  | exact h
  | (rename_i ih;exact ih h)
  | (rename_i ih;exact ih (Nat.le_trans h (Nat.le_succ _)))
  | (rename_i ih;exact ih (Nat.le_trans h (sys_d _ _)))
  | (rename_i ih;exact ih (by rw [freeze_d];exact h))
  | (rename_i hf ih;exact ih (by rw [far_d hf];exact h))
theorem run_ok_d {α:Type} {p:Program} {s:Sem α} {w w':World} {a:α} {n:Nat} (e:s.run p w=.ok a w') (h:n≤w.drawn):n≤w'.drawn:=by
 have:=run_d (p:=p) s w n h
 rw [e] at this;exact this
theorem run_halt_d {α:Type} {p:Program} {s:Sem α} {w w':World} {a:Halt} {n:Nat} (e:s.run p w=.halt a w') (h:n≤w.drawn):n≤w'.drawn:=by
 have:=run_d (p:=p) s w n h
 rw [e] at this;exact this
theorem runT_ok_d {α:Type} {p:Program} {s:Sem α} {w w':World} {es es':Array Event} {a:α} {n:Nat} (e:s.runT p w es=(.ok a w',es')) (h:n≤w.drawn):n≤w'.drawn:=by
 have:=runT_d (p:=p) s w es n h
 rw [e] at this;exact this
theorem runT_halt_d {α:Type} {p:Program} {s:Sem α} {w w':World} {es es':Array Event} {a:Halt} {n:Nat} (e:s.runT p w es=(.halt a w',es')) (h:n≤w.drawn):n≤w'.drawn:=by
 have:=runT_d (p:=p) s w es n h
 rw [e] at this;exact this
theorem fst_ok_d {α:Type} {p:Program} {s:Sem α} {w w':World} {es:Array Event} {a:α} {n:Nat} (e:(s.runT p w es).1=.ok a w') (h:n≤w.drawn):n≤w'.drawn:=by
 have:=runT_d (p:=p) s w es n h
 rw [e] at this;exact this
theorem fst_halt_d {α:Type} {p:Program} {s:Sem α} {w w':World} {es:Array Event} {a:Halt} {n:Nat} (e:(s.runT p w es).1=.halt a w') (h:n≤w.drawn):n≤w'.drawn:=by
 have:=runT_d (p:=p) s w es n h
 rw [e] at this;exact this
def GGe (n:Nat):GStep→Prop
 | .go _ w _=>n≤w.drawn
 | .comm _ _ _ _ w _=>n≤w.drawn
 | .spawn _ _ w _=>n≤w.drawn
 | .count _ w _=>n≤w.drawn
 | .timer _ _ w _=>n≤w.drawn
 | .alone _ _ w _=>n≤w.drawn
 | .newcoro _ _ _ w _=>n≤w.drawn
 | .coroswitch _ _ _ w _=>n≤w.drawn
 | .collect _ w _=>n≤w.drawn
 | .watch _ w _=>n≤w.drawn
 | .ended _ _ _=>True
theorem after_d {n:Nat} {es:Array Event} {g:GStep} (h:GGe n g):GGe n (g.after es):=by
 cases g <;> exact h
theorem ite_d {n:Nat} {c:Prop} [Decidable c] {a b:GStep} (ha:GGe n a) (hb:GGe n b):GGe n (if c then a else b):=by
 split
 ·exact ha
 ·exact hb
theorem endWith_d (n:Nat) (w:World) (fd:Nat) (t:ByteArray) (o:Outcome):GGe n (endWith w fd t o):=by
 unfold endWith
 dsimp only
 split
 ·split <;> trivial
 ·trivial
 ·trivial
theorem dieOf_d {n:Nat} {fr:Frame} {l:List ByteArray} {m:String} {b:Bool} {w:World} (h:n≤w.drawn):GGe n (dieOf fr l m b w):=h
theorem endThrow_d {n:Nat} {fr:Frame} {m:String} {w:World} (h:n≤w.drawn):GGe n (endThrow fr m w):=h
theorem endPrinting_d {n:Nat} {p:Program} {fr:Frame} {v:Value} {w:World} (h:n≤w.drawn):GGe n (endPrinting p fr v w):=by
 unfold endPrinting
 dsimp only
 repeat' split
 all_goals first | exact endThrow_d h | trivial
theorem endFatal_d {n:Nat} {p:Program} {fr:Frame} {cs:List Frame} {d:Option Dying} {m:String} {w:World} (h:n≤w.drawn):GGe n (endFatal p fr cs d m w):=by
 unfold endFatal
 dsimp only
 split
 ·rename_i heq
  exact dieOf_d (run_ok_d heq h)
 ·trivial
 ·trivial
theorem writeOn_d {n:Nat} {p:Program} {fr:Frame} {d:Dying} {f:Fatal} {w:World} (h:n≤w.drawn):GGe n (writeOn p fr d f w):=by
 unfold writeOn
 dsimp only
 split
 ·trivial
 ·split
  ·rename_i heq
   exact runT_ok_d heq h
  ·rename_i heq
   exact runT_halt_d heq h
  ·trivial
  ·trivial
theorem die_d {n:Nat} {p:Program} {fr:Frame} {d:Dying} {w:World} (h:n≤w.drawn):GGe n (die p fr d w):=by
 unfold die
 split
 ·exact writeOn_d h
 ·split
  ·split
   ·exact h
   ·exact endWith_d _ _ _ _ _
  ·dsimp only
   split
   ·exact h
   ·split
    ·rename_i heq
     exact run_ok_d heq h
    ·trivial
   ·refine after_d ?_
    split
    ·rename_i heq;exact fst_ok_d heq h
    ·rename_i heq;exact fst_ok_d heq h
    ·trivial
    ·rename_i heq;exact endPrinting_d (fst_halt_d heq h)
    ·trivial
   ·trivial
theorem doReturn_d {n:Nat} {p:Program} {main:Bool} {fr:Frame} {cs:List Frame} {d:Option Dying} {v:Value} {w:World} (h:n≤w.drawn):GGe n (doReturn p main fr cs d v w):=by
 unfold doReturn
 repeat' split
 all_goals first | exact h | trivial | skip
theorem callDeferred_d {n:Nat} {p:Program} {fr:Frame} {cs:List Frame} {dy:Option Dying} {d:Deferred} {w:World} (h:n≤w.drawn):GGe n (callDeferred p fr cs dy d w):=by
 unfold callDeferred
 refine ite_d trivial ?_
 dsimp only
 refine after_d ?_
 split
 all_goals first
  | trivial
  | (rename_i heq;exact fst_ok_d heq h)
  | (rename_i heq;exact fst_halt_d heq h)
  | (rename_i heq;exact endFatal_d (fst_halt_d heq h))
  | (rename_i heq;exact endThrow_d (fst_halt_d heq h))
  | (rename_i heq _;exact fst_ok_d heq h)
  | (rename_i heq;have h2:=fst_ok_d heq h;split <;> exact h2)
  | skip
theorem unwind_d {n:Nat} {p:Program} {main:Bool} {fr:Frame} {cs:List Frame} {d:Option Dying} {w:World} (h:n≤w.drawn):GGe n (unwind p main fr cs d w):=by
 unfold unwind
 split
 ·dsimp only
  refine after_d ?_
  split
  ·rename_i heq;exact fst_ok_d heq h
  ·trivial
 ·exact callDeferred_d h
 ·split
  ·trivial
  ·split
   ·trivial
   ·split
    ·exact h
    ·split
     ·split
      ·exact h
      ·split
       ·rename_i heq;exact run_ok_d heq h
       ·trivial
       ·trivial
     ·split
      ·exact endPrinting_d h
      ·trivial
  ·split
   ·exact doReturn_d h
   ·dsimp only
    refine after_d ?_
    split
    ·rename_i heq;exact doReturn_d (fst_ok_d heq h)
    ·trivial
    ·trivial
theorem early_d {n:Nat} {p:Program} {fr:Frame} {cs:List Frame} {d:Option Dying} {g:Nat} {w:World} (h:n≤w.drawn):GGe n (early p fr cs d g w):=by
 have key:∀ w:World,n≤w.drawn→GGe n (match w.heap[g]? with
  | some (.pending c elem)=>.go { frame:=fr,callers:=cs,status:=.running,dying:=d } { w with heap:=w.heap.setIfInBounds g (.cells c elem) }
  | _ => .ended (.stuck "early: the variable does not wait" (fr.pos p)) w) := by
  intro w h
  split
  ·exact h
  ·trivial
 unfold early
 dsimp only
 refine ite_d (key w h) ?_
 split
 ·trivial
 ·refine ite_d (key w h) ?_
  refine ite_d (key w h) ?_
  split
  ·trivial
  ·exact h
  ·trivial
  ·exact key w h
  ·refine ite_d h ?_
   refine ite_d (key w h) ?_
   split
   ·rename_i heq;exact key _ (run_ok_d heq h)
   ·rename_i heq;exact run_ok_d (by assumption) h
   ·trivial
theorem apply_d {n:Nat} {p:Program} {listen:Bool} {fr:Frame} {cs:List Frame} {d:Option Dying} {s:Sem Next} {w:World} (h:n≤w.drawn):GGe n (stepG.apply p listen fr cs d s w):=by
 unfold stepG.apply
 dsimp only
 refine after_d ?_
 have hr:RGe n (if listen=true then s.runT p w #[] else (s.run p w,#[])).1:=by
  split
  ·exact runT_d _ _ _ _ h
  ·exact run_d _ _ _ h
 generalize (if listen=true then s.runT p w #[] else (s.run p w,#[]))=x at hr ⊢
 obtain ⟨r,es⟩:=x
 dsimp only at hr ⊢
 split
 all_goals first
  | trivial
  | exact hr
  | exact endFatal_d hr
  | exact endThrow_d hr
  | exact early_d hr
  | (split <;> exact hr)
  | exact ite_d (endThrow_d hr) hr
  | skip
theorem oper_d {n:Nat} {p:Program} {listen:Bool} {fr:Frame} {cs:List Frame} {d:Option Dying} {w:World} (h:n≤w.drawn):GGe n (stepG.oper p listen fr cs d w):=by
 unfold stepG.oper
 split
 ·trivial
 ·split
  ·exact apply_d h
  ·exact apply_d h
theorem elim_d {n:Nat} {α:Type} {o:Option α} {a:GStep} {f:α→GStep} (ha:GGe n a) (hf:∀ x,GGe n (f x)):GGe n (o.elim a f):=by
 cases o
 ·exact ha
 ·exact hf _
theorem exec_d {n:Nat} {p:Program} {main:Bool} {listen:Bool} {fr:Frame} {cs:List Frame} {d:Option Dying} {w:World} (h:n≤w.drawn):GGe n (stepG.exec p main listen fr cs d w):=by
 have leave:∀ (c:Prop) [Decidable c] (jump:Option Code),GGe n (match fr.roundOf with
   | none => if c then .go { frame := { fr with mode := .returning }, callers := cs, status := .running, dying := d } w else .ended (.stuck "exit, goto: no such block or label" (fr.pos p)) w
   | some l =>
    GStep.after (seen p fr.fn ((Instr.endRound l jump).runT p w #[]).2) <| match ((Instr.endRound l jump).runT p w #[]).1 with
    | .ok v w=>doReturn p main fr cs d v w
    | .halt _ w => .ended (.stuck "range over a function: no such loop" (fr.pos p)) w) := by
  intro c _ jump
  split
  ·exact ite_d h trivial
  ·refine after_d ?_
   split
   ·rename_i heq;exact doReturn_d (fst_ok_d heq h)
   ·trivial
 unfold stepG.exec
 dsimp only
 split
 all_goals first
  | trivial
  | exact h
  | exact apply_d h
  | exact leave _ _
  | exact elim_d (leave _ _) (fun _=>h)
  | exact elim_d trivial (fun _=>apply_d h)
  | exact ite_d (oper_d h) h
  | (split <;> first | exact h | trivial)
  | (refine after_d ?_;split <;> first | (rename_i heq;exact apply_d (fst_ok_d heq h)) | (rename_i heq;exact fst_ok_d heq h) | (rename_i heq;exact fst_halt_d heq h) | trivial)
  | (refine ite_d h ?_;split <;> first | (rename_i heq;exact run_ok_d heq h) | trivial)
  | skip
theorem stepG_d {n:Nat} {p:Program} {main:Bool} {listen:Bool} {g:Goroutine} {w:World} (h:n≤w.drawn):GGe n (stepG p main g w listen):=by
 unfold stepG
 split
 split
 ·exact die_d h
 ·exact exec_d h
 ·exact unwind_d h
def SGe (n:Nat):Stepped→Prop
 | .next m=>n≤m.world.drawn
 | .ended _ _=>True
theorem site_d {n:Nat} {c:Prop} [Decidable c] {a b:Stepped} (ha:SGe n a) (hb:SGe n b):SGe n (if c then a else b):=by
 split
 ·exact ha
 ·exact hb
theorem pite_d {n:Nat} {c:Prop} [Decidable c] {a b:Stepped × Array MemOp} (ha:SGe n a.1) (hb:SGe n b.1):SGe n (if c then a else b).1:=by
 split
 ·exact ha
 ·exact hb
theorem comm_d {n:Nat} {p:Program} {rest:Rest} {gs:Array Goroutine} {i:Nat} {g:Goroutine} {cases:Array CommCase} {bl:Bool} {sh:CommShape} {w:World} (h:n≤w.drawn):SGe n (communicate p rest gs i g cases bl sh w).1:=by
 unfold communicate
 dsimp only
 refine pite_d trivial ?_
 refine pite_d ?_ ?_
 ·refine pite_d ?_ h
  split
  ·rename_i heq
   unfold waitingAt at heq
   split at heq
   ·split at heq
    ·cases heq;exact h
    ·cases heq
   ·cases heq;exact h
  ·trivial
 ·split
  ·trivial
  ·rename_i heq
   have h2:=run_ok_d heq h
   split
   ·split
    ·rename_i h3;exact run_halt_d h3 h2
    ·trivial
   ·exact h2
   ·exact h2
   ·split
    ·exact h2
    ·split
     ·rename_i h3;have h4:=run_ok_d h3 h2;exact h4
     ·trivial
   ·exact h2
   ·exact h2
   ·trivial
theorem look_d {n:Nat} {p:Program} {gs:Array Goroutine} {rest:Rest} {w:World} (h:n≤w.drawn):SGe n (look p gs rest w):=by
 unfold look
 split
 ·dsimp only
  refine site_d trivial ?_
  split
  ·trivial
  ·split
   ·rename_i heq;have h2:=run_ok_d heq h;exact h2
   ·trivial
   ·trivial
 ·trivial
theorem endThrow_go {fr:Frame} {m:String} {w w':World} {g:Goroutine} {es:Array Event} (e:endThrow fr m w=.go g w' es):w'=w:=by
 unfold endThrow dieOf at e
 cases e;rfl
theorem serve_d {n:Nat} {p:Program} {m:Machine} {k:Nat} (h:n≤m.world.drawn):SGe n (serve p m k):=by
 unfold serve
 split
 ·trivial
 ·exact h
 ·dsimp only
  split
  ·trivial
  ·exact h
theorem drain_d (w:World) (c:Nat):(drain w c).2.drawn=w.drawn:=by
 unfold drain;split <;> rfl
theorem retime_d (m:Machine) (k:Nat) (t:Timer) (a b:Nat):(retime m k t a b).2.world.drawn=m.world.drawn:=by
 unfold retime
 dsimp only
 split
 ·exact drain_d _ _
 ·rfl
theorem timerOp_d {m m':Machine} {op:TimerOp} {v:Value} (h:timerOp m op=.ok (v,m')):m'.world.drawn=m.world.drawn:=by
 unfold timerOp at h
 split at h
 ·split at h
  ·cases h;rfl
  ·split at h
   ·split at h
    ·cases h
    ·cases h;rfl
   ·cases h
 ·unfold timerOp.named at h
  split at h
  ·rw [Except.ok.injEq] at h
   have h2:=congrArg (fun x:Value × Machine=>x.2.world.drawn) h
   dsimp only at h2
   rw [retime_d] at h2
   exact h2.symm
  ·cases h
 ·split at h
  ·rename_i m1 ho
   have hm:m1.world.drawn=m.world.drawn:=by
    unfold timerOp.opened at ho
    split at ho
    ·split at ho
     ·cases ho;rfl
     ·cases ho
    ·cases ho;rfl
   unfold timerOp.named at h
   split at h
   ·rw [Except.ok.injEq] at h
    have h2:=congrArg (fun x:Value × Machine=>x.2.world.drawn) h
    dsimp only at h2
    rw [retime_d] at h2
    rw [←h2];exact hm
   ·cases h
  ·cases h
 ·cases h;rfl
theorem mrun_d {n:Nat} {p:Program} {m:Machine} {i:Nat} {listen:Bool} (h:n≤m.world.drawn):SGe n (runT p m i listen).1:=by
 unfold runT
 dsimp only
 have hs:=stepG_d (p:=p) (main:=i == 0) (listen:=listen) (g:=(m.gs.swapAt! i { (default:Goroutine) with status:=.finished }).1) h
 generalize stepG p (i == 0) (m.gs.swapAt! i { (default:Goroutine) with status:=.finished }).1 m.world listen=s at hs ⊢
 split
 ·trivial
 ·exact comm_d hs
 ·exact hs
 ·exact hs
 ·exact site_d trivial hs
 ·exact hs
 ·exact look_d hs
 ·exact hs
 ·exact hs
 ·split
  ·exact hs
  ·split
   ·rename_i heq
    show n≤_
    dsimp only
    rw [endThrow_go heq];exact hs
   ·trivial
  ·trivial
 ·split
  ·rename_i heq
   have h2:=timerOp_d heq
   show n≤_
   dsimp only
   rw [h2];exact hs
  ·split
   ·rename_i heq
    show n≤_
    dsimp only
    rw [endThrow_go heq];exact hs
   ·trivial
  ·trivial
  ·trivial
def MGe (n:Nat):Move→Prop
 | .goroutine m _=>n≤m.world.drawn
 | .machine s _=>SGe n s
theorem mite_d {n:Nat} {c:Prop} [Decidable c] {a b:Move} (ha:MGe n a) (hb:MGe n b):MGe n (if c then a else b):=by
 split
 ·exact ha
 ·exact hb
theorem askOn_d {n:Nat} {p:Program} {m:Machine} (h:n≤m.world.drawn):MGe n (askOn p m):=by
 have pick:∀ (m:Machine) (l:List Nat),n≤m.world.drawn→MGe n (match (choose (.sched l.length)).run p m.world with
   | .halt _ w => .machine (.ended (.stuck "sched" "") w)
   | .ok k world =>
    if l.length≤1 then .goroutine { m with world } (l.getD k 0) else
    match (choose (.extern "sched.slice" 65536)).run p world with
    | .halt _ w => .machine (.ended (.stuck "sched.slice" "") w)
    | .ok n world=>.goroutine { m with world,rest:={ m.rest with slice:=if n=0 then none else some (l.getD k 0,n) } } (l.getD k 0)):=by
  intro m l h
  split
  ·trivial
  ·rename_i heq
   have h2:=run_ok_d heq h
   refine mite_d h2 ?_
   split
   ·trivial
   ·rename_i h3;have h4:=run_ok_d h3 h2;exact h4
 unfold askOn
 dsimp only
 split
 ·trivial
 ·rename_i heq
  have h2:=run_ok_d heq h
  refine mite_d (serve_d h2) ?_
  split
  ·split
   ·exact h2
   ·refine mite_d h2 ?_
    split
    ·trivial
    ·trivial
  ·split
   ·refine pick { m with world:=_ } _ ?_;exact h2
   ·split
    ·trivial
    ·rename_i h3;have h4:=run_ok_d h3 h2;(refine pick { m with world:=_ } _ ?_;exact h4)
    ·rename_i h3;have h4:=run_ok_d h3 h2;exact h4
    ·rename_i h3;have h4:=run_ok_d h3 h2;exact pick _ _ h4
theorem ask_m_d {n:Nat} {p:Program} {m:Machine} (h:n≤m.world.drawn):MGe n (ask p m):=by
 unfold ask
 split
 ·split
  ·trivial
  ·rename_i heq
   have h2:=run_ok_d heq h
   have h3:=look_d (p:=p) (gs:=m.gs) (rest:=m.rest) h2
   split
   ·rename_i hl;rw [hl] at h3;exact askOn_d h3
   ·exact h3
  ·rename_i heq
   have h2:=run_ok_d heq h
   exact askOn_d h2
 ·exact askOn_d h
theorem move_d {n:Nat} {p:Program} {m:Machine} (h:n≤m.world.drawn):MGe n (move p m):=by
 unfold move
 split
 ·exact mite_d h trivial
 ·split
  ·exact mite_d h (ask_m_d h)
  ·exact ask_m_d h
theorem step_d {p:Program} {m m':Machine} (h:step p m=.next m'):m.world.drawn≤m'.world.drawn:=by
 have key:SGe m.world.drawn (step p m):=by
  unfold step stepT
  have hm:=move_d (p:=p) (m:=m) (Nat.le_refl _)
  split
  ·rename_i heq;rw [heq] at hm;exact mrun_d hm
  ·rename_i heq;rw [heq] at hm;exact hm
 rw [h] at key;exact key
theorem runN_d {p:Program}:∀ (k:Nat) (m m':Machine),runN p k m=.next m'→m.world.drawn≤m'.world.drawn:=by
 intro k
 induction k with
 | zero=>intro m m' h;unfold runN at h;cases h;exact Nat.le_refl _
 | succ k ih =>
  intro m m' h
  unfold runN at h
  split at h
  ·rename_i heq;exact Nat.le_trans (step_d heq) (ih _ _ h)
  ·rename_i hne;exact (hne _ h).elim
theorem steps_d {p:Program} {m m':Machine} (h:Steps p m m'):m.world.drawn≤m'.world.drawn:=by
 obtain ⟨k,h⟩:=h
 exact runN_d k _ _ h
theorem calls_drawn {P:Program} {f:FuncId} {args:Array Value} {w:World} {R:Ending→World→Prop} (h:Calls P f args w R) :
  Calls P f args w fun e w'=>R e w'∧(e≠.outgrown→w.drawn≤w'.drawn):=by
 intro cs
 obtain ⟨e,w',fr,hr,hc,hf,hl⟩:=h cs
 refine ⟨e,w',fr,⟨hr,fun hne=>?_⟩,hc,hf,hl⟩
 cases e with
 | returned v=>exact steps_d hc
 | panicked c=>exact steps_d hc
 | outgrown=>exact (hne rfl).elim
end Go.Proofs.YtgohnjdgoglcfaaGreatDoor
namespace Go.Proofs.YtgohnjdgoglcfaaGreatDoor
open Go Go.RowKit Go.Sort
theorem grown_of_below {w w':World} (hb:Below w.heap.size w w') (hd:w.drawn≤w'.drawn):∃ q os,w'=grow (w.drewN q) os:=by
 obtain ⟨ho,ht,hp,hs,hk⟩:=hb
 refine ⟨w'.drawn-w.drawn,w'.heap.extract w.heap.size w'.heap.size,?_⟩
 have hh:w'.heap=w.heap++w'.heap.extract w.heap.size w'.heap.size:=by
  apply Array.ext'
  rw [Array.toList_append,Array.toList_extract]
  apply List.ext_getElem?
  intro i
  by_cases hi:i<w.heap.size
  ·rw [List.getElem?_append_left (by simpa using hi)]
   have:=hk i hi
   simpa using this
  ·rw [List.getElem?_append_right (by simp;omega)]
   simp only [Array.length_toList,List.extract_eq_take_drop]
   rw [List.getElem?_take]
   by_cases h2:i<w'.heap.size
   ·rw [if_pos (by omega),List.getElem?_drop]
    congr 1
    omega
   ·rw [if_neg (by omega)]
    rw [List.getElem?_eq_none (by simp;omega)]
 cases w;cases w'
 simp only [grow,World.drewN] at *
 subst ho ht hp
 simp only [World.mk.injEq,and_self,and_true,true_and]
 exact ⟨hh,by omega⟩
theorem calls_grown {P:Program} {f:FuncId} {args:Array Value} {w:World} {R:Ending→World→Prop} (h:Calls P f args w R) (hR:∀ e w',R e w'→(∃ v,e=.returned v)∧Below w.heap.size w w') :
  Calls P f args w fun e w'=>R e w'∧∃ q os,w'=grow (w.drewN q) os:=
 (calls_drawn h).mono fun e w' ⟨hr,hd⟩=>⟨hr,by
  obtain ⟨⟨v,rfl⟩,hb⟩:=hR e w' hr
  exact grown_of_below hb (hd (by simp))⟩
end Go.Proofs.YtgohnjdgoglcfaaGreatDoor
namespace Go.Proofs.YtgohnjdgoglcfaaGreatDoor
open Go.RowKit Go.Shelf Go.Sort Go.Lib
open Go.Lib (decDigits itoa nDigits)
def HoldQ (w:World) (g:Nat) (L:List QP):Prop:=∀ i,i<L.length →
 w.cell? ⟨g,i*2,none⟩=some (.string (tx (pt L i).1))∧w.cell? ⟨g,i*2+1,none⟩=some (.string (tx (pt L i).2))∧w.frozen? ⟨g,i*2,none⟩=false∧w.frozen? ⟨g,i*2+1,none⟩=false
abbrev PQ:={ p:QP // Sz2 1000000 p }
theorem sz_zero:Sz2 1000000 ((0:Rat),(0:Rat)):=⟨by show (tx 0).size≤_;rw [tx0];decide,by show (tx 0).size≤_;rw [tx0];decide⟩
instance:Inhabited PQ:=⟨⟨(0,0),sz_zero⟩⟩
def encQ (x:PQ):List Value:=[.string (tx x.1.1),.string (tx x.1.2)]
def cfQ (x y:PQ):Int:=lexI x.1 y.1
theorem ltQ (x y:PQ):ltOf cfQ x y=decide (lexI x.1 y.1<0):=rfl
theorem swoQ:SWO (ltOf cfQ) where
 irrefl x:=decide_eq_false (fun h=>lssP_irrefl (lexI_neg.1 h))
 trans x y z h1 h2:=by rw [ltQ] at *; simp only [lexI_neg,decide_eq_true_eq] at *; exact lssP_trans h1 h2
 ntrans x y z h1 h2:=by
  rw [ltQ] at *
  simp only [lexI_neg,decide_eq_false_iff_not] at *
  intro h
  rcases (show x.1=y.1∨x.1≠y.1 from Classical.em _) with e | e
  ·rw [←e] at h2;exact h2 h
  ·rcases lssP_total e with h3 | h3
   ·exact h1 h3
   ·exact h2 (lssP_trans h3 h)
theorem attach_exists:∀ L:List QP,(∀ p∈L,Sz2 1000000 p)→∃ D:List PQ,D.map (·.1)=L
 | [],_=>⟨[],rfl⟩
 | p :: L,h=>by
  obtain ⟨D,hD⟩:=attach_exists L (fun q hq=>h q (List.mem_cons_of_mem _ hq))
  exact ⟨⟨p,h p (List.mem_cons_self ..)⟩ :: D,by simp [hD]⟩
theorem pt_val {D:List PQ} {i:Nat} (h:i<D.length):pt (D.map (·.1)) i=(D[i]!).1:=by
 rw [pt_eq (by simpa using h),List.getElem_map,getElem!_pos D i h]
theorem holdQ_toK {w:World} {g:Nat} {D:List PQ} (h:HoldQ w g (D.map (·.1))):HoldsK encQ 2 w g 0 D.toArray:=by
 intro j hj
 rw [size_flatK] at hj
 have hj':j<D.length*2:=by simpa using hj
 have hi:j/2<D.length:=by omega
 obtain ⟨h1,h2,h3,h4⟩:=h (j/2) (by simpa using hi)
 rw [get_flatK _ _ _ _ hj,Nat.zero_add]
 have e:D.toArray[j/2]! = D[j/2]!:=by simp
 rw [e]
 rw [pt_val hi] at h1 h2
 rcases Nat.mod_two_eq_zero_or_one j with hm | hm
 ·rw [hm]
  rw [show j/2*2=j by omega] at h1 h3
  exact ⟨h1,h3⟩
 ·rw [hm]
  rw [show j/2*2+1=j by omega] at h2 h4
  exact ⟨h2,h4⟩
theorem holdQ_ofK {w:World} {g:Nat} {d:Array PQ} (h:HoldsK encQ 2 w g 0 d):HoldQ w g (d.toList.map (·.1)):=by
 intro i hi
 have hi':i<d.size:=by simpa using hi
 have h0:=h.cell hi' (show 0<2 by decide)
 have h1:=h.cell hi' (show 1<2 by decide)
 have e:pt (d.toList.map (·.1)) i=(d[i]!).1:=by
  have hl:i<d.toList.length:=by simpa using hi'
  rw [pt_val hl,getElem!_pos d.toList i hl,getElem!_pos d i hi',Array.getElem_toList]
 rw [e]
 rw [Nat.zero_add] at h0 h1
 exact ⟨h0.1,h1.1,h0.2,h1.2⟩
theorem holdQ_pts {w:World} {g n cap:Nat} {L:List QP} (h:HoldQ w g L) (hn:n=L.length) (hc:n≤cap) (hm:cap≤maxLen) (hg:g<w.heap.size):Pts w (.slice (some ⟨g,0,none⟩) n cap) L:=by
 subst hn
 refine ⟨_,cap,by rw [List.length_map],by rw [List.length_map];exact hc,hm,fun _=>⟨g,0,rfl,hg,fun i hi=>?_⟩⟩
 have hi':i<L.length:=by simpa using hi
 obtain ⟨h1,h2,_,_⟩:=h i hi'
 rw [pt_eq hi'] at h1 h2
 rw [Nat.zero_add]
 simp only [List.getElem_map,textP]
 exact ⟨h1,h2⟩
theorem owns_row_cells {w:World} {base:Nat} {e:TypeId} {v:Value} {n:Nat} {xs:List Value} {g cap:Nat} (h:w.ownsRow base e 2 v n xs) (hv:v=.slice (some ⟨g,0,none⟩) n cap) {j:Nat} {u:Value} (hj:xs[j]?=some u):w.cell? ⟨g,j,none⟩=some u∧w.frozen? ⟨g,j,none⟩=false∧g<w.heap.size∧base≤g∧n≤cap∧cap≤maxLen:=by
 obtain ⟨hl,h | ⟨g',cap',cur,hv',hb,hg,hn,hm,hs,ht⟩⟩:=h
 ·obtain ⟨rfl,rfl⟩:=h
  simp at hl
  subst hl
  simp at hj
 ·rw [hv] at hv'
  simp only [Value.slice.injEq,Option.some.injEq,Addr.mk.injEq,and_true,true_and] at hv'
  obtain ⟨rfl,rfl⟩:=hv'
  have hc:cur[j]?=some u:=by
   rw [←ht] at hj
   rw [List.getElem?_take] at hj
   split at hj
   ·simpa using hj
   ·simp at hj
  refine ⟨by simp [World.cell?,hg,hc],by simp [World.frozen?,hg],lt_of_some hg,hb,hn,hm⟩
theorem holdQ_owns {w:World} {base g n cap:Nat} {L:List QP} (h:w.ownsRow base 31 2 (.slice (some ⟨g,0,none⟩) n cap) n (cellsS (L.map textP))):HoldQ w g L:=by
 intro i hi
 have hi':i<(L.map textP).length:=by simpa using hi
 have g0:=cellsS_get (L.map textP) i hi' 0 (by decide)
 have g1:=cellsS_get (L.map textP) i hi' 1 (by decide)
 obtain ⟨a1,a2,_⟩:=owns_row_cells h rfl g0
 obtain ⟨b1,b2,_⟩:=owns_row_cells h rfl g1
 simp only [List.getElem_cons_zero,List.getElem_cons_succ,List.getElem_map,textP,Nat.add_zero] at a1 a2 b1 b2
 rw [pt_eq hi]
 exact ⟨a1,b1,a2,b2⟩
theorem below_sortWorldK {α:Type} [Inhabited α] (enc:α→List Value) (k:Nat) (w:World) (blk off m:Nat) (dk:Array α) (os:Array Obj) (hblk:blk<w.heap.size):Below blk w (sortWorldK enc k w blk off m dk os):=by
 refine ⟨rfl,rfl,rfl,by simp [sortWorldK,grow,putRowK,putRow,mapBlock,Sort.ahead],fun j hj=>?_⟩
 show ((w.heap.modify blk _)++os)[j]?=_
 rw [Array.getElem?_append_left (by rw [Array.size_modify];omega),Array.getElem?_modify,if_neg (by omega)]
theorem sort_pts (g cap:Nat) (L:List QP) (hz:∀ p∈L,Sz2 1000000 p) (w:World) (hw:Good w) (hb1:6≤g) (hg:g<w.heap.size) (hH:HoldQ w g L) (hsz:L.length≤1000000) :
  Calls Tryz.prog 54 #[.slice (some ⟨g,0,none⟩) L.length cap,.func (.func 55) #[] #[]] w fun e w' =>
   e=.returned (.tuple #[])∧∃ M:List QP,M.Perm L∧(∀ i j,i<j→j<M.length→¬ lssP (pt M j) (pt M i))∧HoldQ w' g M∧Below g w w':=by
 obtain ⟨D,rfl⟩:=attach_exists L hz
 have eg:∀ args w,(callFunc 55 args).run Tryz.prog w=.ok (.enter 55 args) w:=enters_of Tryz.func55 (by kernel_rfl) rfl
 have hcmp:CmpLays Tryz.prog 55 #[] encQ 2 cfQ g 0 D.toArray.size w:=by
  intro m os dk hdk x y
  have hgd:Good (sortWorldK encQ 2 w g 0 m dk os):=hw.mono (below_sortWorldK encQ 2 w g 0 m dk os hg) hb1
  exact (calls_grown (pg_less x.1 y.1 x.2 y.2 _ hgd) (fun e w' h=>⟨⟨_,h.1⟩,h.2⟩)).mono fun e w' h=>⟨h.1.1,h.2⟩
 have hK:=holdQ_toK hH
 have hcon:=AnyQ.slices_SortFunc sortPt 2 Tryz.isAgg31 Tryz.sizeOf31 encQ (fun _=>rfl) (fun x v hv=>by simp [encQ] at hv;rcases hv with rfl | rfl <;> rfl) cfQ swoQ 55 #[] g 0 cap D.toArray w eg hcmp hK hg (by simp at hsz ⊢; omega)
 rw [show D.toArray.size=(D.map (·.1)).length by simp] at hcon
 refine Calls.mono hcon ?_
 rintro e w' ⟨he,d',n,os,hp,hs,rfl⟩
 have hps:d'.size=D.length:=by have:=hp.1;simpa using this
 refine ⟨he,d'.toList.map (·.1),?_,?_,holdQ_ofK (holdsK_sortWorldK encQ 2 w g 0 n D.toArray d' os hg hK hp.1),below_sortWorldK encQ 2 w g 0 n d' os hg⟩
 ·have h3:=hp.2.2
  have e1:(d'.extract 0 D.length)=d':=by rw [←hps];simp
  have e2:(D.toArray.extract 0 D.length)=D.toArray:=by simp
  simp only [List.length_map] at h3
  rw [e1,e2] at h3
  simpa using h3.map (·.1)
 ·intro i j hij hj
  have hj':j<d'.toList.length:=by simpa using hj
  have h4:=hs i j (Nat.zero_le _) hij (by simp;rw [←hps];simpa using hj)
  rw [ltQ] at h4
  have h5:=of_decide_eq_false h4
  rw [lexI_neg] at h5
  have hi':i<d'.toList.length:=by omega
  rw [pt_val hj',pt_val hi',getElem!_pos d'.toList j hj',getElem!_pos d'.toList i hi',Array.getElem_toList,Array.getElem_toList]
  rw [getElem!_pos d' j (by simpa using hj'),getElem!_pos d' i (by simpa using hi')] at h5
  exact h5
theorem rev_pts (g cap:Nat) (L:List QP) (hz:∀ p∈L,Sz2 1000000 p) (w:World) (hg:g<w.heap.size) (hH:HoldQ w g L) (hsz:L.length≤1000000) :
  Calls Tryz.prog 58 #[.slice (some ⟨g,0,none⟩) L.length cap] w fun e w'=>e=.returned (.tuple #[])∧HoldQ w' g L.reverse∧(∀ k,k≠g→w'.heap[k]?=w.heap[k]?)∧Below g w w':=by
 obtain ⟨D,rfl⟩:=attach_exists L hz
 have hK:=holdQ_toK hH
 have hcon:=AnyQ.slices_Reverse revPt 2 Tryz.isAgg31 Tryz.sizeOf31 encQ (fun _=>rfl) (fun x v hv=>by simp [encQ] at hv;rcases hv with rfl | rfl <;> rfl) g 0 cap D.toArray w hK (by simp at hsz ⊢; omega)
 rw [show D.toArray.size=(D.map (·.1)).length by simp] at hcon
 refine Calls.mono hcon ?_
 rintro e w' ⟨he,n,rfl⟩
 have hK2:HoldsK encQ 2 (putRowK encQ 2 (Sort.ahead w n) g 0 D.toArray.reverse) g 0 D.toArray.reverse:=holdsK_putRowK encQ 2 (Sort.ahead w n) g 0 D.toArray _ (holdsK_ahead encQ 2 w n g 0 _ hK) (by simp)
 refine ⟨he,?_,?_,?_⟩
 ·have:=holdQ_ofK hK2
  simpa using this
 ·intro k hk
  show (w.heap.modify g _)[k]?=_
  rw [Array.getElem?_modify,if_neg (by omega)]
 ·have:=below_sortWorldK encQ 2 w g 0 n D.toArray.reverse #[] hg
  refine ⟨this.os,this.tape,this.output,?_,fun j hj=>?_⟩
  ·simp [putRowK,putRow,mapBlock,Sort.ahead]
  ·show (w.heap.modify g _)[j]?=_
   rw [Array.getElem?_modify,if_neg (by omega)]
theorem clone_pts (b off c:Nat) (L:List QP) (w:World) (hlen:L.length≤1000000)
  (hcell:∀ i (h:i<(L.map textP).length),w.cell? ⟨b,off+i*2,none⟩=some (.string (L.map textP)[i].1)∧w.cell? ⟨b,off+i*2+1,none⟩=some (.string (L.map textP)[i].2)) :
  Calls Tryz.prog 53 #[.slice (some ⟨b,off,none⟩) L.length c] w fun e w'=>∃ g cap,e=.returned (.slice (some ⟨g,0,none⟩) L.length cap)∧L.length≤cap∧cap≤maxLen∧w.heap.size≤g∧g<w'.heap.size∧HoldQ w' g L∧Below w.heap.size w w':=by
 obtain ⟨i0,hi,hz0,hz1,hz2⟩:=info_parts slPt.info
 have hclone:=AnyE.slices_Clone (ρ:=clonePt_ren) clonePt i0 _ 2 32 hi hz0 hz1 hz2 slPt.hzs (by decide) Tryz.sizeOf31 b off L.length c (cellsS (L.map textP)) w (by rw [cellsS_len,List.length_map]) (by unfold maxLen;omega) (by omega) (fun j u hj=>by
  have:=cells_take hcell L.length j u (by rw [List.take_of_length_le (by simp)];exact hj)
  rw [addr_add] at this
  exact this) (cellsS_one _)
 refine Calls.mono hclone ?_
 rintro e w1 ⟨v1,rfl,hown1,hne1,hb1⟩
 rcases hown1.2 with ⟨h,_⟩ | ⟨g,cap,_,rfl,hgb,hgh,hcap,hcm,_⟩
 ·exact (hne1 h).elim
 ·exact ⟨g,cap,rfl,hcap,hcm,(hown1.lt g rfl).1,(hown1.lt g rfl).2,holdQ_owns hown1,hb1⟩
end Go.Proofs.YtgohnjdgoglcfaaGreatDoor
