import Derived.Test.YtgohnjdgoglcfaaGreatDoorTxZ
namespace Go.Proofs.YtgohnjdgoglcfaaGreatDoor
open Go.RowKit
theorem blk_cell {W:World} {B i:Nat} {cs:Array Value} {t:TypeId} {fz:Nat × Nat} {v:Value} (h:W.heap[B]?=some (.cells cs t fz)) (hi:cs[i]?=some v):W.cell? ⟨B,i,none⟩=some v:=by
 simp [World.cell?,h,hi]
theorem box_any {w wA:World} {cs:Array Value} {t:TypeId} (hwA:wA=w.alloc (Obj.cells cs t)):Below w.heap.size w wA∧wA.heap[w.heap.size]?=some (.cells cs t (0,0)):=by
 rw [hwA]
 exact ⟨alloc_below _ _,World.alloc_heap_new _ _⟩
end Go.Proofs.YtgohnjdgoglcfaaGreatDoor
