import Derived.Test.YtgohnjdgoglcfaaGreatDoorV1Z
namespace Go.Proofs.YtgohnjdgoglcfaaGreatDoor
open Go.RowKit Go.Shelf
open Go.Lib (decDigits itoa nDigits)
theorem law_fits (v:Value) (D:List Plc) (w:World) (hv:Dft w v D):Calls Tryz.prog 19 #[v] w fun e w'=>e=.returned (.bool (decide (D.length≤8)))∧w=w':=by
 obtain ⟨p,c,rfl,hcl,hcm,_⟩:=hv
 unfold maxLen at hcm
 by_cases h:D.length≤8
 ·rw [decide_eq_true h]
  have q1:decide ((D.length:Int)≤8)=true:=decide_eq_true (by omega)
  go_enter Tryz.func19,Tryz.ntmps19
  go_wp2
  go_ret
  exact ⟨rfl,rfl⟩
 ·rw [decide_eq_false h]
  have q1:decide ((D.length:Int)≤8)=false:=decide_eq_false (by omega)
  go_enter Tryz.func19,Tryz.ntmps19
  go_wp2
  go_ret
  exact ⟨rfl,rfl⟩
end Go.Proofs.YtgohnjdgoglcfaaGreatDoor
