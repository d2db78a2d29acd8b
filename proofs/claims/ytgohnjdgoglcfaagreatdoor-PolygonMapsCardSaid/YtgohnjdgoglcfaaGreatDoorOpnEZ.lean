import Derived.Test.YtgohnjdgoglcfaaGreatDoorOpnDZ
set_option maxRecDepth 100000
namespace Go.Proofs.YtgohnjdgoglcfaaGreatDoor
open Go.ChangeShapes Go.WideShapes Go.RowKit Go.Deep
section
variable {H:Type} {enc:TypeId × Value→H} {w:World} {spare:Nat→Bool} {held:Bool} {base fuel:Nat} {r:Reach} {b0:Nat}
theorem two_of_trod {e:TypeId} {f0 f1:Field} {u0 u1:Value} {x:DataW H × List MemPlace} (he:Tryz.prog.underlying e=some (.struct #[f0,f1])) (o0:f0.offset=0) (o1:f1.offset=1) (k0:Tryz.prog.cellsOf f0.type=1) (k1:Tryz.prog.cellsOf f1.type=1)
  (h0:Tryz.prog.underlying f0.type=some .string) (h1:Tryz.prog.underlying f1.type=some .string) (hf:DataW.trod enc Tryz.prog w base spare held fuel e [u0,u1]=some x):∃ a b:ByteArray,u0=.string a∧u1=.string b:=by
 obtain ⟨y0,y1,n,_,_,g0,g1⟩:=trod_struct2 he hf
 rw [o0,k0] at g0
 rw [o1,k1] at g1
 simp at g0 g1
 obtain ⟨a,ha,_⟩:=DataW.trod_string h0 g0
 obtain ⟨b,hb,_⟩:=DataW.trod_string h1 g1
 simp only [List.cons.injEq,and_true] at ha hb
 exact ⟨a,b,ha,hb⟩
theorem open_rows {e q:TypeId} {f0 f1:Field} {v:Value} {d:DataW H} {ps:List MemPlace}
  (he:Tryz.prog.underlying e=some (.array 2 q)) (hq:Tryz.prog.underlying q=some (.struct #[f0,f1])) (ce:Tryz.prog.cellsOf e=4) (cq:Tryz.prog.cellsOf q=2) (o0:f0.offset=0) (o1:f1.offset=1) (k0:Tryz.prog.cellsOf f0.type=1) (k1:Tryz.prog.cellsOf f1.type=1)
  (h0:Tryz.prog.underlying f0.type=some .string) (h1:Tryz.prog.underlying f1.type=some .string)
  (hv:Value.okWide Tryz.prog w r b0 e v) (h:DataW.Trod enc Tryz.prog w base spare held e v d ps):∃ a b c g:ByteArray,v=.agg #[.string a,.string b,.string c,.string g]:=by
 simp only [Value.okWide,he] at hv
 obtain ⟨cs,rfl,hsz,_⟩:=hv
 obtain ⟨fuel,hf⟩:=h
 obtain ⟨l⟩:=cs
 have hl:l.length=4:=by rw [ce] at hsz;simpa using hsz
 simp only [Value.cells] at hf
 obtain ⟨xs,k,_,_,_,hxl,hel⟩:=DataW.trod_array he hf
 rw [cq] at hel
 match xs,hxl,l,hl with
 | [y0,y1],_,[u0,u1,u2,u3],_ =>
  have g0:=hel 0 (by omega)
  have g1:=hel 1 (by omega)
  simp at g0 g1
  obtain ⟨a,b,e0,e1⟩:=two_of_trod hq o0 o1 k0 k1 h0 h1 g0
  obtain ⟨c,d,e2,e3⟩:=two_of_trod hq o0 o1 k0 k1 h0 h1 g1
  exact ⟨a,b,c,d,by rw [e0,e1,e2,e3]⟩
end
end Go.Proofs.YtgohnjdgoglcfaaGreatDoor
