import Derived.Test.YtgohnjdgoglcfaaGreatDoorOpnKZ
import Derived.Test.YtgohnjdgoglcfaaGreatDoorV1Z
import Derived.OpenShut
import Derived.ChangeSame
import Derived.Deep.Strs
set_option maxRecDepth 100000
namespace Go.Proofs.YtgohnjdgoglcfaaGreatDoor
open Go.ChangeShapes Go.WideShapes Go.RowKit Go.Deep
instance:Inhabited Plc:=⟨⟨0,0,0,0,0,0⟩⟩
section
variable {H:Type} {enc:TypeId × Value→H} {w:World} {spare:Nat→Bool} {held:Bool} {base fuel:Nat}
theorem small_of_trod {t:TypeId} {f0 f1:Field} {c0 c1:Value} {x:DataW H × List MemPlace} (ht:Tryz.prog.underlying t=some (.struct #[f0,f1])) (o0:f0.offset=0) (o1:f1.offset=1) (k0:Tryz.prog.cellsOf f0.type=1) (k1:Tryz.prog.cellsOf f1.type=1)
  (h0:Tryz.prog.underlying f0.type=some (.int .i16)) (h1:Tryz.prog.underlying f1.type=some (.int .u8)) (hf:DataW.trod enc Tryz.prog w base spare held fuel t [c0,c1]=some x):∃ n d:Int,c0=.int .i16 n∧c1=.int .u8 d∧okSm n d:=by
 obtain ⟨y0,y1,n,_,_,g0,g1⟩:=trod_struct2 ht hf
 rw [o0,k0] at g0
 rw [o1,k1] at g1
 simp at g0 g1
 obtain ⟨a,ha,_,hwa⟩:=DataW.trod_int h0 g0
 obtain ⟨b,hb,_,hwb⟩:=DataW.trod_int h1 g1
 simp only [List.cons.injEq,and_true] at ha hb
 have b0:=bounds_i16 hwa
 have b1:=bounds_u8 hwb
 exact ⟨a,b,ha,hb,b0.1,b0.2,b1.1,b1.2⟩
theorem place_of_trod {t q:TypeId} {f0 f1:Field} {cs:List Value} {x:DataW H × List MemPlace} (ht:Tryz.prog.underlying t=some (.array 3 q)) (hq:Tryz.prog.underlying q=some (.struct #[f0,f1])) (cq:Tryz.prog.cellsOf q=2) (o0:f0.offset=0) (o1:f1.offset=1) (k0:Tryz.prog.cellsOf f0.type=1) (k1:Tryz.prog.cellsOf f1.type=1)
  (h0:Tryz.prog.underlying f0.type=some (.int .i16)) (h1:Tryz.prog.underlying f1.type=some (.int .u8)) (hl:cs.length=6) (hf:DataW.trod enc Tryz.prog w base spare held fuel t cs=some x):∃ x:Plc,cs=(plcC x).toList∧okPlc x:=by
 obtain ⟨xs,k,_,_,_,hxl,hel⟩:=DataW.trod_array ht hf
 rw [cq] at hel
 match xs,hxl,cs,hl with
 | [y0,y1,y2],_,[u0,u1,u2,u3,u4,u5],_ =>
  have g0:=hel 0 (by omega)
  have g1:=hel 1 (by omega)
  have g2:=hel 2 (by omega)
  simp at g0 g1 g2
  obtain ⟨a,b,e0,e1,i0⟩:=small_of_trod hq o0 o1 k0 k1 h0 h1 g0
  obtain ⟨c,d,e2,e3,i1⟩:=small_of_trod hq o0 o1 k0 k1 h0 h1 g1
  obtain ⟨e,f,e4,e5,i2⟩:=small_of_trod hq o0 o1 k0 k1 h0 h1 g2
  exact ⟨⟨a,b,c,d,e,f⟩,by rw [e0,e1,e2,e3,e4,e5];rfl,i0,i1,i2⟩
end
section
variable {H:Type} {enc:TypeId × Value→H} {w:World} {spare:Nat→Bool} {held:Bool} {base:Nat} {r:Reach} {b0:Nat}
theorem open_draft {t e q:TypeId} {f0 f1:Field} {v:Value} {d:DataW H} {ps:List MemPlace}
  (ht:Tryz.prog.underlying t=some (.slice e)) (he:Tryz.prog.underlying e=some (.array 3 q)) (hq:Tryz.prog.underlying q=some (.struct #[f0,f1])) (ce:Tryz.prog.cellsOf e=6) (cq:Tryz.prog.cellsOf q=2) (o0:f0.offset=0) (o1:f1.offset=1) (k0:Tryz.prog.cellsOf f0.type=1) (k1:Tryz.prog.cellsOf f1.type=1)
  (h0:Tryz.prog.underlying f0.type=some (.int .i16)) (h1:Tryz.prog.underlying f1.type=some (.int .u8))
  (hv:Value.okWide Tryz.prog w r b0 t v) (h:DataW.Trod enc Tryz.prog w base spare held t v d ps):∃ D:List Plc,Dft w v D:=by
 obtain ⟨a0,len0,cap0,rfl⟩:=okWide_slice ht hv
 obtain ⟨fuel,hf⟩:=h
 rcases open_slice ht hf with ⟨hcs,_⟩ | ⟨a,len,cap,m,n,D,Pl,hcs,_,hl,hm,hmm,_,hi⟩
 ·simp only [Value.cells,List.cons.injEq,Value.slice.injEq,and_true] at hcs
  obtain ⟨rfl,rfl,rfl⟩:=hcs
  exact ⟨[],none,0,rfl,Nat.zero_le _,Nat.zero_le _,fun h=>absurd h (by simp)⟩
 ·simp only [Value.cells,List.cons.injEq,Value.slice.injEq,and_true] at hcs
  obtain ⟨rfl,rfl,rfl⟩:=hcs
  have hle:len0≤m:=by rw [hmm];split <;> omega
  have hint:∀ i,i<len0→∃ x:Plc,okPlc x∧∀ j (hj:j<6),w.cell? (a.add (i*6+j))=some ((plcC x)[j]'hj):=by
   intro i him
   obtain ⟨cs',h1',h2⟩:=hi i (by omega)
   rw [ce] at h1'
   obtain ⟨_,hlen,hcell⟩:=World.cells?_some h1'
   obtain ⟨x,hx,hok⟩:=place_of_trod he hq cq o0 o1 k0 k1 h0 h1 hlen h2
   subst hx
   refine ⟨x,hok,fun j hj=>?_⟩
   have:=hcell j (by simpa [plcC] using hj)
   rw [add_add] at this
   rw [this]
   simp
   exact Array.getElem?_eq_getElem _
  obtain ⟨g,hg⟩:=choose_lt hint
  refine ⟨(List.range len0).map g,some a,cap0,by simp,by simpa using hl,hm,fun h0=>?_⟩
  have h0':0<len0:=by simpa using h0
  have e0:=(hg 0 h0').2 0 (by decide)
  rw [Nat.zero_mul] at e0
  have ea:=spot_none e0
  refine ⟨a.block,a.off,congrArg some ea,?_,fun i hil=>?_⟩
  ·exact World.block_lt_of_cell? w a (by simpa [Addr.add] using e0)
  ·have hil':i<len0:=by simpa using hil
   obtain ⟨q0,q1⟩:=hg i hil'
   simp only [List.getElem_map,List.getElem_range]
   refine ⟨q0,fun j hj=>?_⟩
   have:=q1 j hj
   rw [ea,add_none] at this
   rw [show a.off+i*6+j=a.off+(i*6+j) by omega,this]
   rfl
theorem open_place {e q:TypeId} {f0 f1:Field} {v:Value} {d:DataW H} {ps:List MemPlace}
  (he:Tryz.prog.underlying e=some (.array 3 q)) (hq:Tryz.prog.underlying q=some (.struct #[f0,f1])) (ce:Tryz.prog.cellsOf e=6) (cq:Tryz.prog.cellsOf q=2) (o0:f0.offset=0) (o1:f1.offset=1) (k0:Tryz.prog.cellsOf f0.type=1) (k1:Tryz.prog.cellsOf f1.type=1)
  (h0:Tryz.prog.underlying f0.type=some (.int .i16)) (h1:Tryz.prog.underlying f1.type=some (.int .u8))
  (hv:Value.okWide Tryz.prog w r b0 e v) (h:DataW.Trod enc Tryz.prog w base spare held e v d ps):∃ x:Plc,v=.agg (plcC x)∧okPlc x:=by
 simp only [Value.okWide,he] at hv
 obtain ⟨cs,rfl,hsz,_⟩:=hv
 obtain ⟨fuel,hf⟩:=h
 obtain ⟨x,hx,hok⟩:=place_of_trod he hq cq o0 o1 k0 k1 h0 h1 (by rw [ce] at hsz;simpa [Value.cells] using hsz) hf
 refine ⟨x,?_,hok⟩
 obtain ⟨l⟩:=cs
 have:l=(plcC x).toList:=by simpa [Value.cells] using hx
 rw [this]
theorem open_small {e:TypeId} {f0 f1:Field} {v:Value} {d:DataW H} {ps:List MemPlace}
  (he:Tryz.prog.underlying e=some (.struct #[f0,f1])) (ce:Tryz.prog.cellsOf e=2) (o0:f0.offset=0) (o1:f1.offset=1) (k0:Tryz.prog.cellsOf f0.type=1) (k1:Tryz.prog.cellsOf f1.type=1)
  (h0:Tryz.prog.underlying f0.type=some (.int .i16)) (h1:Tryz.prog.underlying f1.type=some (.int .u8))
  (hv:Value.okWide Tryz.prog w r b0 e v) (h:DataW.Trod enc Tryz.prog w base spare held e v d ps):∃ n d:Int,v=SmV n d∧okSm n d:=by
 simp only [Value.okWide,he] at hv
 obtain ⟨cs,rfl,hsz,_⟩:=hv
 obtain ⟨fuel,hf⟩:=h
 obtain ⟨l⟩:=cs
 have hl:l.length=2:=by rw [ce] at hsz;simpa using hsz
 match l,hl with
 | [u0,u1],_ =>
  simp only [Value.cells] at hf
  obtain ⟨n,d,e0,e1,ok⟩:=small_of_trod he o0 o1 k0 k1 h0 h1 hf
  exact ⟨n,d,by rw [e0,e1];rfl,ok⟩
theorem open_two {e:TypeId} {f0 f1:Field} {v:Value} {d:DataW H} {ps:List MemPlace}
  (he:Tryz.prog.underlying e=some (.struct #[f0,f1])) (ce:Tryz.prog.cellsOf e=2) (o0:f0.offset=0) (o1:f1.offset=1) (k0:Tryz.prog.cellsOf f0.type=1) (k1:Tryz.prog.cellsOf f1.type=1)
  (h0:Tryz.prog.underlying f0.type=some .string) (h1:Tryz.prog.underlying f1.type=some .string)
  (hv:Value.okWide Tryz.prog w r b0 e v) (h:DataW.Trod enc Tryz.prog w base spare held e v d ps):∃ a b:ByteArray,v=.agg #[.string a,.string b]:=by
 simp only [Value.okWide,he] at hv
 obtain ⟨cs,rfl,hsz,_⟩:=hv
 obtain ⟨fuel,hf⟩:=h
 obtain ⟨l⟩:=cs
 have hl:l.length=2:=by rw [ce] at hsz;simpa using hsz
 match l,hl with
 | [u0,u1],_ =>
  obtain ⟨y0,y1,n,_,_,g0,g1⟩:=trod_struct2 he hf
  rw [o0,k0] at g0
  rw [o1,k1] at g1
  simp [Value.cells] at g0 g1
  obtain ⟨a,ha,_⟩:=DataW.trod_string h0 g0
  obtain ⟨b,hb,_⟩:=DataW.trod_string h1 g1
  simp only [List.cons.injEq,and_true] at ha hb
  exact ⟨a,b,by rw [ha,hb]⟩
theorem open_three {e:TypeId} {f0 f1 f2:Field} {v:Value} {d:DataW H} {ps:List MemPlace}
  (he:Tryz.prog.underlying e=some (.struct #[f0,f1,f2])) (ce:Tryz.prog.cellsOf e=3) (o0:f0.offset=0) (o1:f1.offset=1) (o2:f2.offset=2) (k0:Tryz.prog.cellsOf f0.type=1) (k1:Tryz.prog.cellsOf f1.type=1) (k2:Tryz.prog.cellsOf f2.type=1)
  (h0:Tryz.prog.underlying f0.type=some .string) (h1:Tryz.prog.underlying f1.type=some .string) (h2:Tryz.prog.underlying f2.type=some .string)
  (hv:Value.okWide Tryz.prog w r b0 e v) (h:DataW.Trod enc Tryz.prog w base spare held e v d ps):∃ a b c:ByteArray,v=.agg #[.string a,.string b,.string c]:=by
 simp only [Value.okWide,he] at hv
 obtain ⟨cs,rfl,hsz,_⟩:=hv
 obtain ⟨fuel,hf⟩:=h
 obtain ⟨l⟩:=cs
 have hl:l.length=3:=by rw [ce] at hsz;simpa using hsz
 match l,hl with
 | [u0,u1,u2],_ =>
  obtain ⟨y0,y1,y2,n,_,_,g0,g1,g2⟩:=trod_struct3 he hf
  rw [o0,k0] at g0
  rw [o1,k1] at g1
  rw [o2,k2] at g2
  simp [Value.cells] at g0 g1 g2
  obtain ⟨a,ha,_⟩:=DataW.trod_string h0 g0
  obtain ⟨b,hb,_⟩:=DataW.trod_string h1 g1
  obtain ⟨c,hc,_⟩:=DataW.trod_string h2 g2
  simp only [List.cons.injEq,and_true] at ha hb hc
  exact ⟨a,b,c,by rw [ha,hb,hc]⟩
end
end Go.Proofs.YtgohnjdgoglcfaaGreatDoor
