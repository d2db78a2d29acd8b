import Derived.Test.YtogdahbbogimcaaGreatDoorTxZ
import Derived.Deep.SlicePairs
import Derived.ProofKit
import Derived.WideShapes
import Derived.OpenShut
import Derived.ChangeSame
set_option maxRecDepth 100000
namespace Go.Proofs.YtogdahbbogimcaaGreatDoor
open Go.ChangeShapes Go.WideShapes Go.RowKit Go.Deep
theorem spot_none {w:World} {a:Addr} {v:Value} (h:w.cell? (a.add 0)=some v):a=⟨a.block,a.off,none⟩:=by
 have h':w.cell? a=some v:=by simpa [Addr.add] using h
 have:=World.cell?_spot h'
 cases a
 simp_all
theorem add_none (b off n:Nat):(⟨b,off,none⟩ : Addr).add n=⟨b,off+n,none⟩:=by
 unfold Addr.add
 split
 ·rename_i h;rw [h];rfl
 ·rfl
theorem open_pairs {H:Type} {enc:TypeId × Value→H} {w:World} {spare:Nat→Bool} {held:Bool} {base:Nat} {r:Reach} {b0:Nat} {t e:TypeId} {f0 f1:Field} {v:Value} {d:DataW H} {ps:List MemPlace}
  (ht:Tryz.prog.underlying t=some (.slice e)) (he:Tryz.prog.underlying e=some (.struct #[f0,f1])) (ce:Tryz.prog.cellsOf e=2) (o0:f0.offset=0) (o1:f1.offset=1) (c0:Tryz.prog.cellsOf f0.type=1) (c1:Tryz.prog.cellsOf f1.type=1)
  (s0:Tryz.prog.underlying f0.type=some .string) (s1:Tryz.prog.underlying f1.type=some .string)
  (hv:Value.okWide Tryz.prog w r b0 t v) (h:DataW.Trod enc Tryz.prog w base spare held t v d ps):∃ L:List Pair,Pairs w v L:=by
 obtain ⟨a0,len0,cap0,rfl⟩:=okWide_slice ht hv
 obtain ⟨fuel,hf⟩:=h
 rcases open_slice_pairs ht he ce o0 o1 c0 c1 hf with ⟨hcs,_⟩ | ⟨a,len,cap,m,n,V0,V1,D0,D1,P0,P1,hcs,_,hl,hm,hmm,_,hi⟩
 ·simp only [Value.cells,List.cons.injEq,Value.slice.injEq,and_true] at hcs
  obtain ⟨rfl,rfl,rfl⟩:=hcs
  exact ⟨[],none,0,rfl,Nat.zero_le _,Nat.zero_le _,fun h=>absurd h (by simp)⟩
 ·simp only [Value.cells,List.cons.injEq,Value.slice.injEq,and_true] at hcs
  obtain ⟨rfl,rfl,rfl⟩:=hcs
  have hle:len0≤m:=by rw [hmm];split <;> omega
  have hstr:∀ i,i<len0→∃ s:ByteArray × ByteArray,V0 i=.string s.1∧V1 i=.string s.2:=by
   intro i him
   obtain ⟨_,_,h0,h1⟩:=hi i (by omega)
   obtain ⟨x,hx,_⟩:=DataW.trod_string s0 h0
   obtain ⟨y,hy,_⟩:=DataW.trod_string s1 h1
   exact ⟨(x,y),by simpa using hx,by simpa using hy⟩
  obtain ⟨q,hq⟩:=choose_lt hstr
  refine ⟨(List.range len0).map q,some a,cap0,by simp,by simpa using hl,hm,fun h0=>?_⟩
  have h0':0<len0:=by simpa using h0
  have e0:=(hi 0 (by omega)).1
  rw [Nat.zero_mul] at e0
  have ea:=spot_none e0
  refine ⟨a.block,a.off,congrArg some ea,?_,fun i hil=>?_⟩
  ·exact World.block_lt_of_cell? w a (u:=V0 0) (by simpa [Addr.add] using e0)
  ·have hil':i<len0:=by simpa using hil
   obtain ⟨h1,h2,_,_⟩:=hi i (by omega)
   rw [ea,add_none] at h1 h2
   obtain ⟨q1,q2⟩:=hq i hil'
   simp only [List.getElem_map,List.getElem_range]
   refine ⟨?_,?_⟩
   ·rw [h1,q1]
   ·rw [show a.off+i*2+1=a.off+(i*2+1) by omega,h2,q2]
section
variable {H:Type} {enc:TypeId × Value→H} {w:World} {spare:Nat→Bool} {held:Bool} {base fuel:Nat}
theorem duos_of_trod {t e q:TypeId} {u:Value} {x:DataW H × List MemPlace}
  (ht:Tryz.prog.underlying t=some (.slice e)) (he:Tryz.prog.underlying e=some (.array 2 q)) (hq:Tryz.prog.underlying q=some (.int .i8)) (ce:Tryz.prog.cellsOf e=2) (cq:Tryz.prog.cellsOf q=1)
  (hf:DataW.trod enc Tryz.prog w base spare held fuel t [u]=some x):∃ D:List Duo,Duos w u D:=by
 rcases open_slice ht hf with ⟨hcs,_⟩ | ⟨a,len,cap,m,n,D,Pl,hcs,_,hl,hm,hmm,_,hi⟩
 ·simp only [List.cons.injEq,and_true] at hcs
  subst hcs
  exact ⟨[],none,0,rfl,Nat.zero_le _,Nat.zero_le _,fun h=>absurd h (by simp)⟩
 ·simp only [List.cons.injEq,and_true] at hcs
  subst hcs
  have hle:len≤m:=by rw [hmm];split <;> omega
  have hint:∀ i,i<len→∃ d:Duo,okDuo d∧w.cell? (a.add (i*2))=some (.int .i8 d.1)∧w.cell? (a.add (i*2+1))=some (.int .i8 d.2):=by
   intro i him
   obtain ⟨cs',h1,h2⟩:=hi i (by omega)
   rw [ce] at h1
   obtain ⟨_,hlen,hcell⟩:=World.cells?_some h1
   obtain ⟨xs,k,_,_,_,hxl,hel⟩:=DataW.trod_array he h2
   rw [cq] at hel
   match xs,hxl,cs',hlen with
   | [y0,y1],_,[u0,u1],_ =>
    have g0:=hel 0 (by omega)
    have g1:=hel 1 (by omega)
    simp at g0 g1
    obtain ⟨x,hx,_,hwx⟩:=DataW.trod_int hq g0
    obtain ⟨y,hy,_,hwy⟩:=DataW.trod_int hq g1
    simp only [List.cons.injEq,and_true] at hx hy
    have e0:=hcell 0 (by omega)
    have e1:=hcell 1 (by omega)
    rw [add_add] at e0 e1
    have b0:=bounds_i8 hwx
    have b1:=bounds_i8 hwy
    exact ⟨(x,y),⟨b0.1,b0.2,b1.1,b1.2⟩,by simpa [hx] using e0,by simpa [hy] using e1⟩
  obtain ⟨g,hg⟩:=choose_lt hint
  refine ⟨(List.range len).map g,some a,cap,by simp,by simpa using hl,hm,fun h0=>?_⟩
  have h0':0<len:=by simpa using h0
  have e0:=(hg 0 h0').2.1
  rw [Nat.zero_mul] at e0
  have ea:=spot_none e0
  refine ⟨a.block,a.off,congrArg some ea,?_,fun i hil=>?_⟩
  ·exact World.block_lt_of_cell? w a (u:=.int .i8 (g 0).1) (by simpa [Addr.add] using e0)
  ·have hil':i<len:=by simpa using hil
   obtain ⟨q0,q1,q2⟩:=hg i hil'
   rw [ea,add_none] at q1 q2
   simp only [List.getElem_map,List.getElem_range]
   refine ⟨q0,q1,?_⟩
   rw [show a.off+i*2+1=a.off+(i*2+1) by omega,q2]
end
theorem open_plan {H:Type} {enc:TypeId × Value→H} {w:World} {spare:Nat→Bool} {held:Bool} {base:Nat} {r:Reach} {b0:Nat} {t e q:TypeId} {f0 f1:Field} {v:Value} {d:DataW H} {ps:List MemPlace}
  (ht:Tryz.prog.underlying t=some (.struct #[f0,f1])) (ct:Tryz.prog.cellsOf t=3) (o0:f0.offset=0) (o1:f1.offset=2) (c0:Tryz.prog.cellsOf f0.type=2) (c1:Tryz.prog.cellsOf f1.type=1)
  (h0:Tryz.prog.underlying f0.type=some (.array 2 q)) (h1:Tryz.prog.underlying f1.type=some (.slice e)) (he:Tryz.prog.underlying e=some (.array 2 q)) (hq:Tryz.prog.underlying q=some (.int .i8)) (ce:Tryz.prog.cellsOf e=2) (cq:Tryz.prog.cellsOf q=1)
  (hv:Value.okWide Tryz.prog w r b0 t v) (h:DataW.Trod enc Tryz.prog w base spare held t v d ps):∃ (a b:Int) (u:Value) (D:List Duo),v=.agg #[.int .i8 a,.int .i8 b,u]∧okDuo (a,b)∧Duos w u D:=by
 simp only [Value.okWide,ht] at hv
 obtain ⟨cs,rfl,hsz,_⟩:=hv
 obtain ⟨fuel,hf⟩:=h
 obtain ⟨y0,y1,n,_,_,g0,g1⟩:=trod_struct2 ht hf
 rw [o0,c0] at g0
 rw [o1,c1] at g1
 obtain ⟨l⟩:=cs
 have hl:l.length=3:=by rw [ct] at hsz;simpa using hsz
 match l,hl with
 | [u0,u1,u2],_ =>
  simp [Value.cells] at g0 g1
  obtain ⟨D,hD⟩:=duos_of_trod h1 he hq ce cq g1
  obtain ⟨xs,k,_,_,_,hxl,hel⟩:=DataW.trod_array h0 g0
  rw [cq] at hel
  match xs,hxl with
  | [z0,z1],_ =>
   have k0:=hel 0 (by omega)
   have k1:=hel 1 (by omega)
   simp at k0 k1
   obtain ⟨x,hx,_,hwx⟩:=DataW.trod_int hq k0
   obtain ⟨y,hy,_,hwy⟩:=DataW.trod_int hq k1
   simp only [List.cons.injEq,and_true] at hx hy
   have b0:=bounds_i8 hwx
   have b1:=bounds_i8 hwy
   exact ⟨x,y,u2,D,by rw [hx,hy],⟨b0.1,b0.2,b1.1,b1.2⟩,hD⟩
theorem open_pair2 {H:Type} {enc:TypeId × Value→H} {w:World} {spare:Nat→Bool} {held:Bool} {base:Nat} {r:Reach} {b0:Nat} {e q:TypeId} {v:Value} {d:DataW H} {ps:List MemPlace}
  (he:Tryz.prog.underlying e=some (.array 2 q)) (hq:Tryz.prog.underlying q=some (.int .i8)) (ce:Tryz.prog.cellsOf e=2) (cq:Tryz.prog.cellsOf q=1)
  (hv:Value.okWide Tryz.prog w r b0 e v) (h:DataW.Trod enc Tryz.prog w base spare held e v d ps):∃ a b:Int,v=.agg #[.int .i8 a,.int .i8 b]∧(-128≤a∧a≤127)∧(-128≤b∧b≤127):=by
 simp only [Value.okWide,he] at hv
 obtain ⟨cs,rfl,hsz,_⟩:=hv
 obtain ⟨fuel,hf⟩:=h
 obtain ⟨xs,k,_,_,_,hxl,hel⟩:=DataW.trod_array he hf
 rw [cq] at hel
 obtain ⟨l⟩:=cs
 have hl:l.length=2:=by rw [ce] at hsz;simpa using hsz
 match xs,hxl,l,hl with
 | [y0,y1],_,[u0,u1],_ =>
  have g0:=hel 0 (by omega)
  have g1:=hel 1 (by omega)
  simp [Value.cells] at g0 g1
  obtain ⟨x,hx,_,hwx⟩:=DataW.trod_int hq g0
  obtain ⟨y,hy,_,hwy⟩:=DataW.trod_int hq g1
  simp only [List.cons.injEq,and_true] at hx hy
  exact ⟨x,y,by rw [hx,hy],bounds_i8 hwx,bounds_i8 hwy⟩
end Go.Proofs.YtogdahbbogimcaaGreatDoor
