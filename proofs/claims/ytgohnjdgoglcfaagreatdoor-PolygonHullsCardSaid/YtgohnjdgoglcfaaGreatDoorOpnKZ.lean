import Derived.Test.YtgohnjdgoglcfaaGreatDoorTxZ
import Derived.Deep.SlicePairs
import Derived.ProofKit
import Derived.WideShapes
namespace Go.Proofs.YtgohnjdgoglcfaaGreatDoor
open Go.ChangeShapes Go.WideShapes Go.RowKit Go.Deep
theorem spot_none {w:World} {a:Addr} {v:Value} (h:w.cell? (a.add 0)=some v):a=⟨a.block,a.off,none⟩:=by
 have h':w.cell? a=some v:=by simpa [Addr.add] using h
 have:=World.cell?_spot h'
 cases a
 simp_all
theorem add_none (b off n:Nat):(⟨b,off,none⟩ : Addr).add n=⟨b,off+n,none⟩:=by
 unfold Addr.add
 split
 ·rename_i h;rw [h];rfl
 ·rfl
set_option maxRecDepth 100000 in
theorem open_pairs {H:Type} {enc:TypeId × Value→H} {w:World} {spare:Nat→Bool} {held:Bool} {base:Nat} {r:Reach} {b0:Nat} {t e:TypeId} {f0 f1:Field} {v:Value} {d:DataW H} {ps:List MemPlace}
  (ht:Tryz.prog.underlying t=some (.slice e)) (he:Tryz.prog.underlying e=some (.struct #[f0,f1])) (ce:Tryz.prog.cellsOf e=2) (o0:f0.offset=0) (o1:f1.offset=1) (c0:Tryz.prog.cellsOf f0.type=1) (c1:Tryz.prog.cellsOf f1.type=1)
  (s0:Tryz.prog.underlying f0.type=some .string) (s1:Tryz.prog.underlying f1.type=some .string)
  (hv:Value.okWide Tryz.prog w r b0 t v) (h:DataW.Trod enc Tryz.prog w base spare held t v d ps):∃ L:List Pair,Pairs w v L:=by
 obtain ⟨a0,len0,cap0,rfl⟩:=okWide_slice ht hv
 obtain ⟨fuel,hf⟩:=h
 rcases open_slice_pairs ht he ce o0 o1 c0 c1 hf with ⟨hcs,_⟩ | ⟨a,len,cap,m,n,V0,V1,D0,D1,P0,P1,hcs,_,hl,hm,hmm,_,hi⟩
 ·simp only [Value.cells,List.cons.injEq,Value.slice.injEq,and_true] at hcs
  obtain ⟨rfl,rfl,rfl⟩:=hcs
  exact ⟨[],none,0,rfl,Nat.zero_le _,Nat.zero_le _,fun h=>absurd h (by simp)⟩
 ·simp only [Value.cells,List.cons.injEq,Value.slice.injEq,and_true] at hcs
  obtain ⟨rfl,rfl,rfl⟩:=hcs
  have hle:len0≤m:=by rw [hmm];split <;> omega
  have hstr:∀ i,i<len0→∃ s:ByteArray × ByteArray,V0 i=.string s.1∧V1 i=.string s.2:=by
   intro i him
   obtain ⟨_,_,h0,h1⟩:=hi i (by omega)
   obtain ⟨x,hx,_⟩:=DataW.trod_string s0 h0
   obtain ⟨y,hy,_⟩:=DataW.trod_string s1 h1
   exact ⟨(x,y),by simpa using hx,by simpa using hy⟩
  obtain ⟨q,hq⟩:=choose_lt hstr
  refine ⟨(List.range len0).map q,some a,cap0,by simp,by simpa using hl,hm,fun h0=>?_⟩
  have h0':0<len0:=by simpa using h0
  have e0:=(hi 0 (by omega)).1
  rw [Nat.zero_mul] at e0
  have ea:=spot_none e0
  refine ⟨a.block,a.off,congrArg some ea,?_,fun i hil=>?_⟩
  ·exact World.block_lt_of_cell? w a (u:=V0 0) (by simpa [Addr.add] using e0)
  ·have hil':i<len0:=by simpa using hil
   obtain ⟨h1,h2,_,_⟩:=hi i (by omega)
   rw [ea,add_none] at h1 h2
   obtain ⟨q1,q2⟩:=hq i hil'
   simp only [List.getElem_map,List.getElem_range]
   refine ⟨?_,?_⟩
   ·rw [h1,q1]
   ·rw [show a.off+i*2+1=a.off+(i*2+1) by omega,h2,q2]
end Go.Proofs.YtgohnjdgoglcfaaGreatDoor
