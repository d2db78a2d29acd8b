import Derived.Test.YtglncfkoohgdaaaGreatDoorTxR
import Derived.Deep.SlicePairs
import Derived.ProofKit
import Derived.WideShapes
import Derived.Test.YtglncfkoohgdaaaGreatDoorG44R
import Derived.Deep.Slices
import Derived.OpenShut
import Derived.ChangeSame
import Derived.Deep.Strs
import Derived.Laws.IdiomArrays
set_option maxRecDepth 100000
set_option maxHeartbeats 1000000
namespace Go.Proofs.YtglncfkoohgdaaaGreatDoor
open Go.ChangeShapes Go.WideShapes Go.RowKit Go.Deep
theorem RG {w:World} {a:Addr} {v:Value} (h:w.cell? (a.add 0)=some v):a=⟨a.block,a.off,none⟩:=by
 have h':w.cell? a=some v:=by simpa [Addr.add] using h
 have:=World.cell?_spot h'
 cases a
 simp_all
theorem YG (b off n:Nat):(⟨b,off,none⟩ : Addr).add n=⟨b,off+n,none⟩:=by
 unfold Addr.add
 split
 ·rename_i h;rw [h];rfl
 ·rfl
instance:Inhabited Bt:=⟨⟨0,0,0⟩⟩
section
variable {H:Type} {enc:TypeId × Value→H} {w:World} {spare:Nat→Bool} {held:Bool} {base fuel:Nat}
theorem gM {t:TypeId} {c:Value} {x:DataW H × List MemPlace} (ht:Tryz.prog.underlying t=some (.int .u8)) (hf:DataW.trod enc Tryz.prog w base spare held fuel t [c]=some x):∃ n:Nat,c=.int .u8 (n:Int)∧n<256:=by
 obtain ⟨a,ha,_,hwa⟩:=DataW.trod_int ht hf
 simp only [List.cons.injEq,and_true] at ha
 have b:=bounds_u8 hwa
 exact ⟨a.toNat,by rw [ha,Int.toNat_of_nonneg b.1],by omega⟩
theorem qj {t:TypeId} {c:Value} {x:DataW H × List MemPlace} (ht:Tryz.prog.underlying t=some (.int .i8)) (hf:DataW.trod enc Tryz.prog w base spare held fuel t [c]=some x):∃ n:Int,c=.int .i8 n ∧ -128≤n∧n≤127:=by
 obtain ⟨a,ha,_,hwa⟩:=DataW.trod_int ht hf
 simp only [List.cons.injEq,and_true] at ha
 have b:=bounds_i8 hwa
 exact ⟨a,ha,b.1,b.2⟩
theorem Lm {t:TypeId} {f0 f1 f2:Field} {cs:List Value} {x:DataW H × List MemPlace} (ht:Tryz.prog.underlying t=some (.struct #[f0,f1,f2])) (o0:f0.offset=0) (o1:f1.offset=1) (o2:f2.offset=2) (k0:Tryz.prog.cellsOf f0.type=1) (k1:Tryz.prog.cellsOf f1.type=1) (k2:Tryz.prog.cellsOf f2.type=1)
  (h0:Tryz.prog.underlying f0.type=some (.int .u8)) (h1:Tryz.prog.underlying f1.type=some (.int .u8)) (h2:Tryz.prog.underlying f2.type=some (.int .u8)) (hl:cs.length=3) (hf:DataW.trod enc Tryz.prog w base spare held fuel t cs=some x) :
  ∃ b:Bt,cs=[.int .u8 (b.g:Int),.int .u8 (b.t:Int),.int .u8 (b.u:Int)]∧b.g<256∧b.t<256∧b.u<256:=by
 obtain ⟨y0,y1,y2,n,_,_,g0,g1,g2⟩:=trod_struct3 ht hf
 rw [o0,k0] at g0
 rw [o1,k1] at g1
 rw [o2,k2] at g2
 match cs,hl with
 | [u0,u1,u2],_ =>
  simp at g0 g1 g2
  obtain ⟨a,rfl,ha⟩:=gM h0 g0
  obtain ⟨b,rfl,hb⟩:=gM h1 g1
  obtain ⟨c,rfl,hc⟩:=gM h2 g2
  exact ⟨⟨a,b,c⟩,rfl,ha,hb,hc⟩
theorem lG {t e:TypeId} {f0 f1 f2:Field} {u:Value} {x:DataW H × List MemPlace} (ht:Tryz.prog.underlying t=some (.slice e)) (he:Tryz.prog.underlying e=some (.struct #[f0,f1,f2])) (ce:Tryz.prog.cellsOf e=3)
  (o0:f0.offset=0) (o1:f1.offset=1) (o2:f2.offset=2) (k0:Tryz.prog.cellsOf f0.type=1) (k1:Tryz.prog.cellsOf f1.type=1) (k2:Tryz.prog.cellsOf f2.type=1)
  (h0:Tryz.prog.underlying f0.type=some (.int .u8)) (h1:Tryz.prog.underlying f1.type=some (.int .u8)) (h2:Tryz.prog.underlying f2.type=some (.int .u8)) (hf:DataW.trod enc Tryz.prog w base spare held fuel t [u]=some x):∃ L:List Bt,Y4 w u L:=by
 rcases open_slice ht hf with ⟨hcs,_⟩ | ⟨a,len,cap,m,n,D,Pl,hcs,_,hl,hm,hmm,_,hi⟩
 ·simp only [List.cons.injEq,and_true] at hcs
  subst hcs
  exact ⟨[],⟨none,0,rfl,Nat.zero_le _,Nat.zero_le _,fun h=>absurd h (by simp)⟩,fun i hi=>absurd hi (by simp)⟩
 ·simp only [List.cons.injEq,and_true] at hcs
  subst hcs
  have hle:len≤m:=by rw [hmm];split <;> omega
  have hint:∀ i,i<len→∃ b:Bt,(b.g<256∧b.t<256∧b.u<256)∧w.cell? (a.add (i*3))=some (.int .u8 (b.g:Int))∧w.cell? (a.add (i*3+1))=some (.int .u8 (b.t:Int))∧w.cell? (a.add (i*3+2))=some (.int .u8 (b.u:Int)):=by
   intro i him
   obtain ⟨cs',j1,j2⟩:=hi i (by omega)
   rw [ce] at j1
   obtain ⟨_,hlen,hcell⟩:=World.cells?_some j1
   obtain ⟨b,hb,hok⟩:=Lm he o0 o1 o2 k0 k1 k2 h0 h1 h2 hlen j2
   subst hb
   have e0:=hcell 0 (by simp)
   have e1:=hcell 1 (by simp)
   have e2:=hcell 2 (by simp)
   rw [add_add] at e0 e1 e2
   exact ⟨b,hok,by simpa using e0,by simpa using e1,by simpa using e2⟩
  obtain ⟨g,hg⟩:=choose_lt hint
  have hat:∀ i,i<len→jN ((List.range len).map g) i=g i:=fun i hi'=>by
   unfold jN
   rw [List.getD_eq_getElem?_getD,List.getElem?_map,List.getElem?_range hi']
   rfl
  refine ⟨(List.range len).map g,⟨some a,cap,by simp,by simpa using hl,hm,fun hp=>?_⟩,fun i hi'=>?_⟩
  ·have h0':0<len:=by simpa using hp
   have e0:=(hg 0 h0').2.1
   rw [Nat.zero_mul] at e0
   have ea:=RG e0
   refine ⟨a.block,a.off,congrArg some ea,?_,fun i hil=>?_⟩
   ·exact World.block_lt_of_cell? w a (u:=.int .u8 ((g 0).g:Int)) (by simpa [Addr.add] using e0)
   ·have YH:i<len:=by simpa using hil
    rw [hat i YH]
    obtain ⟨_,q0,q1,q2⟩:=hg i YH
    rw [ea,YG] at q0 q1 q2
    exact ⟨q0,by rw [show a.off+i*3+1=a.off+(i*3+1) by omega];exact q1,by rw [show a.off+i*3+2=a.off+(i*3+2) by omega];exact q2⟩
  ·have YH:i<len:=by simpa using hi'
   rw [hat i YH]
   exact (hg i YH).1
theorem Lp {t q:TypeId} {c0 c1 c2 c3:Value} {x:DataW H × List MemPlace} (ht:Tryz.prog.underlying t=some (.array 4 q)) (cq:Tryz.prog.cellsOf q=1) (hq:Tryz.prog.underlying q=some (.int .u8)) (hf:DataW.trod enc Tryz.prog w base spare held fuel t [c0,c1,c2,c3]=some x) :
  ∃ g:Nat→Nat,c0=.int .u8 (g 0:Int)∧c1=.int .u8 (g 1:Int)∧c2=.int .u8 (g 2:Int)∧c3=.int .u8 (g 3:Int)∧∀ i,i<4→g i<256:=by
 obtain ⟨y0,y1,y2,y3,n,_,g0,g1,g2,g3⟩:=trod_array4 ht cq hf
 obtain ⟨a,rfl,ha⟩:=gM hq g0
 obtain ⟨b,rfl,hb⟩:=gM hq g1
 obtain ⟨c,rfl,hc⟩:=gM hq g2
 obtain ⟨d,rfl,hd⟩:=gM hq g3
 exact ⟨fun i=>if i=0 then a else if i=1 then b else if i=2 then c else d,rfl,rfl,rfl,rfl,mr ha hb hc hd⟩
theorem YI {t q:TypeId} {c0 c1 c2 c3:Value} {x:DataW H × List MemPlace} (ht:Tryz.prog.underlying t=some (.array 4 q)) (cq:Tryz.prog.cellsOf q=1) (hq:Tryz.prog.underlying q=some (.int .i8)) (hf:DataW.trod enc Tryz.prog w base spare held fuel t [c0,c1,c2,c3]=some x) :
  ∃ g:Nat→Int,c0=.int .i8 (g 0)∧c1=.int .i8 (g 1)∧c2=.int .i8 (g 2)∧c3=.int .i8 (g 3)∧∀ i,i<4 → -128≤g i∧g i≤127:=by
 obtain ⟨y0,y1,y2,y3,n,_,g0,g1,g2,g3⟩:=trod_array4 ht cq hf
 obtain ⟨a,rfl,ha⟩:=qj hq g0
 obtain ⟨b,rfl,hb⟩:=qj hq g1
 obtain ⟨c,rfl,hc⟩:=qj hq g2
 obtain ⟨d,rfl,hd⟩:=qj hq g3
 exact ⟨fun i=>if i=0 then a else if i=1 then b else if i=2 then c else d,rfl,rfl,rfl,rfl,mr ha hb hc hd⟩
end
section
variable {H:Type} {enc:TypeId × Value→H} {w:World} {spare:Nat→Bool} {held:Bool} {base:Nat} {r:Reach} {b0:Nat}
theorem Lr {t tl tb q8 qi:TypeId} {f0 f1 f2 f3 f4 e0 e1 e2:Field} {v:Value} {d:DataW H} {ps:List MemPlace}
  (ht:Tryz.prog.underlying t=some (.struct #[f0,f1,f2,f3,f4])) (ct:Tryz.prog.cellsOf t=17) (o0:f0.offset=0) (o1:f1.offset=4) (o2:f2.offset=5) (o3:f3.offset=9) (o4:f4.offset=13)
  (c0:Tryz.prog.cellsOf f0.type=4) (c1:Tryz.prog.cellsOf f1.type=1) (c2:Tryz.prog.cellsOf f2.type=4) (c3:Tryz.prog.cellsOf f3.type=4) (c4:Tryz.prog.cellsOf f4.type=4)
  (h0:Tryz.prog.underlying f0.type=some (.array 4 tl)) (cl:Tryz.prog.cellsOf tl=1) (h1:Tryz.prog.underlying f1.type=some (.int .u8)) (h2:Tryz.prog.underlying f2.type=some (.array 4 q8)) (h3:Tryz.prog.underlying f3.type=some (.array 4 qi)) (h4:Tryz.prog.underlying f4.type=some (.array 4 q8))
  (cq8:Tryz.prog.cellsOf q8=1) (hq8:Tryz.prog.underlying q8=some (.int .u8)) (cqi:Tryz.prog.cellsOf qi=1) (hqi:Tryz.prog.underlying qi=some (.int .i8))
  (hl:Tryz.prog.underlying tl=some (.slice tb)) (hb:Tryz.prog.underlying tb=some (.struct #[e0,e1,e2])) (cb:Tryz.prog.cellsOf tb=3)
  (p0:e0.offset=0) (p1:e1.offset=1) (p2:e2.offset=2) (k0:Tryz.prog.cellsOf e0.type=1) (k1:Tryz.prog.cellsOf e1.type=1) (k2:Tryz.prog.cellsOf e2.type=1)
  (j0:Tryz.prog.underlying e0.type=some (.int .u8)) (j1:Tryz.prog.underlying e1.type=some (.int .u8)) (j2:Tryz.prog.underlying e2.type=some (.int .u8))
  (hv:Value.okWide Tryz.prog w r b0 t v) (h:DataW.Trod enc Tryz.prog w base spare held t v d ps):∃ (s:Nat→Value) (D:dD),v=.agg (EB s D)∧DN w s D:=by
 simp only [Value.okWide,ht] at hv
 obtain ⟨cs,rfl,hsz,_⟩:=hv
 obtain ⟨fuel,hf⟩:=h
 obtain ⟨xs,n,_,_,_,hlen,hF⟩:=DataW.trod_struct ht hf
 match xs,hlen with
 | [y0,y1,y2,y3,y4],_ =>
  have g0:=hF 0 f0 rfl
  have g1:=hF 1 f1 rfl
  have g2:=hF 2 f2 rfl
  have g3:=hF 3 f3 rfl
  have g4:=hF 4 f4 rfl
  rw [o0,c0] at g0
  rw [o1,c1] at g1
  rw [o2,c2] at g2
  rw [o3,c3] at g3
  rw [o4,c4] at g4
  obtain ⟨l⟩:=cs
  have hll:l.length=17:=by rw [ct] at hsz;simpa using hsz
  match l,hll with
  | [u0,u1,u2,u3,u4,u5,u6,u7,u8,u9,RZ,Er,Es,Ja,Et,Jb,u16],_ =>
   simp [Value.cells] at g0 g1 g2 g3 g4
   obtain ⟨z0,z1,z2,z3,m,_,m0,m1,m2,m3⟩:=trod_array4 h0 cl g0
   obtain ⟨L0,b0⟩:=lG hl hb cb p0 p1 p2 k0 k1 k2 j0 j1 j2 m0
   obtain ⟨L1,b1⟩:=lG hl hb cb p0 p1 p2 k0 k1 k2 j0 j1 j2 m1
   obtain ⟨L2,b2⟩:=lG hl hb cb p0 p1 p2 k0 k1 k2 j0 j1 j2 m2
   obtain ⟨L3,b3⟩:=lG hl hb cb p0 p1 p2 k0 k1 k2 j0 j1 j2 m3
   obtain ⟨cn,rfl,hcn⟩:=gM h1 g1
   obtain ⟨st,rfl,rfl,rfl,rfl,hst⟩:=Lp h2 cq8 hq8 g2
   obtain ⟨tp,rfl,rfl,rfl,rfl,htp⟩:=YI h3 cqi hqi g3
   obtain ⟨co,rfl,rfl,rfl,rfl,hco⟩:=Lp h4 cq8 hq8 g4
   exact ⟨fun i=>if i=0 then u0 else if i=1 then u1 else if i=2 then u2 else u3,⟨fun i=>if i=0 then L0 else if i=1 then L1 else if i=2 then L2 else L3,cn,st,tp,co⟩,rfl,⟨mr b0 b1 b2 b3,hcn,hst,htp,hco⟩⟩
end
section
variable {H:Type} {enc:TypeId × Value→H} {w:World} {spare:Nat→Bool} {held:Bool} {base:Nat} {r:Reach} {b0:Nat}
theorem open_bits {t e:TypeId} {f0 f1 f2:Field} {v:Value} {d:DataW H} {ps:List MemPlace} (ht:Tryz.prog.underlying t=some (.slice e)) (he:Tryz.prog.underlying e=some (.struct #[f0,f1,f2])) (ce:Tryz.prog.cellsOf e=3)
  (o0:f0.offset=0) (o1:f1.offset=1) (o2:f2.offset=2) (k0:Tryz.prog.cellsOf f0.type=1) (k1:Tryz.prog.cellsOf f1.type=1) (k2:Tryz.prog.cellsOf f2.type=1)
  (h0:Tryz.prog.underlying f0.type=some (.int .u8)) (h1:Tryz.prog.underlying f1.type=some (.int .u8)) (h2:Tryz.prog.underlying f2.type=some (.int .u8))
  (hv:Value.okWide Tryz.prog w r b0 t v) (h:DataW.Trod enc Tryz.prog w base spare held t v d ps):∃ L:List Bt,Y4 w v L:=by
 obtain ⟨a0,len0,cap0,rfl⟩:=okWide_slice ht hv
 obtain ⟨fuel,hf⟩:=h
 exact lG ht he ce o0 o1 o2 k0 k1 k2 h0 h1 h2 hf
theorem open_four {t q:TypeId} {v:Value} {d:DataW H} {ps:List MemPlace} (ht:Tryz.prog.underlying t=some (.array 4 q)) (ct:Tryz.prog.cellsOf t=4) (cq:Tryz.prog.cellsOf q=1) (hq:Tryz.prog.underlying q=some (.int .u8))
  (hv:Value.okWide Tryz.prog w r b0 t v) (h:DataW.Trod enc Tryz.prog w base spare held t v d ps):∃ g:Nat→Nat,v=.agg #[.int .u8 (g 0:Int),.int .u8 (g 1:Int),.int .u8 (g 2:Int),.int .u8 (g 3:Int)]∧∀ i,i<4→g i<256:=by
 simp only [Value.okWide,ht] at hv
 obtain ⟨cs,rfl,hsz,_⟩:=hv
 obtain ⟨fuel,hf⟩:=h
 obtain ⟨l⟩:=cs
 have hll:l.length=4:=by rw [ct] at hsz;simpa using hsz
 match l,hll with
 | [u0,u1,u2,u3],_ =>
  obtain ⟨g,rfl,rfl,rfl,rfl,hg⟩:=Lp ht cq hq hf
  exact ⟨g,rfl,hg⟩
theorem open_small {t:TypeId} {f0 f1:Field} {v:Value} {d:DataW H} {ps:List MemPlace} (ht:Tryz.prog.underlying t=some (.struct #[f0,f1])) (ct:Tryz.prog.cellsOf t=2) (o0:f0.offset=0) (o1:f1.offset=1) (k0:Tryz.prog.cellsOf f0.type=1) (k1:Tryz.prog.cellsOf f1.type=1)
  (h0:Tryz.prog.underlying f0.type=some (.int .i16)) (h1:Tryz.prog.underlying f1.type=some (.int .u8))
  (hv:Value.okWide Tryz.prog w r b0 t v) (h:DataW.Trod enc Tryz.prog w base spare held t v d ps):∃ (n:Int) (e:Nat),v=.agg #[.int .i16 n,.int .u8 (e:Int)] ∧ -32768≤n∧n≤32767∧e<256:=by
 simp only [Value.okWide,ht] at hv
 obtain ⟨cs,rfl,hsz,_⟩:=hv
 obtain ⟨fuel,hf⟩:=h
 obtain ⟨xs,n,_,_,_,hlen,hF⟩:=DataW.trod_struct ht hf
 match xs,hlen with
 | [y0,y1],_ =>
  have g0:=hF 0 f0 rfl
  have g1:=hF 1 f1 rfl
  rw [o0,k0] at g0
  rw [o1,k1] at g1
  obtain ⟨l⟩:=cs
  have hll:l.length=2:=by rw [ct] at hsz;simpa using hsz
  match l,hll with
  | [u0,u1],_ =>
   simp [Value.cells] at g0 g1
   obtain ⟨a,ha,_,hwa⟩:=DataW.trod_int h0 g0
   simp only [List.cons.injEq,and_true] at ha
   have b:=bounds_i16 hwa
   obtain ⟨c,rfl,hc⟩:=gM h1 g1
   exact ⟨a,c,by rw [ha],b.1,b.2,hc⟩
end
end Go.Proofs.YtglncfkoohgdaaaGreatDoor
