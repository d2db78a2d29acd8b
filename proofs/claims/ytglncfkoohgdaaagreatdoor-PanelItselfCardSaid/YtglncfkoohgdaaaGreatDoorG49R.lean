import Derived.Test.YtglncfkoohgdaaaGreatDoorT3R
import Derived.Test.YtglncfkoohgdaaaGreatDoorE3R
import Derived.Test.YtglncfkoohgdaaaGreatDoorG20R
import Derived.Test.YtglncfkoohgdaaaGreatDoorG30R
import Derived.Test.YtglncfkoohgdaaaGreatDoorG40R
import Derived.Test.YtglncfkoohgdaaaGreatDoorG44R
import Derived.Test.YtglncfkoohgdaaaGreatDoorG29R
set_option maxRecDepth 100000
set_option maxHeartbeats 4000000
namespace Go.Proofs.YtglncfkoohgdaaaGreatDoor
open Go.RowKit Go.Shelf
open Go.Lib (decDigits itoa nDigits)
open Go.Lib (hid)
theorem aa2:Tryz.prog.underlying 89=some (.struct (Tryz.prog.fieldsOf 89)):=by kernel_rfl
theorem aa3:Tryz.prog.stoodInHeld 89=false:=by kernel_rfl
theorem aa4:Tryz.prog.eqGuardType Tryz.prog.depth 89=false:=by kernel_rfl
theorem afh (x y z:ByteArray) (w:World):(binOp .neq 89 (.agg #[.string x,.string y,.string z]) (.agg #[.string x,.string y,.string z])).run Tryz.prog w=.ok (.bool false) w:=by
 rw [run_neq_struct,run_equalIn_struct _ 9999 _ _ _ aa2 aa3]
 have hf:(Tryz.prog.fieldsOf 89).toList=[(Tryz.prog.fieldsOf 89)[0]!,(Tryz.prog.fieldsOf 89)[1]!,(Tryz.prog.fieldsOf 89)[2]!]:=by kernel_rfl
 have t0:((Tryz.prog.fieldsOf 89)[0]!).type=9:=by kernel_rfl
 have t1:((Tryz.prog.fieldsOf 89)[1]!).type=33:=by kernel_rfl
 have t2:((Tryz.prog.fieldsOf 89)[2]!).type=33:=by kernel_rfl
 have o0:((Tryz.prog.fieldsOf 89)[0]!).offset=0:=by kernel_rfl
 have o1:((Tryz.prog.fieldsOf 89)[1]!).offset=1:=by kernel_rfl
 have o2:((Tryz.prog.fieldsOf 89)[2]!).offset=2:=by kernel_rfl
 have n0 : ((Tryz.prog.fieldsOf 89)[0]!).name ≠ "_" := of_decide_eq_true (by kernel_rfl)
 have n1 : ((Tryz.prog.fieldsOf 89)[1]!).name ≠ "_" := of_decide_eq_true (by kernel_rfl)
 have n2 : ((Tryz.prog.fieldsOf 89)[2]!).name ≠ "_" := of_decide_eq_true (by kernel_rfl)
 have hp:∀ (t:TypeId) (cs:Array Value) (i:Nat) (v:Value),(isAgg t).run Tryz.prog w=.ok false w→cs[i]?=some v→(part t cs i).run Tryz.prog w=.ok v w:=by
  intro t cs i v ha h
  unfold part
  simp only [Sem.run_bind,ha,Result.andThen_ok,Bool.false_eq_true,if_false,h,Sem.run_pure]
 have a9:(isAgg 9).run Tryz.prog w=.ok false w:=Tryz.isAgg9 _
 have a33:(isAgg 33).run Tryz.prog w=.ok false w:=Tryz.isAgg33 _
 rw [hf]
 simp only [Op.eqFields,if_pos n0,if_pos n1,if_pos n2,t0,t1,t2,o0,o1,o2,Sem.run_bind]
 rw [hp _ _ 0 (.string x) a9 rfl]
 simp only [Result.andThen_ok]
 rw [hp _ _ 0 (.string x) a9 rfl]
 simp only [Result.andThen_ok]
 rw [run_equalIn_string w 9998 _ _ _ Tryz.underlying9]
 simp only [Result.andThen_ok,BEq.rfl,Bool.not_true,Bool.false_eq_true,if_false,Sem.run_bind]
 rw [hp _ _ 1 (.string y) a33 rfl]
 simp only [Result.andThen_ok]
 rw [hp _ _ 1 (.string y) a33 rfl]
 simp only [Result.andThen_ok]
 rw [run_equalIn_string w 9998 _ _ _ Tryz.underlying33]
 simp only [Result.andThen_ok,BEq.rfl,Bool.not_true,Bool.false_eq_true,if_false,Sem.run_bind]
 rw [hp _ _ 2 (.string z) a33 rfl]
 simp only [Result.andThen_ok]
 rw [hp _ _ 2 (.string z) a33 rfl]
 simp only [Result.andThen_ok]
 rw [run_equalIn_string w 9998 _ _ _ Tryz.underlying33]
 simp
theorem Yf (op:BinOp) (a b:Operand) (xs ys:Array Value) (w:World):(eqGuard op 89 a b (.agg xs) (.agg ys)).run Tryz.prog w=.ok () w:=run_eqGuard_agg w op _ a b xs ys aa4
theorem Yg (v u:Value) (L:List Iv) (w:World) (hv:gm w v L) (hu:gm w u L):Calls Tryz.prog 81 #[v,u] w (RV (.bool true) w):=by
 obtain ⟨p,c,rfl,hc,hm⟩:=hv.slice
 obtain ⟨p',c',rfl,hc',hm'⟩:=hu.slice
 unfold maxLen at hm
 have HV:=hid hv
 have HU:=hid hu
 have hbw:=Below.refl w.heap.size w
 generalize hn:L.length=n at *
 have HN:=hid hn
 have hguard:=Yf
 clear hv hu hn
 go_enter Tryz.func81,Tryz.ntmps81
 go_wp2_with fail
 go_loopw [5,4] (fun iv rv wr=>∃ k:Nat,k≤n∧iv=.int .i64 (k:Int)∧rv=.bool false∧Below w.heap.size w wr) (fun iv _ _=>n-(intOf iv).toNat)
 case atStart=>exact ⟨0,Nat.zero_le _,rfl,rfl,hbw⟩
 case round =>
  obtain ⟨k,hkn,rfl,rfl,hbr⟩:=hrel
  by_cases hk:k<n
  ·obtain ⟨b,off,rfl,hbl,c0,c1,c2⟩:=(HV.out.below hbr).at (show k<L.length by rw [HN.out];exact hk)
   obtain ⟨b',off',rfl,ahO,d0,d1,d2⟩:=(HU.out.below hbr).at (show k<L.length by rw [HN.out];exact hk)
   have hkk:decide ((k:Int)<(n:Int))=true:=decide_eq_true (by omega)
   have i1:(0:Int)≤(k:Int):=by omega
   have i2:(k:Int)<(n:Int):=by omega
   generalize us (ah L k).u=x at *
   generalize tx (ah L k).a=y at *
   generalize tx (ah L k).b=z at *
   have hneq:=afh x y z
   go_wp2_with fail
   go_quiet (fail)
   go_wp2
   refine ⟨⟨k+1,hk,aA k,rfl,hbr.trans ((below_drewN wr _).mono hbr.size)⟩,?_⟩
   show n-((k:Int)+1).toNat<n-((k:Int)).toNat
   omega
  ·have hkk:decide ((k:Int)<(n:Int))=false:=decide_eq_false (by omega)
   obtain rfl:k=n:=by omega
   go_wp2
   go_ret
   exact ⟨rfl,hbr⟩
theorem Yh (v u:Value) (L:List Iv) (w:World) (hv:gm w v L) (hu:gm w u L):Calls Tryz.prog 27 #[v,u] w (RV (.bool true) w):=by
 have H:=hid (Yg v u L w hv hu)
 unfold RV at H
 clear hv hu
 go_enter Tryz.func27,Tryz.ntmps27
 go_wp2_with fail
 refine H.out.mono ?_
 rintro e w1 ⟨rfl,hb1⟩
 go_wp2
 go_ret
 exact ⟨rfl,hb1⟩
end Go.Proofs.YtglncfkoohgdaaaGreatDoor
namespace Go.Proofs.YtglncfkoohgdaaaGreatDoor
instance:DecidableEq Iv:=fun a b=>decidable_of_iff (a.u=b.u∧a.a=b.a∧a.b=b.b) ⟨fun ⟨h1,h2,h3⟩=>by cases a;cases b;simp_all,fun h=>by rw [h];exact ⟨rfl,rfl,rfl⟩⟩
def vK:bQ:=⟨[[⟨[97],0,2⟩,⟨[98],2,4⟩],[⟨[97],0,3⟩]],[0,10],[0,0],⟨1,1,1,1⟩⟩
theorem Gt {q:Rat} {n:Nat} (k:Int) (h:k.natAbs≤n) (e:q*2=(k:Rat)):H2 n q:=⟨k,h,e⟩
theorem PK:dm vK:=by
 have hz:H2 64 0:=Gt 0 (by decide) (by decide +kernel)
 have two:∀ (P:Nat→Prop),P 0→P 1→∀ k,k<2→P k:=fun P h0 h1 k hk=>by
  match k,hk with
  | 0,_=>exact h0
  | 1,_=>exact h1
 have one:∀ (P:Nat→Prop),P 0→∀ k,k<1→P k:=fun P h0 k hk=>by
  match k,hk with
  | 0,_=>exact h0
 have u97:rF [97]:=.inr ⟨97,rfl,by decide,by decide⟩
 have u98:rF [98]:=.inr ⟨98,rfl,by decide,by decide⟩
 have h2':H2 64 2:=Gt 4 (by decide) (by decide +kernel)
 have h3':H2 64 3:=Gt 6 (by decide) (by decide +kernel)
 have h4':H2 64 4:=Gt 8 (by decide) (by decide +kernel)
 have h10:H2 64 10:=Gt 20 (by decide) (by decide +kernel)
 have h1':H2 16 1:=Gt 2 (by decide) (by decide +kernel)
 refine ⟨by decide,by decide,rfl,rfl,?_,?_,?_,?_,?_,⟨h1',h1',h1',h1'⟩,⟨by decide +kernel,by decide +kernel,by decide +kernel,by decide +kernel⟩⟩
 ·refine two _ ⟨⟨by decide,two _ u97 u98,two _ ⟨hz.ok (by decide),h2'.ok (by decide)⟩ ⟨h2'.ok (by decide),h4'.ok (by decide)⟩,two _ ⟨by decide +kernel,by decide +kernel⟩ ⟨by decide +kernel,by decide +kernel⟩,fun i hi=>?_⟩,by decide⟩ ⟨⟨by decide,one _ u97,one _ ⟨hz.ok (by decide),h3'.ok (by decide)⟩,one _ ⟨by decide +kernel,by decide +kernel⟩,fun i hi=>?_⟩,by decide⟩
  ·have hi':i+1<2:=hi
   obtain rfl:i=0:=by omega
   decide +kernel
  ·have hi':i+1<1:=hi
   omega
 ·intro k i hk
  revert i
  revert k
  exact two (fun k=>∀ i,i<(ai vK k).length→H2 64 (ah (ai vK k) i).a∧H2 64 (ah (ai vK k) i).b) (two _ ⟨hz,h2'⟩ ⟨h2',h4'⟩) (one _ ⟨hz,h3'⟩)
 ·exact two _ hz h10
 ·exact two _ hz hz
 ·intro k hk
  have hk':k+1<2:=hk
  obtain rfl:k=0:=by omega
  decide +kernel
theorem adu:qB vK 1=3:=by decide +kernel
theorem aa5:uN vK=[(0,[0,0]),(0,[1])]:=by decide +kernel
theorem Yi {A:List (List UInt8 × Rat)} (h:AX (dC (j6 vK)) A):A=[([97],50),([98],20)]:=by
 have hm:∀ u,u∈(dC (j6 vK)).map (·.1)↔u=[97]∨u=[98]:=fun u=>by
  have e:(dC (j6 vK)).map (·.1)=[[97],[98]]∨(dC (j6 vK)).map (·.1)=[[98],[97]]∨(dC (j6 vK)).map (·.1)=[[97],[98],[97]]∨(dC (j6 vK)).map (·.1)=[[97],[97],[98]]:=by decide +kernel
  rcases e with e | e | e | e <;> rw [e] <;> simp <;> grind
 have s1:jA (dC (j6 vK)) [97]=50:=by decide +kernel
 have s2:jA (dC (j6 vK)) [98]=20:=by decide +kernel
 have hA:∀ a∈A,a=([97],50)∨a=([98],20):=fun a ha=>by
  have h1:=(hm a.1).1 ((h.mem a.1).1 (List.mem_map_of_mem ha))
  have h2:=h.sum a ha
  rcases h1 with e | e
  ·left;rw [e,s1] at h2;exact Prod.ext e h2
  ·right;rw [e,s2] at h2;exact Prod.ext e h2
 have i1:[97]∈A.map (·.1):=(h.mem _).2 ((hm _).2 (.inl rfl))
 have i2:[98]∈A.map (·.1):=(h.mem _).2 ((hm _).2 (.inr rfl))
 have hp:=h.I6
 match A,hA,i1,i2,hp with
 | [],_,i1,_,_=>simp at i1
 | [a],hA,i1,i2,_ =>
  simp at i1 i2
  rw [←i1] at i2
  simp at i2
 | [a,b],hA,_,_,hp =>
  have ha:=hA a (by simp)
  have hb:=hA b (by simp)
  simp at hp
  rcases ha with rfl | rfl <;> rcases hb with rfl | rfl
  ·exact absurd hp (by decide)
  ·rfl
  ·exact absurd hp (by decide)
  ·exact absurd hp (by decide)
 | a :: b :: c :: r,hA,_,_,hp =>
  exfalso
  have ha:=hA a (by simp)
  have hb:=hA b (by simp)
  have hc:=hA c (by simp)
  simp at hp
  obtain ⟨⟨h1,h2,_⟩,⟨h3,_⟩,_⟩:=hp
  rcases ha with rfl | rfl <;> rcases hb with rfl | rfl <;> rcases hc with rfl | rfl <;> first | exact absurd h1 (by decide) | exact absurd h2 (by decide) | exact absurd h3 (by decide)
theorem afi:atX vK 5=[⟨[97],0,5/2⟩,⟨[98],5/2,7/2⟩]:=by decide +kernel
instance (q:Rat):Decidable (bM q):=by unfold bM;infer_instance
instance (x:Rat) (a b:Rat × Rat):Decidable (CrS x a b):=by unfold CrS;infer_instance
theorem agP:AtS vK 5:=by
 have k0:∀ k,k+1<vK.lg.length→k=0:=fun k hk=>by have h:k+1<2:=hk;omega
 have he:∀ s∈aZ vK 0,∀ y∈aC vK 0 s,(∀ k,k<y.1.pg.length→dx (pt y.1.pg k).1 5*dx (pt y.1.pg ((k+1) % y.1.pg.length)).1 5<0→CrS 5 (pt y.1.pg k) (pt y.1.pg ((k+1) % y.1.pg.length)))∧∀ p∈(oM y.1.pg 5).toList,bM (zh vK 5 0-p.1)∧bM (zh vK 5 0-p.2)∧bM (zh vK 5 0)∧bM p.1∧bM p.2:=by
  decide +kernel
 refine ⟨by decide +kernel,fun k hk _ _=>?_,fun k s y hk _ _ hs hy=>?_,fun k s y p hk _ _ hs hy hp=>?_⟩
 ·obtain rfl:=k0 k hk
  decide +kernel
 ·obtain rfl:=k0 k hk
  exact (he s hs y hy).1
 ·obtain rfl:=k0 k hk
  exact (he s hs y hy).2 p (by rw [hp];exact List.mem_singleton.2 rfl)
end Go.Proofs.YtglncfkoohgdaaaGreatDoor
namespace Go.Proofs.YtglncfkoohgdaaaGreatDoor
open Go.RowKit Go.Shelf
open Go.Lib (decDigits itoa nDigits)
attribute [local go_sem] Oper.semAt_some
theorem Yj:tx 0=⟨#[48]⟩:=tx0
theorem agQ:tx 2=⟨#[50]⟩:=uB adR
theorem afj:tx 10=⟨#[49,48]⟩:=uB (by rw [ou (n:=((10:Nat):Int)) (d:=1) (by decide +kernel) (by decide +kernel),yC (by decide) (by decide)];decide)
theorem afk:tx 50=⟨#[53,48]⟩:=uB (by rw [ou (n:=((50:Nat):Int)) (d:=1) (by decide +kernel) (by decide +kernel),yC (by decide) (by decide)];decide)
theorem afl:tx 20=⟨#[50,48]⟩:=uB (by rw [ou (n:=((20:Nat):Int)) (d:=1) (by decide +kernel) (by decide +kernel),yC (by decide) (by decide)];decide)
theorem adv:tx (5/2)=⟨#[53,47,50]⟩:=uB (by rw [ou (n:=((5:Nat):Int)) (d:=2) (by decide +kernel) (by decide +kernel),qZ (by decide) (by decide)];decide)
theorem adw:tx (7/2)=⟨#[55,47,50]⟩:=uB (by rw [ou (n:=((7:Nat):Int)) (d:=2) (by decide +kernel) (by decide +kernel),qZ (by decide) (by decide)];decide)
theorem PL {W:World} {B:Nat} {x y:Iv} {fz:Nat × Nat} {t:TypeId} (h:W.heap[B]?=some (.cells #[.string (us x.u),.string (tx x.a),.string (tx x.b),.string (us y.u),.string (tx y.a),.string (tx y.b)] t fz)):gm W (.slice (some ⟨B,0,none⟩) 2 2) [x,y]:=by
 refine ⟨_,2,rfl,Nat.le_refl _,by decide,fun _=>⟨B,0,rfl,aa h,fun i hi=>?_⟩⟩
 match i,hi with
 | 0,_=>exact ⟨by simp [World.cell?,h,ah],by simp [World.cell?,h,ah],by simp [World.cell?,h,ah]⟩
 | 1,_=>exact ⟨by simp [World.cell?,h,ah],by simp [World.cell?,h,ah],by simp [World.cell?,h,ah]⟩
theorem aa6 {W:World} {B:Nat} {x:Iv} {fz:Nat × Nat} {t:TypeId} (h:W.heap[B]?=some (.cells #[.string (us x.u),.string (tx x.a),.string (tx x.b)] t fz)):gm W (.slice (some ⟨B,0,none⟩) 1 1) [x]:=by
 refine ⟨_,1,rfl,Nat.le_refl _,by decide,fun _=>⟨B,0,rfl,aa h,fun i hi=>?_⟩⟩
 match i,hi with
 | 0,_=>exact ⟨by simp [World.cell?,h,ah],by simp [World.cell?,h,ah],by simp [World.cell?,h,ah]⟩
theorem Lc {W:World} {B:Nat} {a b:Rat} {fz:Nat × Nat} {t:TypeId} (h:W.heap[B]?=some (.cells #[.string (tx a),.string (tx b)] t fz)):tX W (.slice (some ⟨B,0,none⟩) 2 2) ([a,b].map tx):=by
 refine ⟨_,2,rfl,Nat.le_refl _,by decide,fun _=>⟨B,0,rfl,aa h,fun i hi=>?_⟩⟩
 match i,hi with
 | 0,_=>simp [World.cell?,h]
 | 1,_=>simp [World.cell?,h]
theorem Rw {W0 W:World} {a b c d e:Obj} (h:W=((((W0.alloc a).alloc b).alloc c).alloc d).alloc e):Below W0.heap.size W0 W∧W.heap[W0.heap.size]?=some a∧W.heap[W0.heap.size+1]?=some b∧W.heap[W0.heap.size+1+1]?=some c∧W.heap[W0.heap.size+1+1+1]?=some d∧W.heap[W0.heap.size+1+1+1+1]?=some e:=by
 obtain ⟨h1,h2,h3,h4,h5⟩:=aeN (W:=W0) (q:=a) (a:=b) (b:=c) (c:=d) rfl
 have hb:=ae ((((W0.alloc a).alloc b).alloc c).alloc d) e
 rw [h]
 refine ⟨h1.trans (hb.mono h1.size),(hb.block _ (lt_of_some h2)).trans h2,(hb.block _ (lt_of_some h3)).trans h3,(hb.block _ (lt_of_some h4)).trans h4,(hb.block _ (lt_of_some h5)).trans h5,?_⟩
 rw [show W0.heap.size+1+1+1+1=((((W0.alloc a).alloc b).alloc c).alloc d).heap.size by simp]
 exact World.alloc_heap_new _ _
theorem aa7 {W:World} {b1 b2 b3 b4 b5:Nat} {t1 t2 t3 t4 t5:TypeId} {f1 f2 f3 f4 f5:Nat × Nat} (h1:W.heap[b1]?=some (.cells #[.string ⟨#[97]⟩,.string ⟨#[48]⟩,.string ⟨#[50]⟩,.string ⟨#[98]⟩,.string ⟨#[50]⟩,.string ⟨#[52]⟩] t1 f1)) (h2:W.heap[b2]?=some (.cells #[.string ⟨#[97]⟩,.string ⟨#[48]⟩,.string ⟨#[51]⟩] t2 f2))
  (h3:W.heap[b3]?=some (.cells #[.slice (some ⟨b1,0,none⟩) 2 2,.slice (some ⟨b2,0,none⟩) 1 1] t3 f3)) (h4:W.heap[b4]?=some (.cells #[.string ⟨#[48]⟩,.string ⟨#[49,48]⟩] t4 f4)) (h5:W.heap[b5]?=some (.cells #[.string ⟨#[48]⟩,.string ⟨#[48]⟩] t5 f5)) :
  l9 W (.slice (some ⟨b3,0,none⟩) 2 2) (.slice (some ⟨b4,0,none⟩) 2 2) (.slice (some ⟨b5,0,none⟩) 2 2) vK:=by
 rw [←Yj,←agQ,←afP] at h1
 rw [←Yj,←adV] at h2
 rw [←Yj,←afj] at h4
 rw [←Yj] at h5
 refine ⟨⟨_,2,rfl,Nat.le_refl _,by decide,fun _=>⟨b3,0,rfl,aa h3,fun k hk=>?_⟩⟩,Lc h4,Lc h5⟩
 match k,hk with
 | 0,_=>exact ⟨_,by simp [World.cell?,h3],PL (x:=⟨[97],0,2⟩) (y:=⟨[98],2,4⟩) h1⟩
 | 1,_=>exact ⟨_,by simp [World.cell?,h3],aa6 (x:=⟨[97],0,3⟩) h2⟩
theorem Ld (w:World):Calls Tryz.prog 45 #[] w fun e w'=>∃ vg va vt,e=.returned (iX vg va vt vK.cs)∧l9 w' vg va vt vK∧Below w.heap.size w w':=by
 go_enter Tryz.func45,Tryz.ntmps45
 go_wp2
 obtain ⟨W0,hW0⟩ : ∃ W0,W0=w.alloc (Obj.cells #[.slice (some ⟨w.heap.size+1+1+1,0,none⟩) 2 2,.slice (some ⟨w.heap.size+1+1+1+1,0,none⟩) 2 2,.slice (some ⟨w.heap.size+1+1+1+1+1,0,none⟩) 2 2,.string ⟨#[49]⟩,.string ⟨#[49]⟩,.string ⟨#[49]⟩,.string ⟨#[49]⟩] 37):=⟨_,rfl⟩
 rw [←hW0]
 obtain ⟨W,hW⟩ : ∃ W,W=((((W0.alloc (Obj.cells #[.string ⟨#[97]⟩,.string ⟨#[48]⟩,.string ⟨#[50]⟩,.string ⟨#[98]⟩,.string ⟨#[50]⟩,.string ⟨#[52]⟩] 89)).alloc (Obj.cells #[.string ⟨#[97]⟩,.string ⟨#[48]⟩,.string ⟨#[51]⟩] 89)).alloc (Obj.cells #[.slice (some ⟨w.heap.size+1,0,none⟩) 2 2,.slice (some ⟨w.heap.size+1+1,0,none⟩) 1 1] 66)).alloc (Obj.cells #[.string ⟨#[48]⟩,.string ⟨#[49,48]⟩] 33)).alloc (Obj.cells #[.string ⟨#[48]⟩,.string ⟨#[48]⟩] 33):=⟨_,rfl⟩
 rw [←hW]
 have hs:W0.heap.size=w.heap.size+1:=by rw [hW0];simp
 have hb0:Below w.heap.size w W0:=by rw [hW0];exact ae _ _
 have k00:=World.alloc_heap_new w (Obj.cells #[.slice (some ⟨w.heap.size+1+1+1,0,none⟩) 2 2,.slice (some ⟨w.heap.size+1+1+1+1,0,none⟩) 2 2,.slice (some ⟨w.heap.size+1+1+1+1+1,0,none⟩) 2 2,.string ⟨#[49]⟩,.string ⟨#[49]⟩,.string ⟨#[49]⟩,.string ⟨#[49]⟩] 37)
 rw [←hW0] at k00
 obtain ⟨hb,k1,k2,k3,k4,k5⟩:=Rw hW
 have k0:=(hb.block _ (lt_of_some k00)).trans k00
 rw [hs] at k1 k2 k3 k4 k5
 obtain ⟨q0,q1,q2,q3,q4,q5,q6⟩:=au k0
 have hlow:=hb0.trans (hb.mono hb0.size)
 clear hW hW0 hb hb0 k00 hs
 refine bodyPost_ret (v:=.agg #[.slice (some ⟨w.heap.size+1+1+1,0,none⟩) 2 2,.slice (some ⟨w.heap.size+1+1+1+1,0,none⟩) 2 2,.slice (some ⟨w.heap.size+1+1+1+1+1,0,none⟩) 2 2,.string ⟨#[49]⟩,.string ⟨#[49]⟩,.string ⟨#[49]⟩,.string ⟨#[49]⟩]) (by simp [results,Tryz.results45,go_sem,q0,q1,q2,q3,q4,q5,q6]) rfl ?_
 refine ⟨_,_,_,?_,aa7 k1 k2 k3 k4 k5,hlow⟩
 show _=Ending.returned (.agg #[_,_,_,.string (tx 1),.string (tx 1),.string (tx 1),.string (tx 1)])
 rw [tx1]
end Go.Proofs.YtglncfkoohgdaaaGreatDoor
namespace Go.Proofs.YtglncfkoohgdaaaGreatDoor
open Go.RowKit Go.Shelf
open Go.Lib (decDigits itoa nDigits)
open Go.Lib (hid)
attribute [local go_sem] Oper.semAt_some
theorem aa8:Tryz.prog.underlying 64=some (.struct (Tryz.prog.fieldsOf 64)):=by kernel_rfl
theorem aa9:Tryz.prog.stoodInHeld 64=false:=by kernel_rfl
theorem aba:Tryz.prog.eqGuardType Tryz.prog.depth 64=false:=by kernel_rfl
theorem afm (x y:ByteArray) (w:World):(binOp .eql 64 (.agg #[.string x,.string y]) (.agg #[.string x,.string y])).run Tryz.prog w=.ok (.bool true) w:=by
 rw [run_eql_struct,run_equalIn_struct _ 9999 _ _ _ aa8 aa9]
 have hf:(Tryz.prog.fieldsOf 64).toList=[(Tryz.prog.fieldsOf 64)[0]!,(Tryz.prog.fieldsOf 64)[1]!]:=by kernel_rfl
 have t0:((Tryz.prog.fieldsOf 64)[0]!).type=9:=by kernel_rfl
 have t1:((Tryz.prog.fieldsOf 64)[1]!).type=33:=by kernel_rfl
 have o0:((Tryz.prog.fieldsOf 64)[0]!).offset=0:=by kernel_rfl
 have o1:((Tryz.prog.fieldsOf 64)[1]!).offset=1:=by kernel_rfl
 have n0 : ((Tryz.prog.fieldsOf 64)[0]!).name ≠ "_" := of_decide_eq_true (by kernel_rfl)
 have n1 : ((Tryz.prog.fieldsOf 64)[1]!).name ≠ "_" := of_decide_eq_true (by kernel_rfl)
 have hp:∀ (t:TypeId) (cs:Array Value) (i:Nat) (v:Value),(isAgg t).run Tryz.prog w=.ok false w→cs[i]?=some v→(part t cs i).run Tryz.prog w=.ok v w:=by
  intro t cs i v ha h
  unfold part
  simp only [Sem.run_bind,ha,Result.andThen_ok,Bool.false_eq_true,if_false,h,Sem.run_pure]
 have a9:(isAgg 9).run Tryz.prog w=.ok false w:=Tryz.isAgg9 _
 have a33:(isAgg 33).run Tryz.prog w=.ok false w:=Tryz.isAgg33 _
 rw [hf]
 simp only [Op.eqFields,if_pos n0,if_pos n1,t0,t1,o0,o1,Sem.run_bind]
 rw [hp _ _ 0 (.string x) a9 rfl]
 simp only [Result.andThen_ok]
 rw [hp _ _ 0 (.string x) a9 rfl]
 simp only [Result.andThen_ok]
 rw [run_equalIn_string w 9998 _ _ _ Tryz.underlying9]
 simp only [Result.andThen_ok,BEq.rfl,Bool.not_true,Bool.false_eq_true,if_false,Sem.run_bind]
 rw [hp _ _ 1 (.string y) a33 rfl]
 simp only [Result.andThen_ok]
 rw [hp _ _ 1 (.string y) a33 rfl]
 simp only [Result.andThen_ok]
 rw [run_equalIn_string w 9998 _ _ _ Tryz.underlying33]
 simp
theorem Yk (op:BinOp) (a b:Operand) (xs ys:Array Value) (w:World):(eqGuard op 64 a b (.agg xs) (.agg ys)).run Tryz.prog w=.ok () w:=run_eqGuard_agg w op _ a b xs ys aba
theorem agR {T:List iN} (h:T.map (·.1)=uN vK):∃ a b,T=[((0,[0,0]),a),((0,[1]),b)]:=by
 rw [aa5] at h
 match T,h with
 | [],h=>simp at h
 | [x],h=>simp at h
 | x :: y :: z :: r,h=>simp at h
 | [x,y],h =>
  simp only [List.map_cons,List.map_nil,List.cons.injEq,and_true] at h
  exact ⟨x.2,y.2,by rw [←h.1,←h.2]⟩
theorem adx {base:Nat} {W:World} {v:Value} {T:List iN} (hT:T.map (·.1)=uN vK) (h:AZ base W v T):∃ g c pa ca pb cb,v=.slice (some ⟨g,0,none⟩) 2 c∧g<W.heap.size∧W.cell? ⟨g,1,none⟩=some (.slice pa 2 ca)∧W.cell? ⟨g,3,none⟩=some (.slice pb 1 cb):=by
 obtain ⟨a,b,rfl⟩:=agR hT
 obtain ⟨g,c,rfl⟩:=ownsRow_succ (k:=1) h.row
 obtain ⟨pa,ca,rfl⟩ : ∃ p c,a=.slice p 2 c:=by obtain ⟨_,p,c,h,_⟩:=Reads.bu (h.own ((0,[0,0]),a) (by simp));exact ⟨p,c,h⟩
 obtain ⟨pb,cb,rfl⟩ : ∃ p c,b=.slice p 1 c:=by obtain ⟨_,p,c,h,_⟩:=Reads.bu (h.own ((0,[1]),b) (by simp));exact ⟨p,c,h⟩
 have c1:=dH h.row rfl (j:=1) (u:=.slice pa 2 ca) rfl
 have c3:=dH h.row rfl (j:=3) (u:=.slice pb 1 cb) rfl
 exact ⟨g,c,pa,ca,pb,cb,rfl,c1.2.2.1,c1.1,c3.1⟩
theorem ady {W:World} {v:Value} {A:List (List UInt8 × Rat)} (hA:AX (dC (j6 vK)) A) (h:jC W v (A.map Sd)):∃ b o c,v=.slice (some ⟨b,o,none⟩) 2 c∧b<W.heap.size∧W.cell? ⟨b,o,none⟩=some (.string ⟨#[97]⟩)∧W.cell? ⟨b,o+1,none⟩=some (.string ⟨#[53,48]⟩)∧W.cell? ⟨b,o+2,none⟩=some (.string ⟨#[98]⟩)∧W.cell? ⟨b,o+3,none⟩=some (.string ⟨#[50,48]⟩):=by
 rw [Yi hA] at h
 obtain ⟨p,c,rfl,_,_,hx⟩:=h
 obtain ⟨b,o,rfl,hb,hc⟩:=hx (by decide)
 have h0:=hc 0 (by decide)
 have h1:=hc 1 (by decide)
 refine ⟨b,o,c,rfl,hb,h0.1,h0.2.trans ?_,h1.1,h1.2.trans ?_⟩
 ·show some (Value.string (tx 50))=_
  rw [afk]
 ·show some (Value.string (tx 20))=_
  rw [afl]
theorem Rx {w:World} (hw:Good w):Calls Tryz.prog 12 #[] w (RV (.bool true) w):=by
 have HEX:=hid (Ld w)
 have Yl:iX=fun vg va vt C=>.agg #[vg,va,vt,.string (tx C.ch),.string (tx C.mi),.string (tx C.ga),.string (tx C.re)]:=rfl
 go_enter Tryz.func12,Tryz.ntmps12
 go_wp2_with fail
 refine HEX.out.mono ?_
 rintro e w1 ⟨vg,va,vt,rfl,hP,hb1⟩
 obtain ⟨pg,cg,rfl⟩ : ∃ p c,vg=.slice p 2 c:=by obtain ⟨p,c,h,_⟩:=hP.g.slice;exact ⟨p,c,h⟩
 obtain ⟨pa,ca,rfl⟩ : ∃ p c,va=.slice p 2 c:=by obtain ⟨p,c,h,_⟩:=hP.a.slice;exact ⟨p,c,h⟩
 obtain ⟨pt,ct,rfl⟩ : ∃ p c,vt=.slice p 2 c:=by obtain ⟨p,c,h,_⟩:=hP.t.slice;exact ⟨p,c,h⟩
 have HB1:=hid hb1
 have HTO:=hid (fun W' (hb:Below w1.heap.size w1 W')=>UM (.slice pg 2 cg) (.slice pa 2 ca) (.slice pt 2 ct) vK PK (hP.below hb) (hw.below (hb1.trans (hb.mono hb1.size))))
 have xI:=hid (fun W' (hb:Below w1.heap.size w1 W')=>IG (.slice pg 2 cg) (.slice pa 2 ca) (.slice pt 2 ct) vK PK (hP.below hb) (hw.below (hb1.trans (hb.mono hb1.size))))
 have HAR:=hid (fun W' (hb:Below w1.heap.size w1 W')=>VZ (.slice pg 2 cg) (.slice pa 2 ca) (.slice pt 2 ct) vK PK (hP.below hb) (hw.below (hb1.trans (hb.mono hb1.size))))
 have HAT:=hid (fun W' (hb:Below w1.heap.size w1 W')=>Ws (.slice pg 2 cg) (.slice pa 2 ca) (.slice pt 2 ct) vK 5 agP (by decide +kernel) (by decide +kernel) PK (hP.below hb) (hw.below (hb1.trans (hb.mono hb1.size))))
 rw [show qB vK (vK.lg.length-1)=3 from adu,adV] at HTO
 rw [afQ] at HAT
 unfold RV at HTO
 simp only [Yl] at HTO xI HAR HAT ⊢
 generalize tx vK.cs.ch=c0 at *
 generalize tx vK.cs.mi=c1 at *
 generalize tx vK.cs.ga=c2 at *
 generalize tx vK.cs.re=c3 at *
 clear hP hb1 Yl
 go_upto_region 2 with fail
 obtain ⟨wB,iy⟩ : ∃ wB,wB=w1.alloc (Obj.cells #[.slice pg 2 cg,.slice pa 2 ca,.slice pt 2 ct,.string c0,.string c1,.string c2,.string c3] 37):=⟨_,rfl⟩
 rw [←iy]
 have il:Below w1.heap.size w1 wB:=by rw [iy];exact ae _ _
 have Ry:wB.heap[w1.heap.size]?=some (.cells #[.slice pg 2 cg,.slice pa 2 ca,.slice pt 2 ct,.string c0,.string c1,.string c2,.string c3] 37 (0,0)):=by rw [iy];exact World.alloc_heap_new _ _
 have dY:=hid il
 have HOB:=hid Ry
 obtain ⟨p0,p1,p2,p3,p4,p5,p6⟩:=au Ry
 clear iy il Ry
 go_wp2_with fail
 refine (HTO.out wB dY.out).mono ?_
 rintro e w2 ⟨rfl,hb2⟩
 have HB2:=hid (dY.out.trans (hb2.mono dY.out.size))
 have ho2:=(hb2.block _ (aa HOB.out)).trans HOB.out
 have RJ:=hid ho2
 clear p0 p1 p2 p3 p4 p5 p6
 obtain ⟨p0,p1,p2,p3,p4,p5,p6⟩:=au ho2
 clear hb2 ho2
 go_wp2_with fail
 refine (xI.out w2 HB2.out).mono ?_
 rintro e w3 ⟨v4,T,rfl,hT,hbd,hb3⟩
 obtain ⟨gT,cT,pi,ci,pj,cj,rfl,hgT,t1,t3⟩:=adx hT hbd
 have HT1:=hid (And.intro hgT (And.intro t1 t3))
 have HB3:=hid (HB2.out.trans (hb3.mono HB2.out.size))
 have ho3:=(hb3.block _ (aa RJ.out)).trans RJ.out
 have HO3:=hid ho3
 clear p0 p1 p2 p3 p4 p5 p6 hT hbd hgT t1 t3
 obtain ⟨p0,p1,p2,p3,p4,p5,p6⟩:=au ho3
 clear hb3 ho3
 go_wp2_with fail
 refine (HAR.out w3 HB3.out).mono ?_
 rintro e w4 ⟨v6,A,rfl,hA,hpr,hb4⟩
 obtain ⟨bA,oA,cA,rfl,hlA,a0,a1,a2,a3⟩:=ady hA hpr
 have HA1:=hid (And.intro hlA (And.intro a0 (And.intro a1 (And.intro a2 a3))))
 have abb:=hid hb4
 have Po:=hid (HB3.out.trans (hb4.mono HB3.out.size))
 have ho4:=(hb4.block _ (aa HO3.out)).trans HO3.out
 clear p0 p1 p2 p3 p4 p5 p6 hA hpr hlA a0 a1 a2 a3
 obtain ⟨p0,p1,p2,p3,p4,p5,p6⟩:=au ho4
 clear hb4 ho4
 go_wp2_with fail
 refine (HAT.out w4 Po.out).mono ?_
 rintro e w5 ⟨v8,rfl,DY,hb5⟩
 rw [afi] at DY
 obtain ⟨pv,cv,rfl,hcv,MW⟩:=DY.slice
 have HIV:=hid DY
 have t1:=(hb5.cell (p:=⟨gT,1,none⟩) (Nat.lt_of_lt_of_le HT1.out.1 abb.out.size)).trans ((abb.out.cell (p:=⟨gT,1,none⟩) HT1.out.1).trans HT1.out.2.1)
 have t3:=(hb5.cell (p:=⟨gT,3,none⟩) (Nat.lt_of_lt_of_le HT1.out.1 abb.out.size)).trans ((abb.out.cell (p:=⟨gT,3,none⟩) HT1.out.1).trans HT1.out.2.2)
 have a0:=(hb5.cell (p:=⟨bA,oA,none⟩) HA1.out.1).trans HA1.out.2.1
 have a1:=(hb5.cell (p:=⟨bA,oA+1,none⟩) HA1.out.1).trans HA1.out.2.2.1
 have a2:=(hb5.cell (p:=⟨bA,oA+2,none⟩) HA1.out.1).trans HA1.out.2.2.2.1
 have a3:=(hb5.cell (p:=⟨bA,oA+3,none⟩) HA1.out.1).trans HA1.out.2.2.2.2
 have ze:=hid (HB1.out.trans ((Po.out.trans (hb5.mono Po.out.size)).mono HB1.out.size))
 have hqs:=afm
 have hgd:=Yk
 clear p0 p1 p2 p3 p4 p5 p6 DY hb5 hcv MW
 go_wp2_with fail
 obtain ⟨w6,RQ⟩ : ∃ w6,w6=w5.alloc (Obj.cells #[.string ⟨#[97]⟩,.string ⟨#[48]⟩,.string ⟨#[53,47,50]⟩,.string ⟨#[98]⟩,.string ⟨#[53,47,50]⟩,.string ⟨#[55,47,50]⟩] 89):=⟨_,rfl⟩
 rw [←RQ]
 have hb6:Below w5.heap.size w5 w6:=by rw [RQ];exact ae _ _
 have ho6:w6.heap[w5.heap.size]?=some (.cells #[.string ⟨#[97]⟩,.string ⟨#[48]⟩,.string ⟨#[53,47,50]⟩,.string ⟨#[98]⟩,.string ⟨#[53,47,50]⟩,.string ⟨#[55,47,50]⟩] 89 (0,0)):=by rw [RQ];exact World.alloc_heap_new _ _
 rw [←Yj,←adv,←adw] at ho6
 have HS:=hid (Yh _ _ _ w6 (HIV.out.below hb6) (PL (x:=⟨[97],0,5/2⟩) (y:=⟨[98],5/2,7/2⟩) ho6))
 unfold RV at HS
 have Nz:=hid (ze.out.trans (hb6.mono ze.out.size))
 clear RQ hb6 ho6 t1 t3 a0 a1 a2 a3 hqs hgd
 refine HS.out.mono ?_
 rintro e w7 ⟨rfl,Db⟩
 have HB7:=hid (Nz.out.trans (Db.mono Nz.out.size))
 clear Db
 go_wp2
 go_ret
 exact ⟨rfl,HB7.out⟩
end Go.Proofs.YtglncfkoohgdaaaGreatDoor
