import Derived.Test.YtglncfkoohgdaaaGreatDoorT1R
import Derived.Laws.StructEq
import Derived.Test.YtglncfkoohgdaaaGreatDoorStillR
import Derived.ArgAppend
import Derived.Deep.Onto
set_option maxRecDepth 100000
set_option maxHeartbeats 8000000
namespace Go.Proofs.YtglncfkoohgdaaaGreatDoor
open Go.RowKit Go.Shelf
open Go.Lib (decDigits itoa nDigits)
abbrev qp (w:World) (v:Value) (L:List QP):Prop:=jC w v (L.map aR)
theorem rE:SliceOf 44 113 (.agg #[.string ⟨#[]⟩,.string ⟨#[]⟩]) 2 32:=⟨Tryz.underlying44,by kernel_rfl,rfl,by decide⟩
theorem jC.cells {w:World} {p:Option Addr} {n c:Nat} {L:List jh} (h:jC w (.slice p n c) L) (h0:0<L.length) :
  ∃ b off,p=some ⟨b,off,none⟩∧b<w.heap.size∧∀ i (h:i<L.length),w.cell? ⟨b,off+i*2,none⟩=some (.string L[i].1)∧w.cell? ⟨b,off+i*2+1,none⟩=some (.string L[i].2):=by
 obtain ⟨p',c',hv,_,_,hx⟩:=h
 simp only [Value.slice.injEq] at hv
 obtain ⟨rfl,rfl,rfl⟩:=hv
 exact hx h0
theorem qp.cells {w:World} {p:Option Addr} {n c:Nat} {L:List QP} (h:qp w (.slice p n c) L) (h0:0<L.length) :
  ∃ b off,p=some ⟨b,off,none⟩∧b<w.heap.size∧∀ i (_:i<L.length),w.cell? ⟨b,off+i*2,none⟩=some (.string (tx (pt L i).1))∧w.cell? ⟨b,off+i*2+1,none⟩=some (.string (tx (pt L i).2)):=by
 obtain ⟨b,off,h1,h2,h3⟩:=jC.cells h (by simpa using h0)
 refine ⟨b,off,h1,h2,fun i hi=>?_⟩
 have:=h3 i (by simpa using hi)
 rw [cO hi]
 simpa [aR] using this
theorem qp.slice {w:World} {v:Value} {L:List QP} (h:qp w v L):∃ p c,v=.slice p L.length c∧L.length≤c∧c≤maxLen:=by
 obtain ⟨p,c,h1,h2,h3,_⟩:=h
 rw [List.length_map] at h1 h2
 exact ⟨p,c,h1,h2,h3⟩
theorem EW {p q:QP} (h:aR p=aR q):p=q:=by
 unfold aR at h
 simp only [Prod.mk.injEq] at h
 have h1:=congrArg (fun s:ByteArray=>s.data.toList) h.1
 have h2:=congrArg (fun s:ByteArray=>s.data.toList) h.2
 dsimp only at h1 h2
 exact Prod.ext (sI h1) (sI h2)
theorem Cq:Tryz.prog.underlying 113=some (.struct (Tryz.prog.fieldsOf 113)):=by kernel_rfl
theorem Cr:Tryz.prog.stoodInHeld 113=false:=by kernel_rfl
theorem MJ:Tryz.prog.eqGuardType Tryz.prog.depth 113=false:=by kernel_rfl
def EX (x y:jh):Bool:=x.1.toList == y.1.toList && x.2.toList == y.2.toList
theorem EY (x y:jh):EX x y=decide (x=y):=by
 rw [Bool.eq_iff_iff,decide_eq_true_eq]
 unfold EX
 rw [Bool.and_eq_true,beq_iff_eq,beq_iff_eq,Lib.toList_data,Lib.toList_data,Lib.toList_data,Lib.toList_data]
 constructor
 ·rintro ⟨h1,h2⟩;exact Prod.ext (kW h1) (kW h2)
 ·rintro rfl;exact ⟨rfl,rfl⟩
theorem Ua (x y:jh) (w:World):(binOp .neq 113 (.agg #[.string x.1,.string x.2]) (.agg #[.string y.1,.string y.2])).run Tryz.prog w=.ok (.bool (!EX x y)) w:=by
 rw [run_neq_struct,run_equalIn_struct _ 9999 _ _ _ Cq Cr]
 have hf:(Tryz.prog.fieldsOf 113).toList=[(Tryz.prog.fieldsOf 113)[0]!,(Tryz.prog.fieldsOf 113)[1]!]:=by kernel_rfl
 have t0:((Tryz.prog.fieldsOf 113)[0]!).type=33:=by kernel_rfl
 have t1:((Tryz.prog.fieldsOf 113)[1]!).type=33:=by kernel_rfl
 have o0:((Tryz.prog.fieldsOf 113)[0]!).offset=0:=by kernel_rfl
 have o1:((Tryz.prog.fieldsOf 113)[1]!).offset=1:=by kernel_rfl
 have n0 : ((Tryz.prog.fieldsOf 113)[0]!).name ≠ "_" := of_decide_eq_true (by kernel_rfl)
 have n1 : ((Tryz.prog.fieldsOf 113)[1]!).name ≠ "_" := of_decide_eq_true (by kernel_rfl)
 have hp:∀ (cs:Array Value) (i:Nat) (v:Value),cs[i]?=some v→(part 33 cs i).run Tryz.prog w=.ok v w:=by
  intro cs i v h
  unfold part
  simp only [Sem.run_bind,Tryz.isAgg33,Result.andThen_ok,Bool.false_eq_true,if_false,h,Sem.run_pure]
 rw [hf]
 simp only [Op.eqFields,if_pos n0,if_pos n1,t0,t1,o0,o1,Sem.run_bind]
 rw [hp _ 0 (.string x.1) rfl]
 simp only [Result.andThen_ok]
 rw [hp _ 0 (.string y.1) rfl]
 simp only [Result.andThen_ok]
 rw [run_equalIn_string w 9998 _ _ _ Tryz.underlying33]
 simp only [Result.andThen_ok]
 unfold EX
 cases h1:(x.1.toList == y.1.toList)
 ·simp
 ·simp only [Bool.not_true,Bool.false_eq_true,if_false,Sem.run_bind]
  rw [hp _ 1 (.string x.2) rfl]
  simp only [Result.andThen_ok]
  rw [hp _ 1 (.string y.2) rfl]
  simp only [Result.andThen_ok]
  rw [run_equalIn_string w 9998 _ _ _ Tryz.underlying33]
  simp only [Result.andThen_ok]
  cases h2:(x.2.toList == y.2.toList) <;> simp
theorem Qj (op:BinOp) (a b:Operand) (xs ys:Array Value) (w:World):(eqGuard op 113 a b (.agg xs) (.agg ys)).run Tryz.prog w=.ok () w:=run_eqGuard_agg w op _ a b xs ys MJ
theorem Ub (x y:jh) (w:World):(binOp .eql 113 (.agg #[.string x.1,.string x.2]) (.agg #[.string y.1,.string y.2])).run Tryz.prog w=.ok (.bool (EX x y)) w:=by
 rw [run_eql_struct,run_equalIn_struct _ 9999 _ _ _ Cq Cr]
 have hf:(Tryz.prog.fieldsOf 113).toList=[(Tryz.prog.fieldsOf 113)[0]!,(Tryz.prog.fieldsOf 113)[1]!]:=by kernel_rfl
 have t0:((Tryz.prog.fieldsOf 113)[0]!).type=33:=by kernel_rfl
 have t1:((Tryz.prog.fieldsOf 113)[1]!).type=33:=by kernel_rfl
 have o0:((Tryz.prog.fieldsOf 113)[0]!).offset=0:=by kernel_rfl
 have o1:((Tryz.prog.fieldsOf 113)[1]!).offset=1:=by kernel_rfl
 have n0 : ((Tryz.prog.fieldsOf 113)[0]!).name ≠ "_" := of_decide_eq_true (by kernel_rfl)
 have n1 : ((Tryz.prog.fieldsOf 113)[1]!).name ≠ "_" := of_decide_eq_true (by kernel_rfl)
 have hp:∀ (cs:Array Value) (i:Nat) (v:Value),cs[i]?=some v→(part 33 cs i).run Tryz.prog w=.ok v w:=by
  intro cs i v h
  unfold part
  simp only [Sem.run_bind,Tryz.isAgg33,Result.andThen_ok,Bool.false_eq_true,if_false,h,Sem.run_pure]
 rw [hf]
 simp only [Op.eqFields,if_pos n0,if_pos n1,t0,t1,o0,o1,Sem.run_bind]
 rw [hp _ 0 (.string x.1) rfl]
 simp only [Result.andThen_ok]
 rw [hp _ 0 (.string y.1) rfl]
 simp only [Result.andThen_ok]
 rw [run_equalIn_string w 9998 _ _ _ Tryz.underlying33]
 simp only [Result.andThen_ok]
 unfold EX
 cases h1:(x.1.toList == y.1.toList)
 ·simp
 ·simp only [Bool.not_true,Bool.false_eq_true,if_false,Sem.run_bind]
  rw [hp _ 1 (.string x.2) rfl]
  simp only [Result.andThen_ok]
  rw [hp _ 1 (.string y.2) rfl]
  simp only [Result.andThen_ok]
  rw [run_equalIn_string w 9998 _ _ _ Tryz.underlying33]
  simp only [Result.andThen_ok]
  cases h2:(x.2.toList == y.2.toList) <;> simp
open Go.Lib (hid)
theorem yI (p:QP) (h:rf 402 p) (w:World) (hw:Good w) :
  Calls Tryz.prog 112 #[.agg #[.string (tx p.1),.string (tx p.2)]] w (RV (.int .i64 0) w):=by
 have HN:=hid (fun v w' (hg:Good w') (hv:Txs w' v [p.1,p.2])=>JV v [p.1,p.2] (by intro c hc;simp at hc;rcases hc with rfl | rfl <;> first | exact h.1.sm (n:=1) | exact h.2.sm (n:=1)) w' hg hv (by simp))
 have HS2:=hid (fun wA=>Zn p.1 p.2 wA)
 unfold RV at HN
 clear h
 generalize tx p.1=ta at *
 generalize tx p.2=tb at *
 go_enter Tryz.func112,Tryz.ntmps112
 go_upto_region 1 with fail
 obtain ⟨wA,aS⟩ : ∃ wA,wA=w.alloc (Obj.cells #[.string ta,.string tb] 113):=⟨_,rfl⟩
 have aP:Below w.heap.size w wA:=by rw [aS];exact ae _ _
 have x1:wA.heap[w.heap.size]?=some (.cells #[.string ta,.string tb] 113 (0,0)):=by rw [aS];exact World.alloc_heap_new _ _
 rw [←aS]
 clear aS
 have l1:=aa x1
 obtain ⟨a0,a1,_,_⟩:=aj x1
 have HS:=hid (HS2.out wA)
 have il:Below w.heap.size w (wA.alloc (Obj.cells #[.string ta,.string tb] 33)):=aP.trans ((ae _ _).mono aP.size)
 go_wp2_with fail
 refine (HN.out _ _ (hw.below il) HS.out).mono ?_
 rintro e w1 ⟨rfl,h1⟩
 have hb1:=il.trans (h1.mono il.size)
 go_wp2
 go_ret
 exact ⟨rfl,hb1⟩
theorem Uc (p:QP) (h:rf 402 p) (w:World) (hw:Good w) :
  Calls Tryz.prog 186 #[.agg #[.string (tx p.1),.string (tx p.2)]] w (RV (.int .i64 0) w):=by
 have H1:=hid (fun w' (hg:Good w')=>yI p h w' hg)
 unfold RV at H1
 clear h
 generalize tx p.1=a at *
 generalize tx p.2=b at *
 go_enter Tryz.func186,Tryz.ntmps186
 go_upto_region 1 with fail
 obtain ⟨wA,aS⟩ : ∃ wA,wA=w.alloc (Obj.cells #[.string a,.string b] 113):=⟨_,rfl⟩
 have aP:Below w.heap.size w wA:=by rw [aS];exact ae _ _
 have x1:wA.heap[w.heap.size]?=some (.cells #[.string a,.string b] 113 (0,0)):=by rw [aS];exact World.alloc_heap_new _ _
 rw [←aS]
 clear aS
 have l1:=aa x1
 obtain ⟨a0,a1,_,_⟩:=aj x1
 go_wp2_with fail
 refine (H1.out _ (hw.below aP)).mono ?_
 rintro e w1 ⟨rfl,h1⟩
 have hb1:=aP.trans (h1.mono aP.size)
 go_wp2
 go_ret
 exact ⟨rfl,hb1⟩
theorem Qk (q:Rat) (h:oz q) (w:World) (hw:Good w) :
  Calls Tryz.prog 144 #[.string (tx q)] w (RV (.tuple #[.string (tx q),.int .i64 0]) w):=by
 have H1:=hid (fun w' (hg:Good w')=>gY q h w' hg)
 unfold RV at H1
 clear h
 generalize tx q=a at *
 go_enter Tryz.func144,Tryz.ntmps144
 go_wp2_with fail
 refine (H1.out _ hw).mono ?_
 rintro e w1 ⟨rfl,h1⟩
 go_wp2
 go_ret2
 exact ⟨rfl,h1⟩
end Go.Proofs.YtglncfkoohgdaaaGreatDoor
namespace Go.Proofs.YtglncfkoohgdaaaGreatDoor
open Go.RowKit
theorem Ct {P:Program} (w:World) (base:Nat) (t ty e:TypeId) (i:TypeInfo) (z:Value) (size bytes:Nat) (ht:P.underlying t=some (.slice e)) (hi:P.info? e=some i) (hz:i.zero=some z)
  (hsize:i.size=size) (hby:i.bytes=bytes) (hzs:z.cells.size=size) (hsz:0<size)
  (v:Value) (n:Nat) (xs:List Value) (hown:w.ownsRow base e size v n xs)
  (a:Addr) (m c:Nat) (news:List Value) (hl:news.length=m*size) (hnews:∀ j u,news[j]?=some u→w.cell? (a.add j)=some u) (h1:∀ u∈news,u.oneCell'=true)
  (h63:n+m≤maxLen) (hbytes:(n+m)*bytes≤140737488355328) (hbase:base≤w.heap.size) :
  ∃ v' w',(Builtin.append_ #[t,t] ty #[v,.slice (some a) m c]).run P w=.ok v' w'∧w'.ownsRow base e size v' (n+m) (xs++news)∧w.grownBy w' v.ownBlock ∧
   (v'.ownBlock=v.ownBlock∨∃ g,v'.ownBlock=some g∧w.heap.size≤g):=by
 have weak:∀ {w':World} {v':Value},w'.ownsRow w.heap.size e size v' (n+m) (xs++news)→v.ownBlock=none∨True→(v'.ownBlock=v.ownBlock∨∃ g,v'.ownBlock=some g∧w.heap.size≤g)∨v'.ownBlock=none:=fun {w' v'} h _=>by
  cases hv:v'.ownBlock with
  | none=>exact .inr rfl
  | some g=>exact .inl (.inr ⟨g,rfl,(h.lt g hv).1⟩)
 rcases hown.2 with ⟨rfl,rfl⟩ | ⟨g,cap,cur,rfl,hbg,hg,hnc,hcm,hcs,htake⟩
 ·have hx:xs=[]:=List.eq_nil_of_length_eq_zero (by simpa using hown.1)
  subst hx
  obtain ⟨v',w',hr,h2,h3,h4⟩:=run_append_own (P:=P) w w.heap.size t ty e i z size bytes ht hi hz hsize hby hzs hsz (.slice none 0 0) 0 [] (World.ownsRow_nil w _ e size) a m c news hl hnews h1 h63 hbytes (Nat.le_refl _)
  refine ⟨v',w',hr,World.ownsRow.mono h2 hbase,h3,?_⟩
  rcases weak h2 (.inr trivial) with h | h
  ·exact h
  ·exact .inl h
 ·by_cases hroom:n+m≤cap
  ·obtain ⟨w',hr,h2,h3⟩:=run_append_fits (P:=P) w base t ty e i size ht hi hsize g n cap xs hown a m c news hl hnews h1 hroom
   exact ⟨_,w',hr,h2,h3,.inl rfl⟩
  ·obtain ⟨v',w',hr,h2,h3⟩:=run_append_arg_grows (P:=P) w t ty e i z size bytes ht hi hz hsize hby hzs hsz ⟨g,0,none⟩ n cap xs hown.1 (hown.cells (g:=g) rfl) a m c news hl hnews (by omega) h63 hbytes
   refine ⟨v',w',hr,World.ownsRow.mono h2 hbase,⟨h3.os,h3.tape,h3.output,h3.size,fun k hk _=>h3.block k hk (by simp)⟩,?_⟩
   rcases h2.2 with ⟨rfl,h0⟩ | ⟨g',cap',cur',rfl,hb',_⟩
   ·exfalso;omega
   ·exact .inr ⟨g',rfl,hb'⟩
theorem jR {P:Program} (w:World) {o:Oper} {a:Act} {K:Act→World→Prop} {Q:Exit→Act→World→Prop} (s x:Operand) (t:TypeId)
  (ho:o.op=.call { callee:=.builtin .append,args:=#[s,x],argTypes:=#[t,t] })
  (base:Nat) (e:TypeId) (i:TypeInfo) (z:Value) (size bytes:Nat) (ht:P.underlying t=some (.slice e)) (hi:P.info? e=some i) (hz:i.zero=some z)
  (hsize:i.size=size) (hby:i.bytes=bytes) (hzs:z.cells.size=size) (hsz:0<size)
  (v:Value) (n:Nat) (xs:List Value) (hs:a.eval s=v) (hown:w.ownsRow base e size v n xs)
  (ad:Addr) (m c:Nat) (news:List Value) (hx:a.eval x=.slice (some ad) m c) (hl:news.length=m*size) (hnews:∀ j u,news[j]?=some u→w.cell? (ad.add j)=some u) (h1:∀ u∈news,u.oneCell'=true)
  (h63:n+m≤maxLen) (hbytes:(n+m)*bytes≤140737488355328) (hbase:base≤w.heap.size)
  (h:∀ v' w',w'.ownsRow base e size v' (n+m) (xs++news)→w.grownBy w' v.ownBlock→(v'.ownBlock=v.ownBlock∨∃ g,v'.ownBlock=some g∧w.heap.size≤g)→K (a.put o.dst v') w'):o.wp P a w K Q:=by
 obtain ⟨v',w',hr,h2,h3,h4⟩:=Ct (P:=P) w base t o.type e i z size bytes ht hi hz hsize hby hzs hsz v n xs hown ad m c news hl hnews h1 h63 hbytes hbase
 unfold Oper.wp execOp
 simp only [ho,resolve,invoke,builtin,Sem.run_bind,Sem.run_pure,Result.andThen_ok,List.map_toArray,List.map_cons,List.map_nil,hs,hx,hr]
 exact h v' w' h2 h3 h4
theorem mX {P:Program} (w:World) {ops:Array Oper} {rest:List Oper} {o:Oper} {a:Act} {Q:Exit→Act→World→Prop} (hgd:o.guard=none) (s x:Operand) (t:TypeId)
  (ho:o.op=.call { callee:=.builtin .append,args:=#[s,x],argTypes:=#[t,t] })
  (base:Nat) (e:TypeId) (i:TypeInfo) (z:Value) (size bytes:Nat) (ht:P.underlying t=some (.slice e)) (hi:P.info? e=some i) (hz:i.zero=some z)
  (hsize:i.size=size) (hby:i.bytes=bytes) (hzs:z.cells.size=size) (hsz:0<size)
  (v:Value) (n:Nat) (xs:List Value) (hs:a.eval s=v) (hown:w.ownsRow base e size v n xs)
  (ad:Addr) (m c:Nat) (news:List Value) (hx:a.eval x=.slice (some ad) m c) (hl:news.length=m*size) (hnews:∀ j u,news[j]?=some u→w.cell? (ad.add j)=some u) (h1:∀ u∈news,u.oneCell'=true)
  (h63:n+m≤maxLen) (hbytes:(n+m)*bytes≤140737488355328) (hbase:base≤w.heap.size)
  (h:∀ v' w',w'.ownsRow base e size v' (n+m) (xs++news)→w.grownBy w' v.ownBlock→(v'.ownBlock=v.ownBlock∨∃ g,v'.ownBlock=some g∧w.heap.size≤g)→wpList P ops Q rest (a.put o.dst v') w'):wpList P ops Q (o :: rest) a w:=
 wpList_plain hgd fun _ hK=>jR w s x t ho base e i z size bytes ht hi hz hsize hby hzs hsz v n xs hs hown ad m c news hx hl hnews h1 h63 hbytes hbase fun v' w' h2 h3 h4=>hK _ _ (h v' w' h2 h3 h4)
def Cu (u v:Value):Prop:=u.ownBlock=none∨u.ownBlock≠v.ownBlock
theorem Cu.symm {u v:Value} (h:Cu u v):Cu v u:=by
 unfold Cu at *
 rcases h with h | h
 ·by_cases hv:v.ownBlock=none
  ·exact .inl hv
  ·rw [h];exact .inr hv
 ·exact .inr (Ne.symm h)
theorem Cu.grown {w w':World} {base:Nat} {e:TypeId} {size n:Nat} {u v v':Value} {xs:List Value} (h:Cu u v) (hu:w.ownsRow base e size u n xs) (hg:w.grownBy w' v.ownBlock) (hv:v'.ownBlock=v.ownBlock∨∃ g,v'.ownBlock=some g∧w.heap.size≤g) :
  Cu u v'∧w'.ownsRow base e size u n xs:=by
 refine ⟨?_,hu.kept hg h⟩
 rcases hv with hv | ⟨g,hv,hgs⟩
 ·unfold Cu;rw [hv];exact h
 ·cases hub:u.ownBlock with
  | none=>exact .inl hub
  | some k =>
   refine .inr ?_
   rw [hub,hv]
   intro e
   have:=(hu.lt k hub).2
   have:k=g:=Option.some.inj e
   omega
end Go.Proofs.YtglncfkoohgdaaaGreatDoor
namespace Go.Proofs.YtglncfkoohgdaaaGreatDoor
open Go.RowKit Go.Shelf
open Go.Lib (decDigits itoa nDigits)
theorem addr_add (b o j:Nat):(⟨b,o,none⟩ : Addr).add j=⟨b,o+j,none⟩:=by
 unfold Addr.add;split
 ·rename_i h;rw [h];rfl
 ·rfl
theorem MK {w:World} {b off:Nat} {L:List jh} (h:∀ i (h:i<L.length),w.cell? ⟨b,off+i*2,none⟩=some (.string L[i].1)∧w.cell? ⟨b,off+i*2+1,none⟩=some (.string L[i].2)) (k:Nat) :
  ∀ j u,(cellsS (L.drop k))[j]?=some u→w.cell? ((⟨b,off+k*2,none⟩ : Addr).add j)=some u:=by
 intro j u hj
 have hl:=jI (L.drop k)
 have hjl:=(List.getElem?_eq_some_iff.1 hj).1
 rw [hl,List.length_drop] at hjl
 have hi:j/2<(L.drop k).length:=by rw [List.length_drop];omega
 have hc:=h (k+j/2) (by omega)
 rw [addr_add]
 show w.cell? ⟨b,off+k*2+j,none⟩=some u
 have g:=eQ (L.drop k) (j/2) hi (j % 2) (by omega)
 rw [show j/2*2+j % 2=j by omega,hj] at g
 rw [g]
 rcases (show j % 2=0∨j % 2=1 by omega) with e | e
 ·simp only [e,List.getElem_cons_zero,List.getElem_drop]
  rw [←hc.1];congr 2;omega
 ·simp only [e,List.getElem_cons_succ,List.getElem_cons_zero,List.getElem_drop]
  rw [←hc.2];congr 2;omega
theorem ML {w:World} {b off:Nat} {L:List jh} (h:∀ i (h:i<L.length),w.cell? ⟨b,off+i*2,none⟩=some (.string L[i].1)∧w.cell? ⟨b,off+i*2+1,none⟩=some (.string L[i].2)) (k:Nat) :
  ∀ j u,(cellsS (L.take k))[j]?=some u→w.cell? ((⟨b,off,none⟩ : Addr).add j)=some u:=by
 have:=MK (w:=w) (b:=b) (off:=off) (L:=L.take k) (fun i hi=>by
  have hi2:i<L.length:=by rw [List.length_take] at hi;omega
  have:=h i hi2
  rw [List.getElem_take];exact this) 0
 simpa using this
theorem pK (L:List jh):∀ u∈cellsS L,u.oneCell'=true:=by
 intro u hu
 unfold cellsS at hu
 obtain ⟨p,_,hp⟩:=List.mem_flatMap.1 hu
 simp only [List.mem_cons,List.not_mem_nil,or_false] at hp
 rcases hp with rfl | rfl <;> rfl
open Go.Lib (hid)
open Classical in
noncomputable def xw (M:List QP):Int:=if MI M then (if ∀ j,j<M.length→¬ eB (pt M j) (pt M 0) then 0 else 6) else 7
theorem Cv {M:List QP} (h:MI M) (k:∀ j,j<M.length→¬ eB (pt M j) (pt M 0)):xw M=0:=by unfold xw;rw [if_pos h,if_pos k]
theorem Ql {M:List QP} (h:MI M) {j:Nat} (hj:j<M.length) (k:eB (pt M j) (pt M 0)):xw M=6:=by unfold xw;rw [if_pos h,if_neg (fun H=>H j hj k)]
theorem J5 {M:List QP} (h:¬ MI M):xw M=7:=by unfold xw;rw [if_neg h]
theorem MM {M:List QP} (h:Poly M):xw M=0:=Cv h.1 (fun j hj=>by
 have:=h.1.1
 rw [cO hj,cO (by omega)];exact h.2 j hj)
def xy (M:List QP) (i k:Nat):Prop:=∀ j,j<k→j≠i→j≠jk M.length i→0<eu (pt M i) (pt M (jk M.length i)) (pt M j)
theorem xy.zero (M:List QP) (i:Nat):xy M i 0:=fun _ hj=>absurd hj (Nat.not_lt_zero _)
theorem xy.step {M:List QP} {i k:Nat} (h:xy M i k) (hk:k=i∨k=jk M.length i∨0<eu (pt M i) (pt M (jk M.length i)) (pt M k)):xy M i (k+1):=fun j hj h1 h2=>by
 rcases (show j<k∨j=k by omega) with e | e
 ·exact h j e h1 h2
 ·subst e
  rcases hk with hk | hk | hk
  ·exact absurd hk h1
  ·exact absurd hk h2
  ·exact hk
def vB (M:List QP) (k:Nat):Prop:=∀ i,i<k→xy M i M.length
theorem vB.step {M:List QP} {k:Nat} (h:vB M k) (hk:xy M k M.length):vB M (k+1):=fun i hi=>by
 rcases (show i<k∨i=k by omega) with e | e
 ·exact h i e
 ·rw [e];exact hk
theorem vB.cvx {M:List QP} (h3:3≤M.length) (h:vB M M.length):MI M:=⟨h3,fun i j hi hj h1 h2=>by
 rw [←cO hi,←cO hj,←cO (rz (by omega))]
 exact h i hi j hj h1 h2⟩
theorem Zw {M:List QP} {i j:Nat} (hi:i<M.length) (hj:j<M.length) (h1:j≠i) (h2:j≠jk M.length i) (h:¬ 0<eu (pt M i) (pt M (jk M.length i)) (pt M j)):¬ MI M:=fun H=>h (by
 have h3:=H.1
 have:=H.2 i j hi hj h1 h2
 rw [←cO hi,←cO hj,←cO (rz (by omega))] at this
 exact this)
theorem Zx {n k:Nat} (h:k<n):Int.tmod ((k:Int)+1) (n:Int)=((jk n k:Nat):Int):=by
 rw [Int.tmod_eq_emod_of_nonneg (by omega)]
 unfold jk
 split
 ·rw [Int.emod_eq_of_lt (by omega) (by omega)];rfl
 ·rw [show (k:Int)+1=(n:Int) by omega,Int.emod_self];rfl
theorem mY {w wA:World} {a b:Value} {t:TypeId} (aS:wA=w.alloc (Obj.cells #[a,b] t)) :
  Below w.heap.size w wA∧w.heap.size<wA.heap.size∧wA.cell? ⟨w.heap.size,0,none⟩=some a∧wA.cell? ⟨w.heap.size,1,none⟩=some b:=by
 rw [aS]
 have h:=World.alloc_heap_new w (Obj.cells #[a,b] t)
 obtain ⟨h1,h2,_,_⟩:=aj h
 exact ⟨ae _ _,aa h,h1,h2⟩
theorem Qm (v:Value) (M:List QP) (h3:3≤M.length) (h60:M.length≤60) (hz:∀ p∈M,rf 402 p) (w:World) (hw:Good w) (hv:qp w v M) :
  Calls Tryz.prog 143 #[v] w (RV (.int .i64 (xw M)) w):=by
 obtain ⟨R,hR⟩ : ∃ R:Int,R=xw M:=⟨_,rfl⟩
 rw [←hR]
 have HR:=hid hR
 have YP:=hid (fun i (hi:i<M.length) w' (hg:Good w')=>yI (pt M i) (hz _ (bV hi)) w' hg)
 have HTU:=hid (fun i (hi:i<M.length) j (hj:j<M.length) k (hk:k<M.length) w' (hg:Good w')=>Ow (pt M i) (pt M j) (pt M k) (((hz _ (bV hi))).sm) (((hz _ (bV hj))).sm) (((hz _ (bV hk))).sm) w' hg)
 have zW:=hid (fun i (hi:i<M.length) j (hj:j<M.length) w' (hg:Good w')=>GY (pt M i) (pt M j) (((hz _ (bV hi))).sm) (((hz _ (bV hj))).sm) w' hg)
 unfold RV at YP HTU zW
 unfold xm at HTU zW
 obtain ⟨p,c,rfl,hcl,hcm⟩:=hv.slice
 unfold maxLen at hcm
 obtain ⟨B,off,rfl,hbl,hcell⟩:=qp.cells hv (by omega)
 have Cw:=hid (fun i (hi:i<M.length) wx (h:Below w.heap.size w wx)=>And.intro ((h.cell (p:=⟨B,off+i*2,none⟩) hbl).trans (hcell i hi).1) ((h.cell (p:=⟨B,off+i*2+1,none⟩) hbl).trans (hcell i hi).2))
 have q1:decide ((M.length:Int)<3)=false:=decide_eq_false (by omega)
 have q2:decide ((M.length:Int)>60)=false:=decide_eq_false (by omega)
 have q3:decide ((60:Int)<(M.length:Int))=false:=decide_eq_false (by omega)
 have hbw:=Below.refl w.heap.size w
 clear hz hv hR hcell
 go_enter Tryz.func143,Tryz.ntmps143
 go_wp2_with fail
 go_loopw [21] (fun iv wr=>∃ k:Nat,k≤M.length∧iv=.int .i64 (k:Int)∧Below w.heap.size w wr) (fun iv _=>M.length-(intOf iv).toNat)
 case atStart=>exact ⟨0,Nat.zero_le _,rfl,hbw⟩
 case round =>
  obtain ⟨k,hkl,rfl,hbr⟩:=hrel
  by_cases hk:k<M.length
  ·have hkn:decide ((k:Int)<(M.length:Int))=true:=decide_eq_true (by omega)
   have i1:(0:Int)≤(k:Int):=by omega
   have i2:(k:Int)<(M.length:Int):=by omega
   obtain ⟨c0,c1⟩:=Cw.out k hk wr hbr
   have H1:=hid (YP.out k hk)
   generalize tx (pt M k).1=p1 at *
   generalize tx (pt M k).2=p2 at *
   go_upto_region 8 with fail
   obtain ⟨wC,pM⟩ : ∃ wC,wC=wr.alloc (Obj.cells #[.string p1,.string p2] 113):=⟨_,rfl⟩
   obtain ⟨iw,Eo,g0,g1⟩:=mY pM
   rw [←pM]
   clear pM
   have hbC:=hbr.trans (iw.mono hbr.size)
   go_wp2_with fail
   refine (H1.out _ (hw.below hbC)).mono ?_
   rintro e w1 ⟨rfl,hb1⟩
   go_wp2
   refine ⟨⟨k+1,hk,aA k,hbC.trans (hb1.mono hbC.size)⟩,?_⟩
   show M.length-((k:Int)+1).toNat<M.length-((k:Int)).toNat
   omega
  ·have hkn:decide ((k:Int)<(M.length:Int))=false:=decide_eq_false (by omega)
   obtain ⟨w2,hw2⟩ : ∃ w2,w2=wr:=⟨_,rfl⟩
   subst hw2
   go_wp2_with fail
   go_loopw [33] (fun iv wr=>∃ k:Nat,k≤M.length∧iv=.int .i64 (k:Int)∧vB M k∧Below w.heap.size w wr) (fun iv _=>M.length-(intOf iv).toNat)
   case atStart=>exact ⟨0,Nat.zero_le _,rfl,fun _ hi=>absurd hi (Nat.not_lt_zero _),hbr⟩
   case round =>
    clear hbr hkn hk hkl
    obtain ⟨k,hkl,rfl,hRS,hbr⟩:=hrel
    have yJ:=hid hRS
    clear hRS
    by_cases hk:k<M.length
    ·have hkn:decide ((k:Int)<(M.length:Int))=true:=decide_eq_true (by omega)
     have i1:(0:Int)≤(k:Int):=by omega
     have i2:(k:Int)<(M.length:Int):=by omega
     have hnx:=rz (i:=k) (show 0<M.length by omega)
     have ahm:jk M.length k≠k:=by unfold jk;split <;> omega
     have t1:=Zx hk
     have t2:(0:Int)≤((jk M.length k:Nat):Int):=by omega
     have t3:((jk M.length k:Nat):Int)<(M.length:Int):=by omega
     have t4:((M.length:Int) == 0)=false:=beq_eq_false_iff_ne.2 (by omega)
     have t5:IntKind.i64.wrap ((k:Int)+1)=(k:Int)+1:=IntWalk.i64_in _ (by omega)
     have t6:(M.length:Int)≠0:=by omega
     obtain ⟨c0,c1⟩:=Cw.out k hk wr hbr
     generalize ha1:tx (pt M k).1=a1 at *
     generalize ha2:tx (pt M k).2=a2 at *
     obtain ⟨wo,hwo⟩ : ∃ wo,wo=wr:=⟨_,rfl⟩
     subst hwo
     go_upto_region 15 with fail
     obtain ⟨wB,MN⟩ : ∃ wB,wB=wo.alloc (Obj.cells #[.string a1,.string a2] 113):=⟨_,rfl⟩
     obtain ⟨Zy,lwB,g0,g1⟩:=mY MN
     rw [←MN]
     clear MN
     have HG:=hid (And.intro g0 g1)
     clear g0 g1 c0 c1
     go_upto_region 16 with fail
     have il:=hbr.trans (Zy.mono hbr.size)
     go_wp2_with fail
     go_loopw [45] (fun iv wr=>∃ j:Nat,j≤M.length∧iv=.int .i64 (j:Int)∧xy M k j∧Below wB.heap.size wB wr) (fun iv _=>M.length-(intOf iv).toNat)
     case atStart=>exact ⟨0,Nat.zero_le _,rfl,xy.zero _ _,Below.refl _ _⟩
     case round =>
      obtain ⟨j,hjl,rfl,hRT,gU⟩:=hrel
      have Zz:=hid hRT
      have hbi:=il.trans (gU.mono il.size)
      clear hRT
      by_cases hj:j<M.length
      ·have hjn:decide ((j:Int)<(M.length:Int))=true:=decide_eq_true (by omega)
       have j1:(0:Int)≤(j:Int):=by omega
       have j2:(j:Int)<(M.length:Int):=by omega
       obtain ⟨e0,e1⟩:=Cw.out j hj wr hbi
       obtain ⟨f0,f1⟩:=Cw.out (jk M.length k) hnx wr hbi
       have oD:B<wr.heap.size:=Nat.lt_of_lt_of_le hbl hbi.size
       have lqr:wo.heap.size<wr.heap.size:=Nat.lt_of_lt_of_le lwB gU.size
       have gr0:=(gU.cell (p:=⟨wo.heap.size,0,none⟩) lwB).trans HG.out.1
       have gr1:=(gU.cell (p:=⟨wo.heap.size,1,none⟩) lwB).trans HG.out.2
       have H1:=hid (HTU.out k hk (jk M.length k) hnx j hj)
       rw [ha1,ha2] at H1
       generalize tx (pt M j).1=y1 at *
       generalize tx (pt M j).2=y2 at *
       generalize tx (pt M (jk M.length k)).1=x1 at *
       generalize tx (pt M (jk M.length k)).2=x2 at *
       go_upto_region 19 with fail
       obtain ⟨wC,pM⟩ : ∃ wC,wC=wr.alloc (Obj.cells #[.string y1,.string y2] 113):=⟨_,rfl⟩
       obtain ⟨iw,Eo,z0,z1⟩:=mY pM
       rw [←pM]
       clear pM
       have hbC:=hbi.trans (iw.mono hbi.size)
       have pO:B<wC.heap.size:=Nat.lt_of_lt_of_le oD iw.size
       have GZ:wo.heap.size<wC.heap.size:=Nat.lt_of_lt_of_le lqr iw.size
       have g0:=(iw.cell (p:=⟨wo.heap.size,0,none⟩) lqr).trans gr0
       have g1:=(iw.cell (p:=⟨wo.heap.size,1,none⟩) lqr).trans gr1
       have d0:=(iw.cell (p:=⟨B,off+jk M.length k*2,none⟩) oD).trans f0
       have d1:=(iw.cell (p:=⟨B,off+jk M.length k*2+1,none⟩) oD).trans f1
       clear e0 e1 f0 f1 gr0 gr1
       by_cases hjk:j=k
       ·have HN:=hid (Zz.out.step (.inl hjk))
        have n1:((j:Int) != (k:Int))=false:=by subst hjk;simp
        have n2:((j:Int) == (k:Int))=true:=by subst hjk;simp
        clear hjk
        go_wp2_with fail
        refine aN (fun W'=>Below wC.heap.size wC W') [0,1,2,3,4,5,6,7,8,9,10,11,12,13,14,15,16] [] 17 (by kernel_rfl) (by kernel_rfl) ⟨rfl,rfl,rfl,Nat.le_refl _,fun _ _=>rfl⟩ ?_
        iterate 4
         refine aL rfl ?_ rfl ?_ ?_
         rotate_left
         ·intro W' hS'
          have s0:=(hS'.cell (p:=⟨wo.heap.size,0,none⟩) GZ).trans g0
          have s1:=(hS'.cell (p:=⟨wo.heap.size,1,none⟩) GZ).trans g1
          have s2:=(hS'.cell (p:=⟨wr.heap.size,0,none⟩) Eo).trans z0
          have s3:=(hS'.cell (p:=⟨wr.heap.size,1,none⟩) Eo).trans z1
          have s4:=(hS'.cell (p:=⟨B,off+jk M.length k*2,none⟩) pO).trans d0
          have s5:=(hS'.cell (p:=⟨B,off+jk M.length k*2+1,none⟩) pO).trans d1
          go_simp
          try with_reducible rfl
         try simp only [zA,zB,zC,Act.put,zD,zE,zF]
        iterate 3
         refine kN rfl rfl ?_
         try simp only [zA,zB,zC,Act.put,zD,zE,zF]
        iterate 2
         refine aL rfl ?_ rfl ?_ ?_
         rotate_left
         ·intro W' hS'
          have s0:=(hS'.cell (p:=⟨wo.heap.size,0,none⟩) GZ).trans g0
          have s1:=(hS'.cell (p:=⟨wo.heap.size,1,none⟩) GZ).trans g1
          have s2:=(hS'.cell (p:=⟨wr.heap.size,0,none⟩) Eo).trans z0
          have s3:=(hS'.cell (p:=⟨wr.heap.size,1,none⟩) Eo).trans z1
          have s4:=(hS'.cell (p:=⟨B,off+jk M.length k*2,none⟩) pO).trans d0
          have s5:=(hS'.cell (p:=⟨B,off+jk M.length k*2+1,none⟩) pO).trans d1
          go_simp
          try with_reducible rfl
         try simp only [zA,zB,zC,Act.put,zD,zE,zF]
        iterate 8
         refine kN rfl rfl ?_
         try simp only [zA,zB,zC,Act.put,zD,zE,zF]
        unfold bE
        simp only [List.drop_succ_cons,List.drop_zero]
        try simp only [zA,zB,zC,Act.put,zD,zE,zF]
        refine aB rfl (fun K hK=>?_)
        go_simp
        refine hK _ _ ⟨trivial,aQ ?_⟩
        clear hK K
        try simp only [zA,zB,zC,Act.put,zD,zE,zF]
        refine ag.mk ?_
        obtain ⟨u,Ud⟩ : ∃ u,u=wC.drew:=⟨_,rfl⟩
        have hRZ:Below wC.heap.size wC u:=by rw [Ud];exact ⟨rfl,rfl,rfl,Nat.le_refl _,fun _ _=>rfl⟩
        rw [←Ud]
        clear Ud
        have J6:Below wr.heap.size wr _:=iw.trans (hRZ.mono iw.size)
        go_wp2
        refine ⟨⟨j+1,hj,aA j,HN.out,gU.trans (J6.mono gU.size)⟩,?_⟩
        show M.length-((j:Int)+1).toNat<M.length-((j:Int)).toNat
        omega
       ·have n1:((j:Int) != (k:Int))=true:=by simpa using (show ¬ (j:Int)=(k:Int) by omega)
        have n2:((j:Int) == (k:Int))=false:=beq_eq_false_iff_ne.2 (by omega)
        by_cases hjx:j=jk M.length k
        ·have HN:=hid (Zz.out.step (.inr (.inl hjx)))
         have n3:((j:Int) != ((jk M.length k:Nat):Int))=false:=by rw [←hjx];simp
         have n4:((j:Int) == ((jk M.length k:Nat):Int))=true:=by rw [←hjx];simp
         clear hjk hjx
         go_wp2_with fail
         refine aN (fun W'=>Below wC.heap.size wC W') [0,1,2,3,4,5,6,7,8,9,10,11,12,13,14,15,16] [] 17 (by kernel_rfl) (by kernel_rfl) ⟨rfl,rfl,rfl,Nat.le_refl _,fun _ _=>rfl⟩ ?_
         iterate 9
          refine aL rfl ?_ rfl ?_ ?_
          rotate_left
          ·intro W' hS'
           have s0:=(hS'.cell (p:=⟨wo.heap.size,0,none⟩) GZ).trans g0
           have s1:=(hS'.cell (p:=⟨wo.heap.size,1,none⟩) GZ).trans g1
           have s2:=(hS'.cell (p:=⟨wr.heap.size,0,none⟩) Eo).trans z0
           have s3:=(hS'.cell (p:=⟨wr.heap.size,1,none⟩) Eo).trans z1
           have s4:=(hS'.cell (p:=⟨B,off+jk M.length k*2,none⟩) pO).trans d0
           have s5:=(hS'.cell (p:=⟨B,off+jk M.length k*2+1,none⟩) pO).trans d1
           go_simp
           try with_reducible rfl
          try simp only [zA,zB,zC,Act.put,zD,zE,zF]
         iterate 8
          refine kN rfl rfl ?_
          try simp only [zA,zB,zC,Act.put,zD,zE,zF]
         unfold bE
         simp only [List.drop_succ_cons,List.drop_zero]
         try simp only [zA,zB,zC,Act.put,zD,zE,zF]
         refine aB rfl (fun K hK=>?_)
         go_simp
         refine hK _ _ ⟨trivial,aQ ?_⟩
         clear hK K
         try simp only [zA,zB,zC,Act.put,zD,zE,zF]
         refine ag.mk ?_
         obtain ⟨u,Ud⟩ : ∃ u,u=wC.drew:=⟨_,rfl⟩
         have hRZ:Below wC.heap.size wC u:=by rw [Ud];exact ⟨rfl,rfl,rfl,Nat.le_refl _,fun _ _=>rfl⟩
         rw [←Ud]
         clear Ud
         have J6:Below wr.heap.size wr _:=iw.trans (hRZ.mono iw.size)
         go_wp2
         refine ⟨⟨j+1,hj,aA j,HN.out,gU.trans (J6.mono gU.size)⟩,?_⟩
         show M.length-((j:Int)+1).toNat<M.length-((j:Int)).toNat
         omega
        ·have n3:((j:Int) != ((jk M.length k:Nat):Int))=true:=by simpa using (show ¬ (j:Int)=((jk M.length k:Nat):Int) by omega)
         have n4:((j:Int) == ((jk M.length k:Nat):Int))=false:=beq_eq_false_iff_ne.2 (by omega)
         have hgc:=Ch (eu (pt M k) (pt M (jk M.length k)) (pt M j))
         have HGC:=hid hgc
         have HBAD:=hid (fun h=>Zw hk hj hjk hjx h)
         clear hjk hjx hgc
         obtain ⟨g,hg⟩ : ∃ g,g=nJ (eu (pt M k) (pt M (jk M.length k)) (pt M j)):=⟨_,rfl⟩
         rw [←hg] at H1 HGC
         clear hg
         by_cases hg0:g≤0
         ·have HR7:=hid (show R=7 by
           rw [HR.out]
           refine J5 (HBAD.out ?_)
           rcases HGC.out with ⟨q1,q2⟩ | ⟨q1,q2⟩ | ⟨q1,q2⟩
           ·grind
           ·grind
           ·omega)
          have n5:decide (g≤0)=true:=decide_eq_true hg0
          clear hg0 HGC HBAD
          go_wp2_with fail
          refine aN (fun W'=>Below wC.heap.size wC W') [0,1,2,3,4,5,6,7,8,9,10,11,12,13,14] [15] 16 (by kernel_rfl) (by kernel_rfl) ⟨rfl,rfl,rfl,Nat.le_refl _,fun _ _=>rfl⟩ ?_
          iterate 15
           refine aL rfl ?_ rfl ?_ ?_
           rotate_left
           ·intro W' hS'
            have s0:=(hS'.cell (p:=⟨wo.heap.size,0,none⟩) GZ).trans g0
            have s1:=(hS'.cell (p:=⟨wo.heap.size,1,none⟩) GZ).trans g1
            have s2:=(hS'.cell (p:=⟨wr.heap.size,0,none⟩) Eo).trans z0
            have s3:=(hS'.cell (p:=⟨wr.heap.size,1,none⟩) Eo).trans z1
            have s4:=(hS'.cell (p:=⟨B,off+jk M.length k*2,none⟩) pO).trans d0
            have s5:=(hS'.cell (p:=⟨B,off+jk M.length k*2+1,none⟩) pO).trans d1
            go_simp
            try with_reducible rfl
           try simp only [zA,zB,zC,Act.put,zD,zE,zF]
          have hR0:Below wC.heap.size wC wC.drew:=⟨rfl,rfl,rfl,Nat.le_refl _,fun _ _=>rfl⟩
          refine aD rfl rfl (fun K hK=>?_)
          go_simp
          refine (H1.out _ (hw.below (hbC.trans (hR0.mono hbC.size)))).mono ?_
          rintro e u1 ⟨rfl,lV⟩
          have eY:=hR0.trans (lV.mono hR0.size)
          refine hK _ _ ⟨eY,?_⟩
          clear hK K
          try simp only [zA,zB,zC,Act.put,zD,zE,zF]
          unfold bE
          simp only [List.drop_succ_cons,List.drop_zero]
          try simp only [zA,zB,zC,Act.put,zD,zE,zF]
          refine aB rfl (fun K hK=>?_)
          go_simp
          refine hK _ _ ⟨trivial,?_⟩
          clear hK K
          try simp only [zA,zB,zC,Act.put,zD,zE,zF]
          refine aB rfl (fun K hK=>?_)
          go_simp
          refine hK _ _ ⟨trivial,aQ ?_⟩
          clear hK K
          try simp only [zA,zB,zC,Act.put,zD,zE,zF]
          refine ag.mk ?_
          have J6:Below wr.heap.size wr _:=iw.trans (eY.mono iw.size)
          go_wp2
          go_ret
          exact ⟨by rw [HR7.out];rfl,hbi.trans (J6.mono hbi.size)⟩
         ·have HN:=hid (Zz.out.step (.inr (.inr (by
           rcases HGC.out with ⟨q1,q2⟩ | ⟨q1,q2⟩ | ⟨q1,q2⟩
           ·omega
           ·omega
           ·exact q1))))
          have n5:decide (g≤0)=false:=decide_eq_false hg0
          clear hg0 HGC HBAD
          go_wp2_with fail
          refine aN (fun W'=>Below wC.heap.size wC W') [0,1,2,3,4,5,6,7,8,9,10,11,12,13,14] [15] 16 (by kernel_rfl) (by kernel_rfl) ⟨rfl,rfl,rfl,Nat.le_refl _,fun _ _=>rfl⟩ ?_
          iterate 15
           refine aL rfl ?_ rfl ?_ ?_
           rotate_left
           ·intro W' hS'
            have s0:=(hS'.cell (p:=⟨wo.heap.size,0,none⟩) GZ).trans g0
            have s1:=(hS'.cell (p:=⟨wo.heap.size,1,none⟩) GZ).trans g1
            have s2:=(hS'.cell (p:=⟨wr.heap.size,0,none⟩) Eo).trans z0
            have s3:=(hS'.cell (p:=⟨wr.heap.size,1,none⟩) Eo).trans z1
            have s4:=(hS'.cell (p:=⟨B,off+jk M.length k*2,none⟩) pO).trans d0
            have s5:=(hS'.cell (p:=⟨B,off+jk M.length k*2+1,none⟩) pO).trans d1
            go_simp
            try with_reducible rfl
           try simp only [zA,zB,zC,Act.put,zD,zE,zF]
          have hR0:Below wC.heap.size wC wC.drew:=⟨rfl,rfl,rfl,Nat.le_refl _,fun _ _=>rfl⟩
          refine aD rfl rfl (fun K hK=>?_)
          go_simp
          refine (H1.out _ (hw.below (hbC.trans (hR0.mono hbC.size)))).mono ?_
          rintro e u1 ⟨rfl,lV⟩
          have eY:=hR0.trans (lV.mono hR0.size)
          refine hK _ _ ⟨eY,?_⟩
          clear hK K
          try simp only [zA,zB,zC,Act.put,zD,zE,zF]
          unfold bE
          simp only [List.drop_succ_cons,List.drop_zero]
          try simp only [zA,zB,zC,Act.put,zD,zE,zF]
          refine aB rfl (fun K hK=>?_)
          go_simp
          refine hK _ _ ⟨trivial,?_⟩
          clear hK K
          try simp only [zA,zB,zC,Act.put,zD,zE,zF]
          refine aB rfl (fun K hK=>?_)
          go_simp
          refine hK _ _ ⟨trivial,aQ ?_⟩
          clear hK K
          try simp only [zA,zB,zC,Act.put,zD,zE,zF]
          refine ag.mk ?_
          have J6:Below wr.heap.size wr _:=iw.trans (eY.mono iw.size)
          go_wp2
          refine ⟨⟨j+1,hj,aA j,HN.out,gU.trans (J6.mono gU.size)⟩,?_⟩
          show M.length-((j:Int)+1).toNat<M.length-((j:Int)).toNat
          omega
      ·have hjn:decide ((j:Int)<(M.length:Int))=false:=decide_eq_false (by omega)
       have HN:=hid (yJ.out.step (by have:=Zz.out;rwa [show j=M.length by omega] at this))
       go_wp2
       refine ⟨⟨k+1,hk,aA k,HN.out,hbi⟩,?_⟩
       show M.length-((k:Int)+1).toNat<M.length-((k:Int)).toNat
       omega
    ·have hkn:decide ((k:Int)<(M.length:Int))=false:=decide_eq_false (by omega)
     have HCV:=hid (vB.cvx h3 (by have:=yJ.out;rwa [show k=M.length by omega] at this))
     obtain ⟨wo,hwo⟩ : ∃ wo,wo=wr:=⟨_,rfl⟩
     subst hwo
     have s1:(1:Int)≤(M.length:Int):=by omega
     have s2:¬ c=1:=by omega
     have s3:1≤M.length:=by omega
     go_wp2_with fail
     go_loopw [73] (fun iv wr=>∃ k:Nat,k<M.length∧iv=.int .i64 (k:Int)∧(∀ j,j≤k→¬ eB (pt M j) (pt M 0))∧Below w.heap.size w wr) (fun iv _=>M.length-(intOf iv).toNat)
     case atStart=>exact ⟨0,by omega,rfl,fun j hj=>by rw [show j=0 by omega];exact jY,hbr⟩
     case round =>
      clear hbr hk hkl hkn
      obtain ⟨k,hkl,rfl,hLE,hbr⟩:=hrel
      have Ue:=hid hLE
      clear hLE
      by_cases hk:k<M.length-1
      ·have hkn:decide ((k:Int)<((M.length-1:Nat):Int))=true:=decide_eq_true (by omega)
       have i1:(0:Int)≤(k:Int):=by omega
       have i2:(k:Int)<((M.length-1:Nat):Int):=by omega
       have oD:B<wr.heap.size:=Nat.lt_of_lt_of_le hbl hbr.size
       obtain ⟨e0,e1⟩:=Cw.out (k+1) (by omega) wr hbr
       obtain ⟨f0,f1⟩:=Cw.out 0 (by omega) wr hbr
       rw [show off+(k+1)*2=off+2+k*2 by omega] at e0 e1
       rw [show off+0*2=off by omega] at f0 f1
       have H1:=hid (zW.out (k+1) (by omega) 0 (by omega))
       have Uf:=hid (@oC (pt M (k+1)) (pt M 0))
       have zI:(0:Int)<(M.length:Int):=by omega
       have zN:0<M.length:=by omega
       generalize tx (pt M (k+1)).1=y1 at *
       generalize tx (pt M (k+1)).2=y2 at *
       generalize tx (pt M 0).1=x1 at *
       generalize tx (pt M 0).2=x2 at *
       generalize J4 (pt M (k+1)) (pt M 0)=g at *
       go_upto_region 26 with fail
       obtain ⟨wC,pM⟩ : ∃ wC,wC=wr.alloc (Obj.cells #[.string y1,.string y2] 113):=⟨_,rfl⟩
       obtain ⟨iw,Eo,z0,z1⟩:=mY pM
       rw [←pM]
       clear pM
       have hbC:=hbr.trans (iw.mono hbr.size)
       have pO:B<wC.heap.size:=Nat.lt_of_lt_of_le oD iw.size
       have d0:=(iw.cell (p:=⟨B,off,none⟩) oD).trans f0
       have d1:=(iw.cell (p:=⟨B,off+1,none⟩) oD).trans f1
       clear e0 e1 f0 f1
       by_cases hg:g<0
       ·have HR6:=hid (show R=6 by rw [HR.out];exact Ql HCV.out (show k+1<M.length by omega) (Uf.out.1 hg))
        have n1:decide (g<0)=true:=decide_eq_true hg
        clear hg Uf
        go_wp2_with fail
        refine aN (fun W'=>Below wC.heap.size wC W') [0,1,2,3] [4] 5 (by kernel_rfl) (by kernel_rfl) ⟨rfl,rfl,rfl,Nat.le_refl _,fun _ _=>rfl⟩ ?_
        iterate 4
         refine aL rfl ?_ rfl ?_ ?_
         rotate_left
         ·intro W' hS'
          have s0:=(hS'.cell (p:=⟨wr.heap.size,0,none⟩) Eo).trans z0
          have s1:=(hS'.cell (p:=⟨wr.heap.size,1,none⟩) Eo).trans z1
          have s2:=(hS'.cell (p:=⟨B,off,none⟩) pO).trans d0
          have s3:=(hS'.cell (p:=⟨B,off+1,none⟩) pO).trans d1
          go_simp
          try with_reducible rfl
         try simp only [zA,zB,zC,Act.put,zD,zE,zF]
        have hR0:Below wC.heap.size wC wC.drew:=⟨rfl,rfl,rfl,Nat.le_refl _,fun _ _=>rfl⟩
        refine aD rfl rfl (fun K hK=>?_)
        go_simp
        refine (H1.out _ (hw.below (hbC.trans (hR0.mono hbC.size)))).mono ?_
        rintro e u1 ⟨rfl,lV⟩
        have eY:=hR0.trans (lV.mono hR0.size)
        refine hK _ _ ⟨eY,?_⟩
        clear hK K
        try simp only [zA,zB,zC,Act.put,zD,zE,zF]
        unfold bE
        simp only [List.drop_succ_cons,List.drop_zero]
        try simp only [zA,zB,zC,Act.put,zD,zE,zF]
        refine aB rfl (fun K hK=>?_)
        go_simp
        refine hK _ _ ⟨trivial,aQ ?_⟩
        clear hK K
        try simp only [zA,zB,zC,Act.put,zD,zE,zF]
        refine ag.mk ?_
        have J6:Below wr.heap.size wr _:=iw.trans (eY.mono iw.size)
        go_wp2
        go_ret
        exact ⟨by rw [HR6.out];rfl,hbr.trans (J6.mono hbr.size)⟩
       ·have HN:=hid (show ∀ j,j≤k+1→¬ eB (pt M j) (pt M 0) from fun j hj=>by
         rcases (show j≤k∨j=k+1 by omega) with e | e
         ·exact Ue.out j e
         ·rw [e];exact fun h=>hg (Uf.out.2 h))
        have n1:decide (g<0)=false:=decide_eq_false hg
        clear hg Uf
        go_wp2_with fail
        refine aN (fun W'=>Below wC.heap.size wC W') [0,1,2,3] [4] 5 (by kernel_rfl) (by kernel_rfl) ⟨rfl,rfl,rfl,Nat.le_refl _,fun _ _=>rfl⟩ ?_
        iterate 4
         refine aL rfl ?_ rfl ?_ ?_
         rotate_left
         ·intro W' hS'
          have s0:=(hS'.cell (p:=⟨wr.heap.size,0,none⟩) Eo).trans z0
          have s1:=(hS'.cell (p:=⟨wr.heap.size,1,none⟩) Eo).trans z1
          have s2:=(hS'.cell (p:=⟨B,off,none⟩) pO).trans d0
          have s3:=(hS'.cell (p:=⟨B,off+1,none⟩) pO).trans d1
          go_simp
          try with_reducible rfl
         try simp only [zA,zB,zC,Act.put,zD,zE,zF]
        have hR0:Below wC.heap.size wC wC.drew:=⟨rfl,rfl,rfl,Nat.le_refl _,fun _ _=>rfl⟩
        refine aD rfl rfl (fun K hK=>?_)
        go_simp
        refine (H1.out _ (hw.below (hbC.trans (hR0.mono hbC.size)))).mono ?_
        rintro e u1 ⟨rfl,lV⟩
        have eY:=hR0.trans (lV.mono hR0.size)
        refine hK _ _ ⟨eY,?_⟩
        clear hK K
        try simp only [zA,zB,zC,Act.put,zD,zE,zF]
        unfold bE
        simp only [List.drop_succ_cons,List.drop_zero]
        try simp only [zA,zB,zC,Act.put,zD,zE,zF]
        refine aB rfl (fun K hK=>?_)
        go_simp
        refine hK _ _ ⟨trivial,aQ ?_⟩
        clear hK K
        try simp only [zA,zB,zC,Act.put,zD,zE,zF]
        refine ag.mk ?_
        have J6:Below wr.heap.size wr _:=iw.trans (eY.mono iw.size)
        go_wp2
        refine ⟨⟨k+1,by omega,aA k,HN.out,hbr.trans (J6.mono hbr.size)⟩,?_⟩
        show M.length-((k:Int)+1).toNat<M.length-((k:Int)).toNat
        omega
      ·have hkn:decide ((k:Int)<((M.length-1:Nat):Int))=false:=decide_eq_false (by omega)
       have HR0:=hid (show R=0 by rw [HR.out];exact Cv HCV.out (fun j hj=>Ue.out j (by omega)))
       go_wp2
       go_ret
       exact ⟨by rw [HR0.out];rfl,hbr⟩
end Go.Proofs.YtglncfkoohgdaaaGreatDoor
