import Derived.Test.YtgohnjdgoglcfaaGreatDoorStillZ
import Derived.RangeFuncNested
import Derived.TacticsIn
import Derived.OrdersIn
import Derived.Test.YtgohnjdgoglcfaaGreatDoorT15Z
set_option maxRecDepth 100000
set_option maxHeartbeats 4000000
namespace Go.Proofs.YtgohnjdgoglcfaaGreatDoor
open Go.RowKit
section
variable {F:Fence} {n:Nat} {P:Program} {α:Type}
def AbidesT (T:TypeId) (B:Nat) (J:Nat→World→Prop):Prop:=∀ k W W' row,J k W→W.grownBy W' row →
 (∀ r,row=some r→B≤r∧∃ o:Obj,W.heap[r]?=some o∧(o.isWalk=true∨∃ c fz,o=.cells c T fz))→J k W'
def OwnT (T:TypeId) (B:Nat) {β:Type} (I:β→World→Prop):Prop:=∀ s W W' row,I s W→W.grownBy W' row →
 (∀ r,row=some r→B≤r∧∃ o:Obj,W.heap[r]?=some o∧(o.isCells=false∨∃ c fz,o=.cells c T fz))→I s W'
theorem OwnT.from {T:TypeId} {B:Nat} {β:Type} {I:β→World→Prop} (h:OwnT T B I):OwnFrom B I:=fun s W W' row hs hg hr =>
 h s W W' row hs hg fun r e=>by
  obtain ⟨h1,o,h2,h3⟩:=hr r e
  exact ⟨h1,o,h2,.inl h3⟩
def SeqAt (T:TypeId) (F:Fence) (n:Nat) (P:Program) (g:Nat) (lb:Array Value) (encs:α→Array Value) (Kp:World→World→Prop) (E:List α) (w:World):Prop:=
 ∀ (l:Nat) (J Jx:Nat→World→Prop) (W:World),Below w.heap.size w W→AbidesT T W.heap.size J→AbidesT T W.heap.size Jx →
  (∀ k (hk:k<E.length) W1,J k W1→YieldAt F (n-1) P l (encs E[k]) W1 fun e W'=>(e=.returned (.bool true)∧J (k+1) W'∧Kp W1 W')∨(e=.returned (.bool false)∧Jx k W')) →
  J 0 W→CallsIn F n P g (#[.func (.yield l) #[] #[]]++lb) W fun e W'=>(∃ v,e=.returned v)∧(J E.length W'∨∃ k,k<E.length∧Jx k W')
def RoundAt (B:Nat) (Kp:World→World→Prop) (I:Nat→World→Prop) (Ix:Code→Nat→World→Prop) (k:Nat) (W:World):Exit→Act→World→Prop
 | .normal,_,W'=>KeepsFrom B W W'∧Kp W W'∧I (k+1) W'
 | .ret,_,W'=>KeepsFrom B W W'∧Ix .ret k W'
 | .exit id,_,W'=>KeepsFrom B W W'∧Ix (.exit id) k W'
 | .goto t,_,W'=>KeepsFrom B W W'∧Ix (.goto t) k W'
 | _,_,_=>False
structure Book (B:Nat) (r:Loop) (W:World):Prop where
 loop:W.heap[B+1]?=some (.loop r)
 mark:W.heap[B]?=some (.deferred (some []))
theorem Book.kept {T:TypeId} {B:Nat} {r:Loop} {W W':World} {row:Option Nat} (h:Book B r W) (hg:W.grownBy W' row) (hr:∀ j,row=some j→∃ o:Obj,W.heap[j]?=some o∧(o.isWalk=true∨∃ c fz,o=.cells c T fz)):Book B r W':=by
 have key:∀ (k:Nat) (o:Obj),W.heap[k]?=some o→o.isWalk=false→o.isCells=false→W'.heap[k]?=some o:=fun k o ho h1 h2=>by
  refine (hg.block k (Array.getElem?_eq_some_iff.1 ho).1 fun e=>?_).trans ho
  obtain ⟨o',ho',h3⟩:=hr k e.symm
  rw [ho] at ho'
  cases ho'
  rcases h3 with h3 | ⟨c,fz,rfl⟩
  ·rw [h1] at h3;cases h3
  ·cases h2
 exact ⟨key _ _ h.loop rfl rfl,key _ _ h.mark rfl rfl⟩
theorem Book.keepsFrom {B:Nat} {r:Loop} {W W':World} (h:Book B r W) (hk:KeepsFrom B W W'):Book B r W':=
 ⟨hk.same _ _ (Nat.le_succ _) h.loop rfl,hk.same _ _ (Nat.le_refl _) h.mark rfl⟩
theorem Book.put {B:Nat} {r:Loop} {W:World} (h:Book B r W) (r':Loop):Book B r' (W.putObj (B+1) (.loop r')):=
 ⟨World.putObj_heap_same (Array.getElem?_eq_some_iff.1 h.loop).1,(World.putObj_heap_other (by omega)).trans h.mark⟩
theorem wpIn_rangeFunc_at {g:Operand} {ps:Array Tmp} {assign body:Code} {Q:Exit→Act→World→Prop} {a:Act} {w:World}
  (hro:F.round=none) (h1:1≤n) {gf:Nat} {lb:Array Value} (hg:a.eval g=.func (.func gf) #[] lb) (hFg:F.fn gf) (eg:∀ args w,(callFunc gf args).run P w=.ok (.enter gf args) w)
  {encs:α→Array Value} {Kp:World→World→Prop} {E:List α} {w0:World} {T:TypeId} (hseq:SeqAt T F (n-1) P gf lb encs Kp E w0)
  (hKt:∀ {A B C:World},Kp A B→Kp B C→Kp A C) (hKb:∀ (W:World) (l:Nat) (o o':Obj),w.heap.size≤l→W.heap[l]?=some o→o.isCells=false→o.isWalk=false→Kp W (W.putObj l o')) (hb0:Below w0.heap.size w0 w) (hps:∀ x,(encs x).size=ps.size)
  (I:Nat→World→Prop) (Ix:Code→Nat→World→Prop) (hI:OwnT T w.heap.size I) (hIx:∀ c,OwnT T w.heap.size (Ix c)) (h0:I 0 w) (Ax:Nat→Act→World→Prop) (hAx:∀ k a',OwnFrom w.heap.size (fun (_:Unit) W=>Ax k a' W))
  (hassign:∀ (l k:Nat) (hk:k<E.length) (W:World) (K:Act→World→Prop),I k W→(∀ a' W',KeepsFrom w.heap.size W W'→Kp W W'→I k W'→Ax k a' W'→K a' W') →
   assign.wpIn (F.inRound l) (n-1-1) P (Exit.then K (fun _ _ _=>False)) { tmps:=(ps.zip (encs E[k])).foldl (fun t (p,v)=>t.setIfInBounds p v) a.tmps,defers:=[] } W)
  (hbody:∀ (l k:Nat) (_:k<E.length) (a':Act) (W:World),w.heap.size≤l→(∃ r,W.heap[l]?=some (.loop r))→I k W→Ax k a' W→body.wpIn (F.inRound l) (n-1-1) P (RoundAt w.heap.size Kp I Ix k W) a' W)
  (hdone:∀ (D:Nat) (W:World),w.heap.size≤D→I E.length W→W.heap[D]?=some (.deferred (some []))→Q .normal { a with defers:={ target:=.collected D,args:=#[] } :: a.defers } W)
  (hstop:∀ (D:Nat) (c:Code) (k:Nat) (W:World),w.heap.size≤D→k<E.length→Ix c k W→W.heap[D]?=some (.deferred (some []))→c.wpIn F n P Q { a with defers:={ target:=.collected D,args:=#[] } :: a.defers } W) :
  (Code.rangeFunc g ps assign body).wpIn F n P Q a w:=by
 obtain ⟨B,hB⟩ : ∃ B,B=w.heap.size:=⟨_,rfl⟩
 rw [←hB] at hKb hI hIx hAx hassign hbody hdone hstop
 refine wpIn_rangeFunc fun fn hfn=>?_
 let rc:LoopState→Option Code→Loop:=fun s p=>{ state:=s,pending:=p,fn,tmps:=a.tmps,params:=ps,assign,body,defers:=B }
 obtain ⟨W1,hW1⟩ : ∃ W1,W1=(w.alloc (.deferred (some []))).alloc (.loop (rc .ready none)):=⟨_,rfl⟩
 have hs1:W1.heap.size=B+2:=by rw [hW1,hB];simp
 have hbk:Book B (rc .ready none) W1:=by
  have e1:=World.alloc_heap_new w (.deferred (some []))
  have e2:=World.alloc_heap_new (w.alloc (.deferred (some []))) (.loop (rc .ready none))
  rw [World.size_alloc] at e2
  rw [hW1,hB]
  exact ⟨e2,(((Below.refl _ _).alloc (Nat.le_refl _) _).block _ (by simp)).trans e1⟩
 have hI1:I 0 W1:=by rw [hW1];exact hI.from.alloc _ (hI.from.alloc _ h0)
 have hb1:Below w0.heap.size w0 W1:=by rw [hW1];exact hb0.trans ((((Below.refl _ w).alloc (Nat.le_refl _) _).alloc (by simp) _).mono hb0.size)
 have hen:=run_enterLoop_outer (P:=P) (w:=w) fn a.tmps ps assign body
 rw [←hB] at hen
 refine ⟨B+1,[{ target:=.collected B,args:=#[] }],W1,{ target:=.fn (.func gf) lb,args:=#[.func (.yield (B+1)) #[] #[]] },W1,gf,#[.func (.yield (B+1)) #[] #[]]++lb,W1,by rw [hro,hW1];exact hen,?_,?_,?_,fun _=>h1,?_⟩
 ·simp only [resolve,hg]
  simp [go_sem]
 ·intro f' hf'
  simp [Target.leads] at hf'
  rw [←hf']
  exact hFg
 ·simp [invoke,go_sem,eg]
 have walk:∀ {A:World} {row:Option Nat},(∀ r,row=some r→W1.heap.size≤r∧∃ o:Obj,A.heap[r]?=some o∧(o.isWalk=true∨∃ c fz,o=.cells c T fz))→∀ r,row=some r→B≤r∧∃ o:Obj,A.heap[r]?=some o∧(o.isCells=false∨∃ c fz,o=.cells c T fz):=fun hr r e=>by
  obtain ⟨hx,o,ho,hw⟩:=hr r e
  rcases hw with hw | hw
  ·exact ⟨by omega,o,ho,.inl (Obj.not_cells_of_walk hw)⟩
  ·exact ⟨by omega,o,ho,.inr hw⟩
 have turn:∀ {W:World} {r:Loop} (r':Loop),Book B r W→Kp W (W.putObj (B+1) (.loop r'))∧(∀ {β:Type} {G:β→World→Prop} {s:β},OwnFrom B G→G s W→G s (W.putObj (B+1) (.loop r'))):=fun r' h =>
  ⟨hKb _ _ _ _ (by omega) h.loop rfl rfl,fun hG hs=>hG.putObj _ hs (by omega) h.loop rfl⟩
 refine (hseq (B+1) (fun k W=>I k W∧Book B (rc .ready none) W) (fun k W=>∃ c,Ix c k W∧Book B (rc .done (some c)) W) W1 hb1
  (fun k X Y row hs hgr hr=>⟨hI k X Y row hs.1 hgr (walk hr),hs.2.kept hgr fun j e=>(hr j e).2⟩)
  (fun k X Y row ⟨c,hc,hk⟩ hgr hr=>⟨c,hIx c k X Y row hc hgr (walk hr),hk.kept hgr fun j e=>(hr j e).2⟩) ?_ ⟨hI1,hbk⟩).mono ?_
 ·
  rintro k hk W ⟨hi,hbo⟩
  have hy:=run_yield (P:=P) (args:=encs E[k]) hbo.loop (hps _)
  refine ⟨fn,_,assign,body,hy,roundIn_of_wpIn hfn (hassign (B+1) k hk W _ hi fun a' W2 k2 p2 i2 x2=>?_)⟩
  have hbo2:=hbo.keepsFrom k2
  refine ⟨_,run_beginRound hbo2.loop rfl,?_⟩
  obtain ⟨kp2,tr2⟩:=turn { rc .ready none with state:=.busy } hbo2
  have hbo3:=hbo2.put { rc .ready none with state:=.busy }
  refine wpIn_mono (hbody (B+1) k hk a' _ (by omega) ⟨_,hbo3.loop⟩ (tr2 hI.from i2) (tr2 (s:=()) (hAx k a') x2)) ?_
  have leave:∀ (j:Option Code) (W3:World),KeepsFrom B (W2.putObj (B+1) (.loop { rc .ready none with state:=.busy })) W3 →
    (Instr.endRound (B+1) j).run P W3=.ok (.bool j.isNone) (W3.putObj (B+1) (.loop (rc (if j.isNone then .ready else .done) j)))∧Book B { rc .ready none with state:=.busy } W3:=fun j W3 k3 =>
   ⟨run_endRound j (hbo3.keepsFrom k3).loop,hbo3.keepsFrom k3⟩
  intro e a3 W3 hp
  cases e with
  | normal =>
   obtain ⟨k3,p3,i3⟩:=hp
   obtain ⟨hr,hbo4⟩:=leave none W3 k3
   obtain ⟨kp4,tr4⟩:=turn (rc .ready none) hbo4
   exact ⟨_,_,hr,.inl ⟨rfl,⟨tr4 hI.from i3,hbo4.put _⟩,hKt p2 (hKt kp2 (hKt p3 kp4))⟩⟩
  | ret =>
   obtain ⟨k3,i3⟩:=hp
   obtain ⟨hr,hbo4⟩:=leave (some .ret) W3 k3
   exact ⟨_,_,hr,.inr ⟨rfl,.ret,(turn _ hbo4).2 (hIx _).from i3,hbo4.put _⟩⟩
  | exit id =>
   obtain ⟨k3,i3⟩:=hp
   obtain ⟨hr,hbo4⟩:=leave (some (.exit id)) W3 k3
   exact ⟨_,_,hr,.inr ⟨rfl,.exit id,(turn _ hbo4).2 (hIx _).from i3,hbo4.put _⟩⟩
  | goto t =>
   obtain ⟨k3,i3⟩:=hp
   obtain ⟨hr,hbo4⟩:=leave (some (.goto t)) W3 k3
   exact ⟨_,_,hr,.inr ⟨rfl,.goto t,(turn _ hbo4).2 (hIx _).from i3,hbo4.put _⟩⟩
  | panic ch=>exact hp.elim
  | outgrown=>exact hp.elim
 ·
  rintro e W2 ⟨⟨v,rfl⟩,(⟨hi,hbo⟩ | ⟨k,hk,c,hi,hbo⟩)⟩
  ·refine ⟨none,_,run_endLoop hbo.loop (by simp [rc]),?_⟩
   exact hdone B _ (Nat.le_refl _) ((turn _ hbo).2 hI.from hi) (hbo.put _).mark
  ·refine ⟨some c,_,run_endLoop hbo.loop (by simp [rc]),?_⟩
   exact hstop B c k _ (Nat.le_refl _) hk ((turn _ hbo).2 (hIx c).from hi) (hbo.put _).mark
end
end Go.Proofs.YtgohnjdgoglcfaaGreatDoor
namespace Go.Proofs.YtgohnjdgoglcfaaGreatDoor
open Go
def Lifts (F:Fence) (n:Nat) (P:Program):Prop:=(∀ f,F.fn f)∧∀ (o:Oper) (a:Act) (w:World) (K K':Act→World→Prop) (Q Q':Exit→Act→World→Prop),noDefer o.op=true→(∀ a w,K a w→K' a w)→o.wp P a w K (NormalOnly Q)→o.wpIn F n P a w K' Q'
theorem lifts_round {l n:Nat} {P:Program}:Lifts (Fence.wide.inRound l) n P:=by
 refine ⟨fun _=>trivial,fun o a w K K' Q Q' hp hK h=>?_⟩
 refine ⟨fun f hf=>trivial,?_⟩
 rw [Oper.semAt_eq _ _ _ (fun c hc=>by rw [hc] at hp;simp [noDefer] at hp)]
 unfold Oper.wp at h
 generalize (execOp a.eval o).run P w=r at h
 cases r with
 | ok x w' =>
  cases x with
  | value v=>exact hK _ _ h
  | skip=>exact hK _ _ h
  | defer d=>exact hK _ _ h
  | enter f args =>
   refine ⟨fun h=>(by simp [Fence.wide] at h),CallsIn.inRound l (callsIn_wide.2 (Calls.mono h ?_))⟩
   intro e w'' he
   cases e with
   | returned v=>exact hK _ _ he
   | panicked ch=>exact he.elim
   | outgrown=>obtain ⟨_,_,he⟩:=he;exact he.elim
  | row row args=>exact ⟨fun h=>(by simp [Fence.wide] at h),(rowsIn_wide h).mono fun v w' h=>hK _ _ h⟩
  | _=>exact h.elim
 | halt x w' =>
  cases x <;> exact h.elim
theorem lifts_wide {n:Nat} {P:Program}:Lifts Fence.wide n P:=by
 refine ⟨fun _=>trivial,fun o a w K K' Q Q' hp hK h=>?_⟩
 refine ⟨fun f hf=>trivial,?_⟩
 rw [Oper.semAt_eq _ _ _ (fun c hc=>by rw [hc] at hp;simp [noDefer] at hp)]
 unfold Oper.wp at h
 generalize (execOp a.eval o).run P w=r at h
 cases r with
 | ok x w' =>
  cases x with
  | value v=>exact hK _ _ h
  | skip=>exact hK _ _ h
  | defer d=>exact hK _ _ h
  | enter f args =>
   refine ⟨fun h=>(by simp [Fence.wide] at h),callsIn_wide.2 (Calls.mono h ?_)⟩
   intro e w'' he
   cases e with
   | returned v=>exact hK _ _ he
   | panicked ch=>exact he.elim
   | outgrown=>obtain ⟨_,_,he⟩:=he;exact he.elim
  | row row args =>
   refine ⟨fun h=>(by simp [Fence.wide] at h),fun c cs _=>?_⟩
   obtain ⟨v,w',hr,hs⟩:=h c cs
   exact ⟨v,w',hK _ _ hr,stepsIn_wide.2 hs⟩
  | _=>exact h.elim
 | halt x w' =>
  cases x <;> exact h.elim
section
variable {F:Fence} {nn:Nat} {P:Program} {ops:Array Oper} {Q Q':Exit→Act→World→Prop} {md:Region.Mode} {S:World→Prop}
theorem wpOpIn_lift (hF:Lifts F nn P) (hp:(ops.toList.all fun o=>noDefer o.op)=true) {i:Nat} {K K':Act→World→Prop} {a:Act} {w:World} (hK:∀ a w,K a w→K' a w) (h:wpOp P ops (NormalOnly Q) i K a w):wpOpIn F nn P ops Q' i K' a w:=by
 unfold wpOp at h
 unfold wpOpIn
 cases hi:ops[i]? with
 | none=>simp only [hi] at h;exact hK _ _ h
 | some o =>
  simp only [hi] at h ⊢
  have ho:noDefer o.op=true:=List.all_eq_true.1 hp o (by
   obtain ⟨h1,h2⟩:=Array.getElem?_eq_some_iff.1 hi
   rw [←h2];exact Array.getElem_mem_toList h1)
  by_cases hw:Region.wanted o (yielded ops a.tmps)=true
  ·rw [if_pos hw] at h ⊢
   rcases h with h | ⟨_,⟨_,_,h⟩⟩
   ·exact hF.2 o a w K K' Q Q' ho hK h
   ·exact h.elim
  ·rw [if_neg hw] at h ⊢
   exact ⟨fun f _=>hF.1 f,hK _ _ h⟩
theorem wpAnyIn_of_HL (hF:Lifts F nn P) (hp:(ops.toList.all fun o=>noDefer o.op)=true) {n g:Nat} {L:Array Bool→Act→World→Prop} (hL:∀ listed a w,L listed a w→wpAnyIn F nn P md ops Q' g listed a w) :
  ∀ (f:Nat) (listed:Array Bool) (a:Act) (w:World),wpHL P md ops (NormalOnly Q) S n L f listed a w→wpAnyIn F nn P md ops Q' (f+g) listed a w
 | 0,listed,a,w,h=>by rw [Nat.zero_add];exact hL _ _ _ h
 | f+1,listed,a,w,h=>by
  rw [show f+1+g=(f+g)+1 by omega]
  exact ⟨fun h0=>absurd h0 h.1,fun i hi=>wpOpIn_lift hF hp (fun a' w' h'=>wpAnyIn_of_HL hF hp hL f _ a' w' h'.2) (h.2 i hi).2⟩
theorem wpAnyIn_of_seq:∀ (l:List Oper) (k:Nat) (listed:Array Bool) (a:Act) (w:World),(∀ j,l[j]?=ops[k+j]?) →
  Region.seqB md ops l.length k listed=true→wpListIn F nn P ops Q' l a w→wpAnyIn F nn P md ops Q' l.length listed a w
 | [],_,_,_,_,_,hB,h=>⟨by simpa [Region.seqB] using hB,h⟩
 | o :: l,k,listed,a,w,hl,hB,h=>by
  have h0:ops[k]?=some o:=by simpa using (hl 0).symm
  simp only [List.length_cons,Region.seqB,Bool.and_eq_true,decide_eq_true_eq] at hB
  refine ⟨fun h1=>(by rw [hB.1] at h1;cases h1),fun i hi=>?_⟩
  rw [hB.1] at hi
  have hik:i=k:=by simpa using hi
  subst hik
  have hw:wpOpIn F nn P ops Q' i (wpListIn F nn P ops Q' l) a w:=by unfold wpOpIn;simp only [h0];exact h
  exact wpOpIn_mono (fun a' w' h'=>wpAnyIn_of_seq l (i+1) _ a' w' (fun j=>by have:=hl (j+1);simpa [Nat.add_assoc,Nat.add_comm 1 j] using this) hB.2 h') hw
end
theorem wpIn_held_list {F:Fence} {nn:Nat} {P:Program} {id:Nat} {Q:Exit→Act→World→Prop} {a:Act} {w:World} {l:List Oper} (hF:Lifts F nn P) (S:World→Prop) (takes keeps:List Nat) (n2:Nat) (hm:P.follows .mixedOrders=true)
  (hB:heldLB .any l.toArray takes keeps n2=true) (hp:(l.all fun o=>noDefer o.op)=true) (hS:S w.drew)
  (h:wpTakeL P l.toArray S (fun a'=>wpKeepL P l.toArray S (NormalOnly fun _ _ _=>False) (fun a'' w''=>wpListIn F nn P l.toArray Q (l.drop n2) a'' w'') keeps a' w.drew) takes a):(Code.region id l.toArray true).wpIn F nn P Q a w:=by
 refine wpIn_region_any hm ?_
 simp only [heldLB,Bool.and_eq_true,decide_eq_true_eq] at hB
 obtain ⟨⟨⟨⟨⟨hsel,hn'⟩,hlen⟩,hs⟩,hc⟩,htk⟩:=hB
 have hl:n2<l.length:=by simpa using hn'
 have hdl:(l.drop n2).length=l.toArray.size-n2:=by simp
 have inv0:HeadInv .any l.toArray n2 (Array.replicate l.toArray.size false):=
  ⟨by simp,fun j oj _ hl=>(by rw [getD_replicate_false] at hl;cases hl),fun t _ ht=>getD_in (by simpa using ht) (getD_replicate_false _ _)⟩
 have H:=wpHL_takeL (P:=P) (ops:=l.toArray) (md:=.any) (Q:=NormalOnly fun _ _ _=>False) (S:=S) (n:=n2) (g:=l.toArray.size-n2) (keeps:=keeps)
  (L:=fun listed' a' w'=>Region.seqB .any l.toArray (l.toArray.size-n2) n2 listed'=true∧wpListIn F nn P l.toArray Q (l.drop n2) a' w')
  (Lq:=fun a'=>wpKeepL P l.toArray S (NormalOnly fun _ _ _=>False) (fun a'' w''=>wpListIn F nn P l.toArray Q (l.drop n2) a'' w'') keeps a' w.drew)
  hsel hs hc hn' (fun c a w h=>h) (fun listed a w hL=>seqB_ready hL.1) w.drew hS
  (fun listed a hk hq=>wpHL_keepL (md:=.any) (Q:=NormalOnly fun _ _ _=>False) (n:=n2) (g:=l.toArray.size-n2) keeps listed a w.drew hk hq)
  takes _ a inv0 htk h
 have H2:=wpAnyIn_of_HL (F:=F) (nn:=nn) (Q':=Q) (g:=l.toArray.size-n2) hF (by simpa using hp) (fun listed a' w' hL=>by
  have:=wpAnyIn_of_seq (F:=F) (nn:=nn) (P:=P) (md:=.any) (Q':=Q) (l.drop n2) n2 listed a' w' (fun j=>by simp [List.getElem?_drop]) (by rw [hdl];exact hL.1) hL.2
  rwa [hdl] at this) _ _ _ _ H
 have hsz:takes.length+keeps.length+(l.toArray.size-n2)=l.toArray.size:=by
  have:l.toArray.size=l.length:=by simp
  omega
 rw [hsz] at H2
 exact H2
end Go.Proofs.YtgohnjdgoglcfaaGreatDoor
namespace Go.Proofs.YtgohnjdgoglcfaaGreatDoor
open Go.RowKit Go.Shelf
open Go.Lib (decDigits itoa nDigits)
open Go.Lib (hid)
attribute [local go_sem] Oper.semAt_some
def KeepQ (n₀ B1:Nat) (W W':World):Prop:=Below n₀ W W'∧W'.heap[B1]?=W.heap[B1]?
theorem KeepQ.trans {n₀ B1:Nat} {A B C:World} (h:KeepQ n₀ B1 A B) (k:KeepQ n₀ B1 B C):KeepQ n₀ B1 A C:=⟨h.1.trans k.1,k.2.trans h.2⟩
theorem KeepQ.cell {n₀ B1:Nat} {A B:World} (h:KeepQ n₀ B1 A B) {a:Addr} (ha:a.block<n₀∨a.block=B1):B.cell? a=A.cell? a:=by
 rcases ha with ha | ha
 ·exact World.cell?_of_block (h.1.block a.block ha)
 ·exact World.cell?_of_block (by rw [ha];exact h.2)
theorem abidesT_below {T:TypeId} {B:Nat} {J:Nat→World→Prop} (h:AbidesT T B J) {k:Nat} {W W':World} (hs:J k W) (hb:Below W.heap.size W W'):J k W':=
 h k W W' none hs ⟨hb.os,hb.tape,hb.output,hb.size,fun k hk _=>hb.block k hk⟩ (fun r e=>by cases e)
theorem below_putObj {n₀ l:Nat} (W:World) (o':Obj) (h:n₀≤l):Below n₀ W (W.putObj l o'):=by
 refine ⟨rfl,rfl,rfl,by simp [World.putObj],fun k hk=>?_⟩
 simp only [World.putObj]
 rw [Array.getElem?_setIfInBounds,if_neg (by omega)]
theorem KeepQ.refl (n₀ B1:Nat) (W:World):KeepQ n₀ B1 W W:=⟨Below.refl _ _,rfl⟩
theorem KeepQ.of_below {n₀ B1:Nat} {W W':World} (h:Below W.heap.size W W') (h1:n₀≤W.heap.size) (h2:B1<W.heap.size):KeepQ n₀ B1 W W':=⟨h.mono h1,h.block B1 h2⟩
theorem KeepQ.put {n₀ B1:Nat} {w:World} (h1:n₀≤w.heap.size) (h2:B1<w.heap.size) (W:World) (l:Nat) (o o':Obj) (hl:w.heap.size≤l) (_:W.heap[l]?=some o) (_:o.isCells=false) (_:o.isWalk=false):KeepQ n₀ B1 W (W.putObj l o'):=by
 refine ⟨below_putObj W o' (by omega),?_⟩
 simp only [World.putObj]
 rw [Array.getElem?_setIfInBounds,if_neg (by omega)]
def sideE (P:List QP) (k:Nat):Array Value:=#[ptV (pt P k),ptV (pt P (nxI P.length k))]
def slBox (v:Value):Obj:=.cells #[v] 22
theorem slBox_cell {w:World} {v:Value} {B:Nat} (h:w.heap[B]?=some (slBox v)):w.cell? ⟨B,0,none⟩=some v:=by unfold slBox at h;simp [World.cell?,h]
theorem pg_sides (n:Nat) (p:Option Addr) (m c:Nat) (w:World) :
  CallsIn Fence.wide n Tryz.prog 65 #[.slice p m c] w fun e w'=>e=.returned (.func (.func 112) #[] #[.pointer (some ⟨w.heap.size,0,none⟩)])∧w'=w.alloc (slBox (.slice p m c)):=by
 unfold slBox
 refine callsIn_of_wp Tryz.func65 rfl trivial ?_ rfl
 simp only [Tryz.ntmps65,List.size_toArray,List.length_cons,List.length_nil,Nat.reduceAdd,Nat.reduceSub,Array.replicate_succ,Array.replicate_zero,List.push_toArray,List.append_toArray,List.nil_append,List.cons_append]
 gi_wp2
 go_ret
 exact ⟨rfl,rfl⟩
theorem sides1_in {T:TypeId} (n:Nat) (_hn:1≤n) (l Bp:Nat) (wd:World) (P:List QP) (vp:Value) (hvp:Pts wd vp P) (hP0:0<P.length) (hlen:P.length≤1000000) (J Jx:Nat→World→Prop)
  (W:World) (hbW:Below wd.heap.size wd W) (hJ:AbidesT T W.heap.size J)
  (hY:∀ k (_:k<P.length) W1,J k W1→YieldAt Fence.wide (n-1) Tryz.prog l #[ptV (pt P k),ptV (pt P (nxI P.length k))] W1 fun e W'=>(e=.returned (.bool true)∧J (k+1) W'∧KeepQ wd.heap.size Bp W1 W')∨(e=.returned (.bool false)∧Jx k W'))
  (hbp:Bp<W.heap.size) (e0:W.cell? ⟨Bp,0,none⟩=some vp) (h0:J 0 W) :
  CallsIn Fence.wide n Tryz.prog 112 #[.func (.yield l) #[] #[],.pointer (some ⟨Bp,0,none⟩)] W fun e W'=>(∃ v,e=.returned v)∧(J P.length W'∨∃ k,k<P.length∧Jx k W'):=by
 obtain ⟨p,c,rfl,hcl,hcm⟩:=hvp.slice
 unfold maxLen at hcm
 obtain ⟨B,off,rfl,hbl,hcell⟩:=Pts.cells hvp hP0
 have HCL:=hid (fun i (hi:i<P.length) wx (h:Below wd.heap.size wd wx)=>And.intro ((h.cell (p:=⟨B,off+i*2,none⟩) hbl).trans (hcell i hi).1) ((h.cell (p:=⟨B,off+i*2+1,none⟩) hbl).trans (hcell i hi).2))
 have HJ:=hid hJ
 have HY:=hid hY
 unfold ptV at HY
 clear hJ hY hvp hcell
 refine callsIn_of_wp Tryz.func112 rfl trivial ?_ rfl
 simp only [Tryz.ntmps112,List.size_toArray,List.length_cons,List.length_nil,Nat.reduceAdd,Nat.reduceSub,Array.replicate_succ,Array.replicate_zero,List.push_toArray,List.append_toArray,List.nil_append,List.cons_append]
 gi_wp2
 gi_loopw [7] (fun iv wr=>∃ k:Nat,k≤P.length∧iv=.int .i64 (k:Int)∧J k wr∧KeepQ wd.heap.size Bp W wr∧Bp<wr.heap.size) (fun iv _=>P.length-(intOf iv).toNat)
 case atStart=>exact ⟨0,Nat.zero_le _,rfl,h0,KeepQ.refl _ _ _,hbp⟩
 case round =>
  obtain ⟨k,hk,rfl,hJs,hnx,hbpr⟩:=hrel
  have hbr:=hbW.trans hnx.1
  have r0:=(hnx.cell (a:=⟨Bp,0,none⟩) (.inr rfl)).trans e0
  have HNX:=hid hnx
  have HJS:=hid hJs
  clear e0 hnx hJs h0
  by_cases hkl:k<P.length
  ·obtain ⟨c0,c1⟩:=HCL.out k hkl wr hbr
   have hnl:=nxI_lt (i:=k) (show 0<P.length by omega)
   have HY1:=hid (HY.out k hkl)
   have hkn:decide ((k:Int)<(P.length:Int))=true:=decide_eq_true (by omega)
   have i1:(0:Int)≤(k:Int):=by omega
   have i2:(k:Int)<(P.length:Int):=by omega
   have t1:=tmod_nx hkl
   have t2:(0:Int)≤((nxI P.length k:Nat):Int):=by omega
   have t3:((nxI P.length k:Nat):Int)<(P.length:Int):=by omega
   have t4:((P.length:Int) == 0)=false:=beq_eq_false_iff_ne.2 (by omega)
   have t5:IntKind.i64.wrap ((k:Int)+1)=(k:Int)+1:=IntWalk.i64_in _ (by omega)
   have t6:(P.length:Int)≠0:=by omega
   have t7:¬ P=[]:=fun e=>by rw [e] at hP0;exact absurd hP0 (Nat.lt_irrefl _)
   obtain ⟨d0,d1⟩:=HCL.out (nxI P.length k) hnl wr hbr
   have hblr:B<wr.heap.size:=Nat.lt_of_lt_of_le hbl hbr.size
   clear HY
   generalize tx (pt P k).1=x1 at *
   generalize tx (pt P k).2=x2 at *
   generalize tx (pt P (nxI P.length k)).1=y1 at *
   generalize tx (pt P (nxI P.length k)).2=y2 at *
   gi_wp2
   obtain ⟨wB,hwB⟩ : ∃ wB,wB=wr.alloc (Obj.cells #[.string x1,.string x2] 31):=⟨_,rfl⟩
   obtain ⟨hbB,lB,z0,z1⟩:=box_new hwB
   rw [←hwB]
   clear hwB
   have hblB:B<wB.heap.size:=Nat.lt_of_lt_of_le hblr hbB.size
   have hbpB:Bp<wB.heap.size:=Nat.lt_of_lt_of_le hbpr hbB.size
   have q0:=(hbB.cell (p:=⟨Bp,0,none⟩) hbpr).trans r0
   have m0:=(hbB.cell (p:=⟨B,off+nxI P.length k*2,none⟩) hblr).trans d0
   have m1:=(hbB.cell (p:=⟨B,off+nxI P.length k*2+1,none⟩) hblr).trans d1
   clear c0 c1 d0 d1 r0
   refine wpIn_held_list lifts_wide (fun W'=>Below wB.heap.size wB W') [0,1,2,3,4,5,6,7,8,9] [] 10 (by kernel_rfl) (by kernel_rfl) (by kernel_rfl) ⟨rfl,rfl,rfl,Nat.le_refl _,fun _ _=>rfl⟩ ?_
   iterate 10
    refine wpTakeL_step rfl ?_ rfl ?_ ?_
    rotate_left
    ·intro W' hS'
     have s0:=(hS'.cell (p:=⟨wr.heap.size,0,none⟩) lB).trans z0
     have s1:=(hS'.cell (p:=⟨wr.heap.size,1,none⟩) lB).trans z1
     have s2:=(hS'.cell (p:=⟨Bp,0,none⟩) hbpB).trans q0
     have s3:=(hS'.cell (p:=⟨B,off+nxI P.length k*2,none⟩) hblB).trans m0
     have s4:=(hS'.cell (p:=⟨B,off+nxI P.length k*2+1,none⟩) hblB).trans m1
     go_simp
     try with_reducible rfl
    try simp only [zA,zB,zC,Act.put,zD,zE,zF]
   have hH0:Below wB.heap.size wB wB.drew:=⟨rfl,rfl,rfl,Nat.le_refl _,fun _ _=>rfl⟩
   unfold wpTakeL
   unfold wpKeepL
   simp only [List.drop_succ_cons,List.drop_zero]
   have hbv:=hbB.trans (hH0.mono hbB.size)
   have hJv:J k wB.drew:=abidesT_below HJ.out HJS.out hbv
   have hKv:KeepQ wd.heap.size Bp W wB.drew:=HNX.out.trans (KeepQ.of_below hbv hbr.size hbpr)
   have HKv:=hid hKv
   obtain ⟨fn,tmps,assign,body,hy,hR⟩:=HY1.out wB.drew hJv
   clear hJv hKv z0 z1 q0 m0 m1
   gi_wp2
   refine hR.mono ?_
   rintro e W9 (⟨rfl,hJ9,hk9⟩ | ⟨rfl,hJx9⟩)
   ·have HJ9:=hid hJ9
    have HK9:=hid (HKv.out.trans hk9)
    have hbp9:Bp<W9.heap.size:=by
     have e:=HK9.out.2
     rw [Array.getElem?_eq_getElem hbp] at e
     exact lt_of_blk e
    clear hJ9 hk9
    gi_wp2
    go_roundw
    case rel=>exact ⟨k+1,hkl,int_succ k,HJ9.out,HK9.out,hbp9⟩
    case measure=>show P.length-((k:Int)+1).toNat<P.length-((k:Int)).toNat;omega
   ·gi_wp2
    refine bodyPost_ret (results_none rfl _ _ _) rfl ?_
    exact ⟨⟨_,rfl⟩,.inr ⟨k,hkl,hJx9⟩⟩
  ·obtain rfl:k=P.length:=by omega
   have hkn:decide ((P.length:Int)<(P.length:Int))=false:=decide_eq_false (by omega)
   gi_wp2
   go_end0
   exact ⟨⟨_,rfl⟩,.inl HJS.out⟩
theorem sides_at (T:TypeId) (n:Nat) (hn:1≤n) (Bp:Nat) (wd:World) (P:List QP) (vp:Value) (hvp:Pts wd vp P) (hP0:0<P.length) (hlen:P.length≤1000000)
  (w:World) (hw:Below wd.heap.size wd w) (hb:w.heap[Bp]?=some (slBox vp)) :
  SeqAt T Fence.wide n Tryz.prog 112 #[.pointer (some ⟨Bp,0,none⟩)] (sideE P) (KeepQ wd.heap.size Bp) (List.range P.length) w:=by
 intro l J Jx W hW hJ _ hY h0
 have hbp:=lt_of_blk hb
 simp only [List.length_range,List.getElem_range] at *
 exact sides1_in n hn l Bp wd P vp hvp hP0 hlen J Jx W (hw.trans (hW.mono hw.size)) hJ hY (Nat.lt_of_lt_of_le hbp hW.size) (slBox_cell ((hW.block Bp hbp).trans hb)) h0
end Go.Proofs.YtgohnjdgoglcfaaGreatDoor
