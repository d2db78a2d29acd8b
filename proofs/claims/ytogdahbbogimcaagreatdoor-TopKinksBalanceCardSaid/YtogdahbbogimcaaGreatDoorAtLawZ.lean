import Derived.Test.YtogdahbbogimcaaGreatDoorStillZ
import Derived.RangeFuncNested
import Derived.TacticsIn
import Derived.OrdersIn
import Derived.ArgAppend
import Derived.Deep.Onto
namespace Go.Proofs.YtogdahbbogimcaaGreatDoor
open Go.RowKit
section
variable {F:Fence} {n:Nat} {P:Program} {α:Type}
def AbidesT (T:TypeId) (B:Nat) (J:Nat→World→Prop):Prop:=∀ k W W' row,J k W→W.grownBy W' row →
 (∀ r,row=some r→B≤r∧∃ o:Obj,W.heap[r]?=some o∧(o.isWalk=true∨∃ c fz,o=.cells c T fz))→J k W'
def OwnT (T:TypeId) (B:Nat) {β:Type} (I:β→World→Prop):Prop:=∀ s W W' row,I s W→W.grownBy W' row →
 (∀ r,row=some r→B≤r∧∃ o:Obj,W.heap[r]?=some o∧(o.isCells=false∨∃ c fz,o=.cells c T fz))→I s W'
theorem OwnT.from {T:TypeId} {B:Nat} {β:Type} {I:β→World→Prop} (h:OwnT T B I):OwnFrom B I:=fun s W W' row hs hg hr =>
 h s W W' row hs hg fun r e=>by
  obtain ⟨h1,o,h2,h3⟩:=hr r e
  exact ⟨h1,o,h2,.inl h3⟩
def SeqAt (T:TypeId) (F:Fence) (n:Nat) (P:Program) (g:Nat) (lb:Array Value) (encs:α→Array Value) (Kp:World→World→Prop) (E:List α) (w:World):Prop:=
 ∀ (l:Nat) (J Jx:Nat→World→Prop) (W:World),Below w.heap.size w W→AbidesT T W.heap.size J→AbidesT T W.heap.size Jx →
  (∀ k (hk:k<E.length) W1,J k W1→YieldAt F (n-1) P l (encs E[k]) W1 fun e W'=>(e=.returned (.bool true)∧J (k+1) W'∧Kp W1 W')∨(e=.returned (.bool false)∧Jx k W')) →
  J 0 W→CallsIn F n P g (#[.func (.yield l) #[] #[]]++lb) W fun e W'=>(∃ v,e=.returned v)∧(J E.length W'∨∃ k,k<E.length∧Jx k W')
def RoundAt (B:Nat) (Kp:World→World→Prop) (I:Nat→World→Prop) (Ix:Code→Nat→World→Prop) (k:Nat) (W:World):Exit→Act→World→Prop
 | .normal,_,W'=>KeepsFrom B W W'∧Kp W W'∧I (k+1) W'
 | .ret,_,W'=>KeepsFrom B W W'∧Ix .ret k W'
 | .exit id,_,W'=>KeepsFrom B W W'∧Ix (.exit id) k W'
 | .goto t,_,W'=>KeepsFrom B W W'∧Ix (.goto t) k W'
 | _,_,_=>False
structure Book (B:Nat) (r:Loop) (W:World):Prop where
 loop:W.heap[B+1]?=some (.loop r)
 mark:W.heap[B]?=some (.deferred (some []))
theorem Book.kept {T:TypeId} {B:Nat} {r:Loop} {W W':World} {row:Option Nat} (h:Book B r W) (hg:W.grownBy W' row) (hr:∀ j,row=some j→∃ o:Obj,W.heap[j]?=some o∧(o.isWalk=true∨∃ c fz,o=.cells c T fz)):Book B r W':=by
 have key:∀ (k:Nat) (o:Obj),W.heap[k]?=some o→o.isWalk=false→o.isCells=false→W'.heap[k]?=some o:=fun k o ho h1 h2=>by
  refine (hg.block k (Array.getElem?_eq_some_iff.1 ho).1 fun e=>?_).trans ho
  obtain ⟨o',ho',h3⟩:=hr k e.symm
  rw [ho] at ho'
  cases ho'
  rcases h3 with h3 | ⟨c,fz,rfl⟩
  ·rw [h1] at h3;cases h3
  ·cases h2
 exact ⟨key _ _ h.loop rfl rfl,key _ _ h.mark rfl rfl⟩
theorem Book.keepsFrom {B:Nat} {r:Loop} {W W':World} (h:Book B r W) (hk:KeepsFrom B W W'):Book B r W':=
 ⟨hk.same _ _ (Nat.le_succ _) h.loop rfl,hk.same _ _ (Nat.le_refl _) h.mark rfl⟩
theorem Book.put {B:Nat} {r:Loop} {W:World} (h:Book B r W) (r':Loop):Book B r' (W.putObj (B+1) (.loop r')):=
 ⟨World.putObj_heap_same (Array.getElem?_eq_some_iff.1 h.loop).1,(World.putObj_heap_other (by omega)).trans h.mark⟩
theorem wpIn_rangeFunc_at {g:Operand} {ps:Array Tmp} {assign body:Code} {Q:Exit→Act→World→Prop} {a:Act} {w:World}
  (hro:F.round=none) (h1:1≤n) {gf:Nat} {lb:Array Value} (hg:a.eval g=.func (.func gf) #[] lb) (hFg:F.fn gf) (eg:∀ args w,(callFunc gf args).run P w=.ok (.enter gf args) w)
  {encs:α→Array Value} {Kp:World→World→Prop} {E:List α} {w0:World} {T:TypeId} (hseq:SeqAt T F (n-1) P gf lb encs Kp E w0)
  (hKt:∀ {A B C:World},Kp A B→Kp B C→Kp A C) (hKb:∀ (W:World) (l:Nat) (o o':Obj),w.heap.size≤l→W.heap[l]?=some o→o.isCells=false→o.isWalk=false→Kp W (W.putObj l o')) (hb0:Below w0.heap.size w0 w) (hps:∀ x,(encs x).size=ps.size)
  (I:Nat→World→Prop) (Ix:Code→Nat→World→Prop) (hI:OwnT T w.heap.size I) (hIx:∀ c,OwnT T w.heap.size (Ix c)) (h0:I 0 w) (Ax:Nat→Act→World→Prop) (hAx:∀ k a',OwnFrom w.heap.size (fun (_:Unit) W=>Ax k a' W))
  (hassign:∀ (l k:Nat) (hk:k<E.length) (W:World) (K:Act→World→Prop),I k W→(∀ a' W',KeepsFrom w.heap.size W W'→Kp W W'→I k W'→Ax k a' W'→K a' W') →
   assign.wpIn (F.inRound l) (n-1-1) P (Exit.then K (fun _ _ _=>False)) { tmps:=(ps.zip (encs E[k])).foldl (fun t (p,v)=>t.setIfInBounds p v) a.tmps,defers:=[] } W)
  (hbody:∀ (l k:Nat) (_:k<E.length) (a':Act) (W:World),w.heap.size≤l→(∃ r,W.heap[l]?=some (.loop r))→I k W→Ax k a' W→body.wpIn (F.inRound l) (n-1-1) P (RoundAt w.heap.size Kp I Ix k W) a' W)
  (hdone:∀ (D:Nat) (W:World),w.heap.size≤D→I E.length W→W.heap[D]?=some (.deferred (some []))→Q .normal { a with defers:={ target:=.collected D,args:=#[] } :: a.defers } W)
  (hstop:∀ (D:Nat) (c:Code) (k:Nat) (W:World),w.heap.size≤D→k<E.length→Ix c k W→W.heap[D]?=some (.deferred (some []))→c.wpIn F n P Q { a with defers:={ target:=.collected D,args:=#[] } :: a.defers } W) :
  (Code.rangeFunc g ps assign body).wpIn F n P Q a w:=by
 obtain ⟨B,hB⟩ : ∃ B,B=w.heap.size:=⟨_,rfl⟩
 rw [←hB] at hKb hI hIx hAx hassign hbody hdone hstop
 refine wpIn_rangeFunc fun fn hfn=>?_
 let rc:LoopState→Option Code→Loop:=fun s p=>{ state:=s,pending:=p,fn,tmps:=a.tmps,params:=ps,assign,body,defers:=B }
 obtain ⟨W1,hW1⟩ : ∃ W1,W1=(w.alloc (.deferred (some []))).alloc (.loop (rc .ready none)):=⟨_,rfl⟩
 have hs1:W1.heap.size=B+2:=by rw [hW1,hB];simp
 have hbk:Book B (rc .ready none) W1:=by
  have e1:=World.alloc_heap_new w (.deferred (some []))
  have e2:=World.alloc_heap_new (w.alloc (.deferred (some []))) (.loop (rc .ready none))
  rw [World.size_alloc] at e2
  rw [hW1,hB]
  exact ⟨e2,(((Below.refl _ _).alloc (Nat.le_refl _) _).block _ (by simp)).trans e1⟩
 have hI1:I 0 W1:=by rw [hW1];exact hI.from.alloc _ (hI.from.alloc _ h0)
 have hb1:Below w0.heap.size w0 W1:=by rw [hW1];exact hb0.trans ((((Below.refl _ w).alloc (Nat.le_refl _) _).alloc (by simp) _).mono hb0.size)
 have hen:=run_enterLoop_outer (P:=P) (w:=w) fn a.tmps ps assign body
 rw [←hB] at hen
 refine ⟨B+1,[{ target:=.collected B,args:=#[] }],W1,{ target:=.fn (.func gf) lb,args:=#[.func (.yield (B+1)) #[] #[]] },W1,gf,#[.func (.yield (B+1)) #[] #[]]++lb,W1,by rw [hro,hW1];exact hen,?_,?_,?_,fun _=>h1,?_⟩
 ·simp only [resolve,hg]
  simp [go_sem]
 ·intro f' hf'
  simp [Target.leads] at hf'
  rw [←hf']
  exact hFg
 ·simp [invoke,go_sem,eg]
 have walk:∀ {A:World} {row:Option Nat},(∀ r,row=some r→W1.heap.size≤r∧∃ o:Obj,A.heap[r]?=some o∧(o.isWalk=true∨∃ c fz,o=.cells c T fz))→∀ r,row=some r→B≤r∧∃ o:Obj,A.heap[r]?=some o∧(o.isCells=false∨∃ c fz,o=.cells c T fz):=fun hr r e=>by
  obtain ⟨hx,o,ho,hw⟩:=hr r e
  rcases hw with hw | hw
  ·exact ⟨by omega,o,ho,.inl (Obj.not_cells_of_walk hw)⟩
  ·exact ⟨by omega,o,ho,.inr hw⟩
 have turn:∀ {W:World} {r:Loop} (r':Loop),Book B r W→Kp W (W.putObj (B+1) (.loop r'))∧(∀ {β:Type} {G:β→World→Prop} {s:β},OwnFrom B G→G s W→G s (W.putObj (B+1) (.loop r'))):=fun r' h =>
  ⟨hKb _ _ _ _ (by omega) h.loop rfl rfl,fun hG hs=>hG.putObj _ hs (by omega) h.loop rfl⟩
 refine (hseq (B+1) (fun k W=>I k W∧Book B (rc .ready none) W) (fun k W=>∃ c,Ix c k W∧Book B (rc .done (some c)) W) W1 hb1
  (fun k X Y row hs hgr hr=>⟨hI k X Y row hs.1 hgr (walk hr),hs.2.kept hgr fun j e=>(hr j e).2⟩)
  (fun k X Y row ⟨c,hc,hk⟩ hgr hr=>⟨c,hIx c k X Y row hc hgr (walk hr),hk.kept hgr fun j e=>(hr j e).2⟩) ?_ ⟨hI1,hbk⟩).mono ?_
 ·
  rintro k hk W ⟨hi,hbo⟩
  have hy:=run_yield (P:=P) (args:=encs E[k]) hbo.loop (hps _)
  refine ⟨fn,_,assign,body,hy,roundIn_of_wpIn hfn (hassign (B+1) k hk W _ hi fun a' W2 k2 p2 i2 x2=>?_)⟩
  have hbo2:=hbo.keepsFrom k2
  refine ⟨_,run_beginRound hbo2.loop rfl,?_⟩
  obtain ⟨kp2,tr2⟩:=turn { rc .ready none with state:=.busy } hbo2
  have hbo3:=hbo2.put { rc .ready none with state:=.busy }
  refine wpIn_mono (hbody (B+1) k hk a' _ (by omega) ⟨_,hbo3.loop⟩ (tr2 hI.from i2) (tr2 (s:=()) (hAx k a') x2)) ?_
  have leave:∀ (j:Option Code) (W3:World),KeepsFrom B (W2.putObj (B+1) (.loop { rc .ready none with state:=.busy })) W3 →
    (Instr.endRound (B+1) j).run P W3=.ok (.bool j.isNone) (W3.putObj (B+1) (.loop (rc (if j.isNone then .ready else .done) j)))∧Book B { rc .ready none with state:=.busy } W3:=fun j W3 k3 =>
   ⟨run_endRound j (hbo3.keepsFrom k3).loop,hbo3.keepsFrom k3⟩
  intro e a3 W3 hp
  cases e with
  | normal =>
   obtain ⟨k3,p3,i3⟩:=hp
   obtain ⟨hr,hbo4⟩:=leave none W3 k3
   obtain ⟨kp4,tr4⟩:=turn (rc .ready none) hbo4
   exact ⟨_,_,hr,.inl ⟨rfl,⟨tr4 hI.from i3,hbo4.put _⟩,hKt p2 (hKt kp2 (hKt p3 kp4))⟩⟩
  | ret =>
   obtain ⟨k3,i3⟩:=hp
   obtain ⟨hr,hbo4⟩:=leave (some .ret) W3 k3
   exact ⟨_,_,hr,.inr ⟨rfl,.ret,(turn _ hbo4).2 (hIx _).from i3,hbo4.put _⟩⟩
  | exit id =>
   obtain ⟨k3,i3⟩:=hp
   obtain ⟨hr,hbo4⟩:=leave (some (.exit id)) W3 k3
   exact ⟨_,_,hr,.inr ⟨rfl,.exit id,(turn _ hbo4).2 (hIx _).from i3,hbo4.put _⟩⟩
  | goto t =>
   obtain ⟨k3,i3⟩:=hp
   obtain ⟨hr,hbo4⟩:=leave (some (.goto t)) W3 k3
   exact ⟨_,_,hr,.inr ⟨rfl,.goto t,(turn _ hbo4).2 (hIx _).from i3,hbo4.put _⟩⟩
  | panic ch=>exact hp.elim
  | outgrown=>exact hp.elim
 ·
  rintro e W2 ⟨⟨v,rfl⟩,(⟨hi,hbo⟩ | ⟨k,hk,c,hi,hbo⟩)⟩
  ·refine ⟨none,_,run_endLoop hbo.loop (by simp [rc]),?_⟩
   exact hdone B _ (Nat.le_refl _) ((turn _ hbo).2 hI.from hi) (hbo.put _).mark
  ·refine ⟨some c,_,run_endLoop hbo.loop (by simp [rc]),?_⟩
   exact hstop B c k _ (Nat.le_refl _) hk ((turn _ hbo).2 (hIx c).from hi) (hbo.put _).mark
end
end Go.Proofs.YtogdahbbogimcaaGreatDoor
namespace Go.Proofs.YtogdahbbogimcaaGreatDoor
open Go
def Lifts (F:Fence) (n:Nat) (P:Program):Prop:=(∀ f,F.fn f)∧∀ (o:Oper) (a:Act) (w:World) (K K':Act→World→Prop) (Q Q':Exit→Act→World→Prop),noDefer o.op=true→(∀ a w,K a w→K' a w)→o.wp P a w K (NormalOnly Q)→o.wpIn F n P a w K' Q'
theorem lifts_round {l n:Nat} {P:Program}:Lifts (Fence.wide.inRound l) n P:=by
 refine ⟨fun _=>trivial,fun o a w K K' Q Q' hp hK h=>?_⟩
 refine ⟨fun f hf=>trivial,?_⟩
 rw [Oper.semAt_eq _ _ _ (fun c hc=>by rw [hc] at hp;simp [noDefer] at hp)]
 unfold Oper.wp at h
 generalize (execOp a.eval o).run P w=r at h
 cases r with
 | ok x w' =>
  cases x with
  | value v=>exact hK _ _ h
  | skip=>exact hK _ _ h
  | defer d=>exact hK _ _ h
  | enter f args =>
   refine ⟨fun h=>(by simp [Fence.wide] at h),CallsIn.inRound l (callsIn_wide.2 (Calls.mono h ?_))⟩
   intro e w'' he
   cases e with
   | returned v=>exact hK _ _ he
   | panicked ch=>exact he.elim
   | outgrown=>obtain ⟨_,_,he⟩:=he;exact he.elim
  | row row args=>exact ⟨fun h=>(by simp [Fence.wide] at h),(rowsIn_wide h).mono fun v w' h=>hK _ _ h⟩
  | _=>exact h.elim
 | halt x w' =>
  cases x <;> exact h.elim
theorem lifts_wide {n:Nat} {P:Program}:Lifts Fence.wide n P:=by
 refine ⟨fun _=>trivial,fun o a w K K' Q Q' hp hK h=>?_⟩
 refine ⟨fun f hf=>trivial,?_⟩
 rw [Oper.semAt_eq _ _ _ (fun c hc=>by rw [hc] at hp;simp [noDefer] at hp)]
 unfold Oper.wp at h
 generalize (execOp a.eval o).run P w=r at h
 cases r with
 | ok x w' =>
  cases x with
  | value v=>exact hK _ _ h
  | skip=>exact hK _ _ h
  | defer d=>exact hK _ _ h
  | enter f args =>
   refine ⟨fun h=>(by simp [Fence.wide] at h),callsIn_wide.2 (Calls.mono h ?_)⟩
   intro e w'' he
   cases e with
   | returned v=>exact hK _ _ he
   | panicked ch=>exact he.elim
   | outgrown=>obtain ⟨_,_,he⟩:=he;exact he.elim
  | row row args =>
   refine ⟨fun h=>(by simp [Fence.wide] at h),fun c cs _=>?_⟩
   obtain ⟨v,w',hr,hs⟩:=h c cs
   exact ⟨v,w',hK _ _ hr,stepsIn_wide.2 hs⟩
  | _=>exact h.elim
 | halt x w' =>
  cases x <;> exact h.elim
section
variable {F:Fence} {nn:Nat} {P:Program} {ops:Array Oper} {Q Q':Exit→Act→World→Prop} {md:Region.Mode} {S:World→Prop}
theorem wpOpIn_lift (hF:Lifts F nn P) (hp:(ops.toList.all fun o=>noDefer o.op)=true) {i:Nat} {K K':Act→World→Prop} {a:Act} {w:World} (hK:∀ a w,K a w→K' a w) (h:wpOp P ops (NormalOnly Q) i K a w):wpOpIn F nn P ops Q' i K' a w:=by
 unfold wpOp at h
 unfold wpOpIn
 cases hi:ops[i]? with
 | none=>simp only [hi] at h;exact hK _ _ h
 | some o =>
  simp only [hi] at h ⊢
  have ho:noDefer o.op=true:=List.all_eq_true.1 hp o (by
   obtain ⟨h1,h2⟩:=Array.getElem?_eq_some_iff.1 hi
   rw [←h2];exact Array.getElem_mem_toList h1)
  by_cases hw:Region.wanted o (yielded ops a.tmps)=true
  ·rw [if_pos hw] at h ⊢
   rcases h with h | ⟨_,⟨_,_,h⟩⟩
   ·exact hF.2 o a w K K' Q Q' ho hK h
   ·exact h.elim
  ·rw [if_neg hw] at h ⊢
   exact ⟨fun f _=>hF.1 f,hK _ _ h⟩
theorem wpAnyIn_of_HL (hF:Lifts F nn P) (hp:(ops.toList.all fun o=>noDefer o.op)=true) {n g:Nat} {L:Array Bool→Act→World→Prop} (hL:∀ listed a w,L listed a w→wpAnyIn F nn P md ops Q' g listed a w) :
  ∀ (f:Nat) (listed:Array Bool) (a:Act) (w:World),wpHL P md ops (NormalOnly Q) S n L f listed a w→wpAnyIn F nn P md ops Q' (f+g) listed a w
 | 0,listed,a,w,h=>by rw [Nat.zero_add];exact hL _ _ _ h
 | f+1,listed,a,w,h=>by
  rw [show f+1+g=(f+g)+1 by omega]
  exact ⟨fun h0=>absurd h0 h.1,fun i hi=>wpOpIn_lift hF hp (fun a' w' h'=>wpAnyIn_of_HL hF hp hL f _ a' w' h'.2) (h.2 i hi).2⟩
theorem wpAnyIn_of_seq:∀ (l:List Oper) (k:Nat) (listed:Array Bool) (a:Act) (w:World),(∀ j,l[j]?=ops[k+j]?) →
  Region.seqB md ops l.length k listed=true→wpListIn F nn P ops Q' l a w→wpAnyIn F nn P md ops Q' l.length listed a w
 | [],_,_,_,_,_,hB,h=>⟨by simpa [Region.seqB] using hB,h⟩
 | o :: l,k,listed,a,w,hl,hB,h=>by
  have h0:ops[k]?=some o:=by simpa using (hl 0).symm
  simp only [List.length_cons,Region.seqB,Bool.and_eq_true,decide_eq_true_eq] at hB
  refine ⟨fun h1=>(by rw [hB.1] at h1;cases h1),fun i hi=>?_⟩
  rw [hB.1] at hi
  have hik:i=k:=by simpa using hi
  subst hik
  have hw:wpOpIn F nn P ops Q' i (wpListIn F nn P ops Q' l) a w:=by unfold wpOpIn;simp only [h0];exact h
  exact wpOpIn_mono (fun a' w' h'=>wpAnyIn_of_seq l (i+1) _ a' w' (fun j=>by have:=hl (j+1);simpa [Nat.add_assoc,Nat.add_comm 1 j] using this) hB.2 h') hw
end
theorem wpIn_held_list {F:Fence} {nn:Nat} {P:Program} {id:Nat} {Q:Exit→Act→World→Prop} {a:Act} {w:World} {l:List Oper} (hF:Lifts F nn P) (S:World→Prop) (takes keeps:List Nat) (n2:Nat) (hm:P.follows .mixedOrders=true)
  (hB:heldLB .any l.toArray takes keeps n2=true) (hp:(l.all fun o=>noDefer o.op)=true) (hS:S w.drew)
  (h:wpTakeL P l.toArray S (fun a'=>wpKeepL P l.toArray S (NormalOnly fun _ _ _=>False) (fun a'' w''=>wpListIn F nn P l.toArray Q (l.drop n2) a'' w'') keeps a' w.drew) takes a):(Code.region id l.toArray true).wpIn F nn P Q a w:=by
 refine wpIn_region_any hm ?_
 simp only [heldLB,Bool.and_eq_true,decide_eq_true_eq] at hB
 obtain ⟨⟨⟨⟨⟨hsel,hn'⟩,hlen⟩,hs⟩,hc⟩,htk⟩:=hB
 have hl:n2<l.length:=by simpa using hn'
 have hdl:(l.drop n2).length=l.toArray.size-n2:=by simp
 have inv0:HeadInv .any l.toArray n2 (Array.replicate l.toArray.size false):=
  ⟨by simp,fun j oj _ hl=>(by rw [getD_replicate_false] at hl;cases hl),fun t _ ht=>getD_in (by simpa using ht) (getD_replicate_false _ _)⟩
 have H:=wpHL_takeL (P:=P) (ops:=l.toArray) (md:=.any) (Q:=NormalOnly fun _ _ _=>False) (S:=S) (n:=n2) (g:=l.toArray.size-n2) (keeps:=keeps)
  (L:=fun listed' a' w'=>Region.seqB .any l.toArray (l.toArray.size-n2) n2 listed'=true∧wpListIn F nn P l.toArray Q (l.drop n2) a' w')
  (Lq:=fun a'=>wpKeepL P l.toArray S (NormalOnly fun _ _ _=>False) (fun a'' w''=>wpListIn F nn P l.toArray Q (l.drop n2) a'' w'') keeps a' w.drew)
  hsel hs hc hn' (fun c a w h=>h) (fun listed a w hL=>seqB_ready hL.1) w.drew hS
  (fun listed a hk hq=>wpHL_keepL (md:=.any) (Q:=NormalOnly fun _ _ _=>False) (n:=n2) (g:=l.toArray.size-n2) keeps listed a w.drew hk hq)
  takes _ a inv0 htk h
 have H2:=wpAnyIn_of_HL (F:=F) (nn:=nn) (Q':=Q) (g:=l.toArray.size-n2) hF (by simpa using hp) (fun listed a' w' hL=>by
  have:=wpAnyIn_of_seq (F:=F) (nn:=nn) (P:=P) (md:=.any) (Q':=Q) (l.drop n2) n2 listed a' w' (fun j=>by simp [List.getElem?_drop]) (by rw [hdl];exact hL.1) hL.2
  rwa [hdl] at this) _ _ _ _ H
 have hsz:takes.length+keeps.length+(l.toArray.size-n2)=l.toArray.size:=by
  have:l.toArray.size=l.length:=by simp
  omega
 rw [hsz] at H2
 exact H2
section
variable {P:Program} {ops:Array Oper} {Q:Exit→Act→World→Prop} {md:Region.Mode} {S:World→Prop}
def keptLF (md:Region.Mode) (ops:Array Oper) (n:Nat) (fin:Array Bool→Bool):List Nat→Array Bool→Bool
 | [],listed=>fin listed
 | k :: rest,listed=>decide (k<n) && decide (Region.ready md ops listed=[k]) && keptLF md ops n fin rest (listed.setIfInBounds k true)
def takesLF (md:Region.Mode) (ops:Array Oper) (n:Nat) (fin:Array Bool→Bool) (keeps:List Nat):List Nat→Array Bool→Bool
 | [],listed=>keptLF md ops n fin keeps listed
 | k :: rest,listed=>decide (k<n) && (Region.ready md ops listed).contains k && Region.free md ops listed k && takesLF md ops n fin keeps rest (listed.setIfInBounds k true)
theorem wpHL_keepF {n:Nat} {fin:Array Bool→Bool} {g:Nat} {L:Array Bool→Act→World→Prop} {Lq:Act→World→Prop} (hL:∀ listed a w,fin listed=true→S w→Lq a w→wpHL P md ops Q S n L g listed a w) :
  ∀ (l:List Nat) (listed:Array Bool) (a:Act) (w:World),S w→keptLF md ops n fin l listed=true→wpKeepL P ops S Q Lq l a w→wpHL P md ops Q S n L (l.length+g) listed a w
 | [],_,_,_,hS,hB,h=>by rw [List.length_nil,Nat.zero_add];exact hL _ _ _ hB hS h
 | k :: l,listed,a,w,_,hB,h=>by
  simp only [keptLF,Bool.and_eq_true,decide_eq_true_eq] at hB
  obtain ⟨⟨hkn,hr⟩,hB'⟩:=hB
  obtain ⟨o,h0,hw,ho⟩:=h
  rw [List.length_cons,show l.length+1+g=(l.length+g)+1 by omega]
  refine ⟨by rw [hr];simp,fun i hi=>?_⟩
  rw [hr] at hi
  have hik:i=k:=by simpa using hi
  subst hik
  refine ⟨hkn,?_⟩
  unfold wpOp
  simp only [h0]
  rw [if_pos hw]
  exact .inl (Oper.wp_mono (fun a' w' h'=>⟨h'.1,wpHL_keepF hL l _ a' w' h'.1 hB' h'.2⟩) ho)
theorem wpHL_takeF {n f:Nat} {fin:Array Bool→Bool} {keeps:List Nat} {L:Array Bool→Act→World→Prop} {Lq:Act→Prop} (hsel:Region.noSelect ops=true) (hs:Region.sinkB md ops n=true) (hc:Region.chainB md ops n=true) (hn:n<ops.size)
  (hQ:∀ c a w,¬ Q (.panic c) a w) (hdone:∀ listed a w,L listed a w→∀ j∈Region.ready md ops listed,n≤j) (w:World) (hS:S w)
  (hfin:∀ listed a,keptLF md ops n fin keeps listed=true→Lq a→wpHL P md ops Q S n L f listed a w) :
  ∀ (l:List Nat) (listed:Array Bool) (a:Act),HeadInv md ops n listed →
  takesLF md ops n fin keeps l listed=true→wpTakeL P ops S Lq l a→wpHL P md ops Q S n L (l.length+f) listed a w
 | [],listed,a,inv,hB,h=>by
  rw [List.length_nil,Nat.zero_add]
  exact hfin _ _ hB h
 | k :: l,listed,a,inv,hB,h=>by
  simp only [takesLF,Bool.and_eq_true,decide_eq_true_eq] at hB
  obtain ⟨⟨⟨hkn,hr⟩,hf⟩,hB'⟩:=hB
  have hr':k∈Region.ready md ops listed:=by simpa using hr
  obtain ⟨o,v,h0,hy,hK⟩:=h
  rw [List.length_cons,show l.length+1+f=(l.length+f)+1 by omega]
  exact wpHL_first h0 (Region.noSelect_spec hsel) (fun c a w h=>absurd h (hQ _ _ _)) hs hc hn hkn hdone (l.length+f) listed a w inv (Region.free_spec h0 hf) hr' hy hS
   (wpHL_takeF hsel hs hc hn hQ hdone w hS hfin l _ _ (inv.set hr' hkn) hB' hK)
def PureAt (P:Program) (ops:Array Oper) (a:Act) (o:Oper) (v:Value):Prop:=Region.wanted o (yielded ops a.tmps)=true∧∀ w,(execOp a.eval o).run P w=.ok (.value v) w
theorem PureAt.wpOp {i:Nat} {o:Oper} {v:Value} {a:Act} {w:World} {K:Act→World→Prop} (hi:ops[i]?=some o) (h:PureAt P ops a o v) (hK:K (a.put o.dst v) w):wpOp P ops Q i K a w:=by
 unfold Go.wpOp
 simp only [hi]
 rw [if_pos h.1]
 refine .inl ?_
 unfold Oper.wp
 rw [h.2 w]
 exact hK
def pairB (md:Region.Mode) (ops:Array Oper) (n g i j:Nat) (listed:Array Bool):Bool:=
 decide (Region.ready md ops listed=[i,j]) && decide (Region.ready md ops (listed.setIfInBounds i true)=[j]) && decide (Region.ready md ops (listed.setIfInBounds j true)=[i]) && decide (i<n) && decide (j<n) && decide (i≠j) && Region.seqB md ops g n ((listed.setIfInBounds i true).setIfInBounds j true)
structure PairAt (P:Program) (ops:Array Oper) (Lq:Act→World→Prop) (i j:Nat) (a:Act) (w:World):Prop where
 ok:∃ oi oj vi vj,ops[i]?=some oi∧ops[j]?=some oj∧PureAt P ops a oi vi∧PureAt P ops a oj vj∧PureAt P ops (a.put oi.dst vi) oj vj∧PureAt P ops (a.put oj.dst vj) oi vi ∧
  (a.put oj.dst vj).put oi.dst vi=(a.put oi.dst vi).put oj.dst vj∧Lq ((a.put oi.dst vi).put oj.dst vj) w
theorem wpHL_pair {n g i j:Nat} {Lq:Act→World→Prop} (listed:Array Bool) (a:Act) (w:World) (hB:pairB md ops n g i j listed=true) (hS:S w) (h:PairAt P ops Lq i j a w) :
  wpHL P md ops Q S n (fun listed' a' w'=>Region.seqB md ops g n listed'=true∧Lq a' w') 2 listed a w:=by
 simp only [pairB,Bool.and_eq_true,decide_eq_true_eq] at hB
 obtain ⟨⟨⟨⟨⟨⟨hr,hri⟩,hrj⟩,hin⟩,hjn⟩,hne⟩,hsq⟩:=hB
 obtain ⟨oi,oj,vi,vj,hi,hj,p1,p2,p3,p4,hc,hL⟩:=h.ok
 refine ⟨by rw [hr];simp,fun k hk=>?_⟩
 rw [hr] at hk
 rcases List.mem_cons.1 hk with rfl | hk
 ·refine ⟨hin,p1.wpOp hi ⟨hS,by rw [hri];simp,fun k' hk'=>?_⟩⟩
  rw [hri] at hk'
  obtain rfl:k'=j:=by simpa using hk'
  exact ⟨hjn,p3.wpOp hj ⟨hS,hsq,hL⟩⟩
 ·obtain rfl:k=j:=by simpa using hk
  refine ⟨hjn,p2.wpOp hj ⟨hS,by rw [hrj];simp,fun k' hk'=>?_⟩⟩
  rw [hrj] at hk'
  obtain rfl:k'=i:=by simpa using hk'
  refine ⟨hin,p4.wpOp hi ⟨hS,?_,?_⟩⟩
  ·rw [Array.setIfInBounds_comm _ _ (Ne.symm hne)];exact hsq
  ·rw [hc];exact hL
end
def heldPB (md:Region.Mode) (ops:Array Oper) (takes keeps:List Nat) (i j n2:Nat):Bool:=
 Region.noSelect ops && decide (n2<ops.size) && decide (takes.length+keeps.length+2=n2) && Region.sinkB md ops n2 && Region.chainB md ops n2 && takesLF md ops n2 (pairB md ops n2 (ops.size-n2) i j) keeps takes (Array.replicate ops.size false)
theorem wpIn_held_pair {F:Fence} {nn:Nat} {P:Program} {id:Nat} {Q:Exit→Act→World→Prop} {a:Act} {w:World} {l:List Oper} (hF:Lifts F nn P) (S:World→Prop) (takes keeps:List Nat) (i j n2:Nat) (hm:P.follows .mixedOrders=true)
  (hB:heldPB .any l.toArray takes keeps i j n2=true) (hp:(l.all fun o=>noDefer o.op)=true) (hS:S w.drew)
  (h:wpTakeL P l.toArray S (fun a'=>wpKeepL P l.toArray S (NormalOnly fun _ _ _=>False) (fun a'' w''=>PairAt P l.toArray (fun a w=>wpListIn F nn P l.toArray Q (l.drop n2) a w) i j a'' w'') keeps a' w.drew) takes a):(Code.region id l.toArray true).wpIn F nn P Q a w:=by
 refine wpIn_region_any hm ?_
 simp only [heldPB,Bool.and_eq_true,decide_eq_true_eq] at hB
 obtain ⟨⟨⟨⟨⟨hsel,hn'⟩,hlen⟩,hs⟩,hc⟩,htk⟩:=hB
 have hl:n2<l.length:=by simpa using hn'
 have hdl:(l.drop n2).length=l.toArray.size-n2:=by simp
 have inv0:HeadInv .any l.toArray n2 (Array.replicate l.toArray.size false):=
  ⟨by simp,fun j oj _ hl=>(by rw [getD_replicate_false] at hl;cases hl),fun t _ ht=>getD_in (by simpa using ht) (getD_replicate_false _ _)⟩
 have H:=wpHL_takeF (P:=P) (ops:=l.toArray) (md:=.any) (Q:=NormalOnly fun _ _ _=>False) (S:=S) (n:=n2) (keeps:=keeps) (f:=keeps.length+2)
  (L:=fun listed' a' w'=>Region.seqB .any l.toArray (l.toArray.size-n2) n2 listed'=true∧wpListIn F nn P l.toArray Q (l.drop n2) a' w')
  (Lq:=fun a'=>wpKeepL P l.toArray S (NormalOnly fun _ _ _=>False) (fun a'' w''=>PairAt P l.toArray (fun a w=>wpListIn F nn P l.toArray Q (l.drop n2) a w) i j a'' w'') keeps a' w.drew)
  hsel hs hc hn' (fun c a w h=>h) (fun listed a w hL=>seqB_ready hL.1) w.drew hS
  (fun listed a hk hq=>wpHL_keepF (md:=.any) (Q:=NormalOnly fun _ _ _=>False) (n:=n2) (fun listed a w hb hs hp=>wpHL_pair listed a w hb hs hp) keeps listed a w.drew hS hk hq)
  takes _ a inv0 htk h
 have H2:=wpAnyIn_of_HL (F:=F) (nn:=nn) (Q':=Q) (g:=l.toArray.size-n2) hF (by simpa using hp) (fun listed a' w' hL=>by
  have:=wpAnyIn_of_seq (F:=F) (nn:=nn) (P:=P) (md:=.any) (Q':=Q) (l.drop n2) n2 listed a' w' (fun j=>by simp [List.getElem?_drop]) (by rw [hdl];exact hL.1) hL.2
  rwa [hdl] at this) _ _ _ _ H
 have hsz:takes.length+(keeps.length+2)+(l.toArray.size-n2)=l.toArray.size:=by
  have:l.toArray.size=l.length:=by simp
  omega
 rw [hsz] at H2
 exact H2
end Go.Proofs.YtogdahbbogimcaaGreatDoor
namespace Go.Proofs.YtogdahbbogimcaaGreatDoor
open Go.RowKit
theorem run_append_two {P:Program} (w:World) (base:Nat) (t ty e:TypeId) (i:TypeInfo) (z:Value) (size bytes:Nat) (ht:P.underlying t=some (.slice e)) (hi:P.info? e=some i) (hz:i.zero=some z)
  (hsize:i.size=size) (hby:i.bytes=bytes) (hzs:z.cells.size=size) (hsz:0<size)
  (v:Value) (n:Nat) (xs:List Value) (hown:w.ownsRow base e size v n xs)
  (a:Addr) (m c:Nat) (news:List Value) (hl:news.length=m*size) (hnews:∀ j u,news[j]?=some u→w.cell? (a.add j)=some u) (h1:∀ u∈news,u.oneCell'=true)
  (h63:n+m≤maxLen) (hbytes:(n+m)*bytes≤140737488355328) (hbase:base≤w.heap.size) :
  ∃ v' w',(Builtin.append_ #[t,t] ty #[v,.slice (some a) m c]).run P w=.ok v' w'∧w'.ownsRow base e size v' (n+m) (xs++news)∧w.grownBy w' v.ownBlock ∧
   (v'.ownBlock=v.ownBlock∨∃ g,v'.ownBlock=some g∧w.heap.size≤g):=by
 have weak:∀ {w':World} {v':Value},w'.ownsRow w.heap.size e size v' (n+m) (xs++news)→v.ownBlock=none∨True→(v'.ownBlock=v.ownBlock∨∃ g,v'.ownBlock=some g∧w.heap.size≤g)∨v'.ownBlock=none:=fun {w' v'} h _=>by
  cases hv:v'.ownBlock with
  | none=>exact .inr rfl
  | some g=>exact .inl (.inr ⟨g,rfl,(h.lt g hv).1⟩)
 rcases hown.2 with ⟨rfl,rfl⟩ | ⟨g,cap,cur,rfl,hbg,hg,hnc,hcm,hcs,htake⟩
 ·have hx:xs=[]:=List.eq_nil_of_length_eq_zero (by simpa using hown.1)
  subst hx
  obtain ⟨v',w',hr,h2,h3,h4⟩:=run_append_own (P:=P) w w.heap.size t ty e i z size bytes ht hi hz hsize hby hzs hsz (.slice none 0 0) 0 [] (World.ownsRow_nil w _ e size) a m c news hl hnews h1 h63 hbytes (Nat.le_refl _)
  refine ⟨v',w',hr,World.ownsRow.mono h2 hbase,h3,?_⟩
  rcases weak h2 (.inr trivial) with h | h
  ·exact h
  ·exact .inl h
 ·by_cases hroom:n+m≤cap
  ·obtain ⟨w',hr,h2,h3⟩:=run_append_fits (P:=P) w base t ty e i size ht hi hsize g n cap xs hown a m c news hl hnews h1 hroom
   exact ⟨_,w',hr,h2,h3,.inl rfl⟩
  ·obtain ⟨v',w',hr,h2,h3⟩:=run_append_arg_grows (P:=P) w t ty e i z size bytes ht hi hz hsize hby hzs hsz ⟨g,0,none⟩ n cap xs hown.1 (hown.cells (g:=g) rfl) a m c news hl hnews (by omega) h63 hbytes
   refine ⟨v',w',hr,World.ownsRow.mono h2 hbase,⟨h3.os,h3.tape,h3.output,h3.size,fun k hk _=>h3.block k hk (by simp)⟩,?_⟩
   rcases h2.2 with ⟨rfl,h0⟩ | ⟨g',cap',cur',rfl,hb',_⟩
   ·exfalso;omega
   ·exact .inr ⟨g',rfl,hb'⟩
theorem wp_append_two {P:Program} (w:World) {o:Oper} {a:Act} {K:Act→World→Prop} {Q:Exit→Act→World→Prop} (s x:Operand) (t:TypeId)
  (ho:o.op=.call { callee:=.builtin .append,args:=#[s,x],argTypes:=#[t,t] })
  (base:Nat) (e:TypeId) (i:TypeInfo) (z:Value) (size bytes:Nat) (ht:P.underlying t=some (.slice e)) (hi:P.info? e=some i) (hz:i.zero=some z)
  (hsize:i.size=size) (hby:i.bytes=bytes) (hzs:z.cells.size=size) (hsz:0<size)
  (v:Value) (n:Nat) (xs:List Value) (hs:a.eval s=v) (hown:w.ownsRow base e size v n xs)
  (ad:Addr) (m c:Nat) (news:List Value) (hx:a.eval x=.slice (some ad) m c) (hl:news.length=m*size) (hnews:∀ j u,news[j]?=some u→w.cell? (ad.add j)=some u) (h1:∀ u∈news,u.oneCell'=true)
  (h63:n+m≤maxLen) (hbytes:(n+m)*bytes≤140737488355328) (hbase:base≤w.heap.size)
  (h:∀ v' w',w'.ownsRow base e size v' (n+m) (xs++news)→w.grownBy w' v.ownBlock→(v'.ownBlock=v.ownBlock∨∃ g,v'.ownBlock=some g∧w.heap.size≤g)→K (a.put o.dst v') w'):o.wp P a w K Q:=by
 obtain ⟨v',w',hr,h2,h3,h4⟩:=run_append_two (P:=P) w base t o.type e i z size bytes ht hi hz hsize hby hzs hsz v n xs hown ad m c news hl hnews h1 h63 hbytes hbase
 unfold Oper.wp execOp
 simp only [ho,resolve,invoke,builtin,Sem.run_bind,Sem.run_pure,Result.andThen_ok,List.map_toArray,List.map_cons,List.map_nil,hs,hx,hr]
 exact h v' w' h2 h3 h4
theorem wpList_append_two {P:Program} (w:World) {ops:Array Oper} {rest:List Oper} {o:Oper} {a:Act} {Q:Exit→Act→World→Prop} (hgd:o.guard=none) (s x:Operand) (t:TypeId)
  (ho:o.op=.call { callee:=.builtin .append,args:=#[s,x],argTypes:=#[t,t] })
  (base:Nat) (e:TypeId) (i:TypeInfo) (z:Value) (size bytes:Nat) (ht:P.underlying t=some (.slice e)) (hi:P.info? e=some i) (hz:i.zero=some z)
  (hsize:i.size=size) (hby:i.bytes=bytes) (hzs:z.cells.size=size) (hsz:0<size)
  (v:Value) (n:Nat) (xs:List Value) (hs:a.eval s=v) (hown:w.ownsRow base e size v n xs)
  (ad:Addr) (m c:Nat) (news:List Value) (hx:a.eval x=.slice (some ad) m c) (hl:news.length=m*size) (hnews:∀ j u,news[j]?=some u→w.cell? (ad.add j)=some u) (h1:∀ u∈news,u.oneCell'=true)
  (h63:n+m≤maxLen) (hbytes:(n+m)*bytes≤140737488355328) (hbase:base≤w.heap.size)
  (h:∀ v' w',w'.ownsRow base e size v' (n+m) (xs++news)→w.grownBy w' v.ownBlock→(v'.ownBlock=v.ownBlock∨∃ g,v'.ownBlock=some g∧w.heap.size≤g)→wpList P ops Q rest (a.put o.dst v') w'):wpList P ops Q (o :: rest) a w:=
 wpList_plain hgd fun _ hK=>wp_append_two w s x t ho base e i z size bytes ht hi hz hsize hby hzs hsz v n xs hs hown ad m c news hx hl hnews h1 h63 hbytes hbase fun v' w' h2 h3 h4=>hK _ _ (h v' w' h2 h3 h4)
def Aprt (u v:Value):Prop:=u.ownBlock=none∨u.ownBlock≠v.ownBlock
theorem Aprt.symm {u v:Value} (h:Aprt u v):Aprt v u:=by
 unfold Aprt at *
 rcases h with h | h
 ·by_cases hv:v.ownBlock=none
  ·exact .inl hv
  ·rw [h];exact .inr hv
 ·exact .inr (Ne.symm h)
theorem Aprt.grown {w w':World} {base:Nat} {e:TypeId} {size n:Nat} {u v v':Value} {xs:List Value} (h:Aprt u v) (hu:w.ownsRow base e size u n xs) (hg:w.grownBy w' v.ownBlock) (hv:v'.ownBlock=v.ownBlock∨∃ g,v'.ownBlock=some g∧w.heap.size≤g) :
  Aprt u v'∧w'.ownsRow base e size u n xs:=by
 refine ⟨?_,hu.kept hg h⟩
 rcases hv with hv | ⟨g,hv,hgs⟩
 ·unfold Aprt;rw [hv];exact h
 ·cases hub:u.ownBlock with
  | none=>exact .inl hub
  | some k =>
   refine .inr ?_
   rw [hub,hv]
   intro e
   have:=(hu.lt k hub).2
   have:k=g:=Option.some.inj e
   omega
end Go.Proofs.YtogdahbbogimcaaGreatDoor
