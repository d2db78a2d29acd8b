import Derived.StillTailTactics
import Derived.OrdersIn
import Derived.OrdersHeld
import Derived.Deep.RegionHeld3
import Derived.RangeFuncCalls
namespace Go.Proofs.YtogdahbbogimcaaGreatDoor
open Go
def plainOp:Op→Bool
 | .move _ | .assign _ | .load .. | .store .. | .binOp .. | .unOp .. | .fieldAddr .. | .field .. | .indexAddr .. | .index .. | .convert .. | .build .. | .slice ..=>true
 | _=>false
def ValueOrSkip:Result Next→Prop
 | .ok (.value _) _=>True
 | .ok .skip _=>True
 | .halt _ _=>True
 | _=>False
theorem vos_value {P:Program} {w:World} (s:Sem Value):ValueOrSkip ((do pure (Next.value (←s)):Sem Next).run P w):=by
 rw [Sem.run_bind]
 cases s.run P w <;> trivial
theorem vos_skip {P:Program} {w:World} (s:Sem Unit):ValueOrSkip ((do s;pure Next.skip:Sem Next).run P w):=by
 rw [Sem.run_bind]
 cases s.run P w <;> trivial
theorem plain_vos {P:Program} {w:World} {ρ:Operand→Value} {o:Oper} (h:plainOp o.op=true):ValueOrSkip ((execOp ρ o).run P w):=by
 unfold execOp
 dsimp only
 cases ho:o.op <;> rw [ho] at h <;> first | (cases h;done) | exact vos_value _ | exact vos_skip _ | trivial
theorem plain_about {P:Program} {w:World} {ρ:Operand→Value} {o:Oper} (h:plainOp o.op=true):o.about P w ρ=none:=by
 unfold Oper.about
 cases ho:o.op <;> rw [ho] at h <;> first | rfl | cases h
theorem plain_semAt {ro:Option Nat} {ρ:Operand→Value} {o:Oper} (h:plainOp o.op=true):o.semAt ro ρ=execOp ρ o:=
 Oper.semAt_eq _ _ _ fun c hc=>by rw [hc] at h;cases h
def NormalOnly (Q:Exit→Act→World→Prop):Exit→Act→World→Prop
 | .normal,a,w=>Q .normal a w
 | _,_,_=>False
theorem NormalOnly.mk {Q:Exit→Act→World→Prop} {a:Act} {w:World} (h:Q .normal a w):NormalOnly Q .normal a w:=h
theorem NormalOnly.imp {Q:Exit→Act→World→Prop}:∀ (e:Exit) (a:Act) (w:World),NormalOnly Q e a w→Q e a w:=fun e a w h=>by
 cases e <;> first | exact h | exact h.elim
theorem wpIn_normalOnly {F:Fence} {n:Nat} {P:Program} {c:Code} {Q:Exit→Act→World→Prop} {a:Act} {w:World} (h:c.wpIn F n P (NormalOnly Q) a w):c.wpIn F n P Q a w:=Go.wpIn_mono h NormalOnly.imp
theorem wp_normalOnly {P:Program} {c:Code} {Q:Exit→Act→World→Prop} {a:Act} {w:World} (h:c.wp P (NormalOnly Q) a w):c.wp P Q a w:=Go.wp_mono h NormalOnly.imp
theorem wpIn_of_wp {F:Fence} {n:Nat} {P:Program} {o:Oper} {a:Act} {w:World} {K K':Act→World→Prop} {Q:Exit→Act→World→Prop} (hp:plainOp o.op=true) (hK:∀ a w,K a w→K' a w)
  (h:o.wp P a w K (NormalOnly Q)):o.wpIn F n P a w K' Q:=by
 refine ⟨fun f hf=>(by rw [plain_about hp] at hf;cases hf),?_⟩
 rw [plain_semAt hp]
 have hv:=plain_vos (P:=P) (w:=w) (ρ:=a.eval) hp
 unfold Oper.wp at h
 generalize (execOp a.eval o).run P w=r at hv h
 cases r with
 | ok x w' =>
  cases x <;> first | exact hK _ _ h | exact hv.elim
 | halt x w' =>
  cases x <;> exact h.elim
theorem wpOpsIn_of_wpOps {F:Fence} {n:Nat} {P:Program} {ops:Array Oper} {Q:Exit→Act→World→Prop} (hp:(ops.toList.all fun o=>plainOp o.op)=true) :
  ∀ (l:List Nat) (a:Act) (w:World),wpOps P ops (NormalOnly Q) l a w→wpOpsIn F n P ops Q l a w:=by
 intro l
 induction l with
 | nil=>intro a w h;exact h
 | cons i rest ih =>
  intro a w h
  unfold wpOps at h
  unfold wpOpsIn
  cases hi:ops[i]? with
  | none=>simp only [hi] at h;exact ih _ _ h
  | some o =>
   simp only [hi] at h ⊢
   have ho:plainOp o.op=true:=by
    have:=List.all_eq_true.1 hp o (by
     obtain ⟨h1,h2⟩:=Array.getElem?_eq_some_iff.1 hi
     rw [←h2];exact Array.getElem_mem_toList h1)
    exact this
   split at h
   ·rename_i hw
    rw [if_pos hw]
    rcases h with h | ⟨_,⟨_,_,h⟩⟩
    ·exact wpIn_of_wp ho (fun a w=>ih a w) h
    ·exact h.elim
   ·rename_i hw
    rw [if_neg hw]
    exact ⟨fun f hf=>(by rw [plain_about ho] at hf;cases hf),ih _ _ h⟩
theorem wpIn_still_tail {F:Fence} {nn:Nat} {P:Program} {id:Nat} {Q:Exit→Act→World→Prop} {a:Act} {w:World} {l:List Oper} (n:Nat) (hm:P.follows .mixedOrders=true) (hB:Region.lexTailB .any l.toArray n=true)
  (hp:(l.all fun o=>plainOp o.op)=true)
  (h:wpStill P l.toArray w.drew (fun a'=>wpList P l.toArray (NormalOnly Q) (l.drop n) a' w.drew) (l.take n) a):(Code.region id l.toArray true).wpIn F nn P Q a w:=by
 simp only [Region.lexTailB,Bool.and_eq_true,decide_eq_true_eq] at hB
 obtain ⟨⟨⟨⟨hsel,hn⟩,hs⟩,hc⟩,hlex⟩:=hB
 have hn':n<l.length:=by simpa using hn
 have htl:(l.take n).length=n:=by simp;omega
 have hdl:(l.drop n).length=l.toArray.size-n:=by simp
 have inv0:HeadInv .any l.toArray n (Array.replicate l.toArray.size false):=
  ⟨by simp,fun j oj _ hl=>(by rw [getD_replicate_false] at hl;cases hl),fun t _ ht=>getD_in (by simpa using ht) (getD_replicate_false _ _)⟩
 have H:=wpAnyL_lex (md:=.any) (g:=l.toArray.size-n) hsel hs hc hn (l.take n) 0 _ a (fun j hj=>by
  have hj':j<n:=by rw [htl] at hj;exact hj
  simp [hj']) (by simpa using htl) inv0 (by rw [htl];exact hlex) h
 have H2:wpAny P .any l.toArray (NormalOnly Q) l.toArray.size (Array.replicate l.toArray.size false) a w.drew:=by
  have:=wpAny_of_head (Q':=NormalOnly Q) (g:=l.toArray.size-n) (fun listed a' hL=>by
   have:=wpAny_of_seq (md:=.any) (Q':=NormalOnly Q) (l.drop n) n listed a' w.drew (fun j=>by simp [List.getElem?_drop]) (by rw [hdl];exact hL.1) hL.2
   rwa [hdl] at this) _ _ _ H
  rw [htl,show n+(l.toArray.size-n)=l.toArray.size by omega] at this
  exact this
 refine wpIn_region_draw fun t=>?_
 refine wpOpsIn_of_wpOps hp _ _ _ ?_
 simp only [Region.schedule,hm,Bool.true_or,if_true]
 exact wpAny_sound l.toArray.size t _ a _ H2
section
variable {P:Program} {ops:Array Oper} {Q:Exit→Act→World→Prop} {md:Region.Mode} {S:World→Prop}
def wpHL (P:Program) (md:Region.Mode) (ops:Array Oper) (Q:Exit→Act→World→Prop) (S:World→Prop) (n:Nat) (L:Array Bool→Act→World→Prop):Nat→Array Bool→Act→World→Prop
 | 0,listed,a,w=>L listed a w
 | f+1,listed,a,w=>Region.ready md ops listed≠[]∧∀ i∈Region.ready md ops listed,i<n∧wpOp P ops Q i (fun a' w'=>S w'∧wpHL P md ops Q S n L f (listed.setIfInBounds i true) a' w') a w
theorem wpAny_of_HL {n g:Nat} {L:Array Bool→Act→World→Prop} (hL:∀ listed a w,L listed a w→wpAny P md ops Q g listed a w) :
  ∀ (f:Nat) (listed:Array Bool) (a:Act) (w:World),wpHL P md ops Q S n L f listed a w→wpAny P md ops Q (f+g) listed a w
 | 0,listed,a,w,h=>by rw [Nat.zero_add];exact hL _ _ _ h
 | f+1,listed,a,w,h=>by
  rw [show f+1+g=(f+g)+1 by omega]
  exact ⟨fun h0=>absurd h0 h.1,fun i hi=>wpOp_mono (fun a' w' h'=>wpAny_of_HL hL f _ a' w' h'.2) (h.2 i hi).2⟩
theorem wpHL_first {n i:Nat} {oi:Oper} {v:Value} {L:Array Bool→Act→World→Prop} (hi:ops[i]?=some oi) (hsel:∀ (j:Nat) (o:Oper) cs b,ops[j]?=some o→o.op≠.select cs b)
  (hQ:∀ c a w,Q (.panic c) (a.put oi.dst v) w→Q (.panic c) a w)
  (hs:Region.sinkB md ops n=true) (hc:Region.chainB md ops n=true) (hn:n<ops.size) (hin:i<n)
  (hdone:∀ listed a w,L listed a w→∀ j∈Region.ready md ops listed,n≤j) :
  ∀ (f:Nat) (listed:Array Bool) (a:Act) (w:World),HeadInv md ops n listed →
   (∀ j oj,ops[j]?=some oj→j≠i→listed.getD j true=false→(∀ e∈oj.after,Region.binds md e=true→e.on≠i)→oi.apart ops oj=true) →
   i∈Region.ready md ops listed→YieldsIf P ops S oi v a→S w →
   wpHL P md ops Q S n L f (listed.setIfInBounds i true) (a.put oi.dst v) w→wpHL P md ops Q S n L (f+1) listed a w:=by
 intro f
 induction f with
 | zero =>
  intro listed a w inv _ hr hy hS H
  have hun:=(mem_ready.1 hr).1
  refine ⟨fun h=>(by rw [h] at hr;cases hr),fun j hj=>?_⟩
  have hjn:j<n:=by
   rcases Nat.lt_or_ge j n with h | h
   ·exact h
   ·exact absurd hj (tail_waits hs hc hn inv _ i rfl hin hun j h)
  refine ⟨hjn,?_⟩
  by_cases hji:j=i
  ·subst hji;exact hy.wpOp hi hS ⟨hS,H⟩
  ·have:=hdone _ _ _ H j (ready_mono hj hji)
   omega
 | succ f ih =>
  intro listed a w inv hfree hr hy hS H
  have hun:=(mem_ready.1 hr).1
  refine ⟨fun h=>(by rw [h] at hr;cases hr),fun j hj=>?_⟩
  have hjn:j<n:=by
   rcases Nat.lt_or_ge j n with h | h
   ·exact h
   ·exact absurd hj (tail_waits hs hc hn inv _ i rfl hin hun j h)
  refine ⟨hjn,?_⟩
  by_cases hji:j=i
  ·subst hji;exact hy.wpOp hi hS ⟨hS,H⟩
  ·have h1:=(H.2 j (ready_mono hj hji)).2
   obtain ⟨hjun,oj,hoj,hall⟩:=mem_ready.1 hj
   have hnot:∀ e∈oj.after,Region.binds md e=true→e.on≠i:=fun e he hb heq=>by
    have h1:=hall e he hb
    rw [heq,getD_both hun] at h1
    cases h1
   have h2:=wpOp_putIf hoj (hfree j oj hoj hji hjun hnot) (fun cs b=>hsel i oi cs b hi) (fun cs b=>hsel j oj cs b hoj) hQ hy h1
   have hfree':∀ k ok,ops[k]?=some ok→k≠i→(listed.setIfInBounds j true).getD k true=false →
     (∀ e∈ok.after,Region.binds md e=true→e.on≠i)→oi.apart ops ok=true:=fun k ok hk hki hun hno=>by
    refine hfree k ok hk hki ?_ hno
    by_cases hjk:j=k
    ·subst hjk;exact hjun
    ·rw [getD_set_ne true hjk] at hun;exact hun
   refine wpOp_mono (fun a' w' h3=>⟨h3.2.1,ih (listed.setIfInBounds j true) a' w' (inv.set hj hjn) hfree' (ready_mono hr (Ne.symm hji)) h3.1 h3.2.1 ?_⟩) h2
   rw [Array.setIfInBounds_comm _ _ hji]
   exact h3.2.2
def wpTake (P:Program) (ops:Array Oper) (S:World→Prop) (Lq:Act→Prop):List Oper→Act→Prop
 | [],a=>Lq a
 | o :: rest,a=>∃ v,YieldsIf P ops S o v a∧wpTake P ops S Lq rest (a.put o.dst v)
def wpKeep (P:Program) (ops:Array Oper) (S:World→Prop) (Q:Exit→Act→World→Prop) (Lq:Act→World→Prop):List Oper→Act→World→Prop
 | [],a,w=>Lq a w
 | o :: rest,a,w=>Region.wanted o (yielded ops a.tmps)=true∧o.wp P a w (fun a' w'=>S w'∧wpKeep P ops S Q Lq rest a' w') Q
theorem wpTake_nil {Lq:Act→Prop} {a:Act} (h:Lq a):wpTake P ops S Lq [] a:=h
theorem wpTake_step {Lq:Act→Prop} {a:Act} {o:Oper} {rest:List Oper} (v:Value) (hw:Region.wanted o (yielded ops a.tmps)=true) (hv:∀ w,S w→(execOp a.eval o).run P w=.ok (.value v) w)
  (h:wpTake P ops S Lq rest (a.put o.dst v)):wpTake P ops S Lq (o :: rest) a:=⟨v,.inl ⟨hw,hv⟩,h⟩
theorem wpKeep_nil {Lq:Act→World→Prop} {a:Act} {w:World} (h:Lq a w):wpKeep P ops S Q Lq [] a w:=h
theorem wpKeep_step {Lq:Act→World→Prop} {a:Act} {w:World} {o:Oper} {rest:List Oper} (hw:Region.wanted o (yielded ops a.tmps)=true)
  (h:∀ K:Act→World→Prop,(∀ a w,S w∧wpKeep P ops S Q Lq rest a w→K a w)→o.wp P a w K Q):wpKeep P ops S Q Lq (o :: rest) a w:=⟨hw,h _ fun _ _ h=>h⟩
theorem wpList_of_keep:∀ (l:List Oper) (a:Act) (w:World),wpKeep P ops (fun _=>True) Q (fun a w=>Q .normal a w) l a w→wpList P ops Q l a w
 | [],_,_,h=>h
 | o :: rest,a,w,h=>by
  have h1:o.wp P a w (wpList P ops Q rest) Q:=Oper.wp_mono (fun a' w' h'=>wpList_of_keep rest a' w' h'.2) h.2
  unfold wpList
  rw [if_pos h.1]
  exact .inl h1
def keptB (md:Region.Mode) (ops:Array Oper) (g:Nat):Nat→Nat→Array Bool→Bool
 | 0,k,listed=>Region.seqB md ops g k listed
 | f+1,k,listed=>decide (Region.ready md ops listed=[k]) && keptB md ops g f (k+1) (listed.setIfInBounds k true)
def takesB (md:Region.Mode) (ops:Array Oper) (g f2:Nat):Nat→Nat→Array Bool→Bool
 | 0,k,listed=>keptB md ops g f2 k listed
 | f+1,k,listed=>(Region.ready md ops listed).contains k && Region.free md ops listed k && takesB md ops g f2 f (k+1) (listed.setIfInBounds k true)
theorem wpHL_keep {n g:Nat} {Lq:Act→World→Prop}:∀ (l:List Oper) (k:Nat) (listed:Array Bool) (a:Act) (w:World),(∀ j,j<l.length→l[j]?=ops[k+j]?)→k+l.length=n →
  keptB md ops g l.length k listed=true→wpKeep P ops S Q Lq l a w →
  wpHL P md ops Q S n (fun listed' a' w'=>Region.seqB md ops g n listed'=true∧Lq a' w') l.length listed a w
 | [],k,listed,a,w,_,hk,hB,h=>by
  have:k=n:=by simpa using hk
  subst this
  exact ⟨hB,h⟩
 | o :: l,k,listed,a,w,hl,hk,hB,h=>by
  have h0:ops[k]?=some o:=by simpa using (hl 0 (by simp)).symm
  simp only [List.length_cons,keptB,Bool.and_eq_true,decide_eq_true_eq] at hB
  simp only [List.length_cons] at hk
  refine ⟨by rw [hB.1];simp,fun i hi=>?_⟩
  rw [hB.1] at hi
  have hik:i=k:=by simpa using hi
  subst hik
  refine ⟨by omega,?_⟩
  unfold wpOp
  simp only [h0]
  rw [if_pos h.1]
  refine .inl ?_
  exact Oper.wp_mono (fun a' w' h'=>⟨h'.1,wpHL_keep l (i+1) _ a' w' (fun j hj=>by have:=hl (j+1) (by simp;omega);simpa [Nat.add_assoc,Nat.add_comm 1 j] using this) (by omega) hB.2 h'.2⟩) h.2
theorem wpHL_take {n g f2:Nat} {L:Array Bool→Act→World→Prop} {Lq:Act→Prop} (hsel:Region.noSelect ops=true) (hs:Region.sinkB md ops n=true) (hc:Region.chainB md ops n=true) (hn:n<ops.size)
  (hQ:∀ c a w,¬ Q (.panic c) a w) (hdone:∀ listed a w,L listed a w→∀ j∈Region.ready md ops listed,n≤j) (w:World) (hS:S w) (n1:Nat) (hn1:n1≤n)
  (hfin:∀ listed a,keptB md ops g f2 n1 listed=true→Lq a→wpHL P md ops Q S n L f2 listed a w) :
  ∀ (l:List Oper) (k:Nat) (listed:Array Bool) (a:Act),(∀ j,j<l.length→l[j]?=ops[k+j]?)→k+l.length=n1→HeadInv md ops n listed →
  takesB md ops g f2 l.length k listed=true→wpTake P ops S Lq l a→wpHL P md ops Q S n L (l.length+f2) listed a w
 | [],k,listed,a,_,hk,_,hB,h=>by
  have:k=n1:=by simpa using hk
  subst this
  rw [List.length_nil,Nat.zero_add]
  exact hfin _ _ hB h
 | o :: l,k,listed,a,hl,hk,inv,hB,h=>by
  have h0:ops[k]?=some o:=by simpa using (hl 0 (by simp)).symm
  simp only [List.length_cons,takesB,Bool.and_eq_true] at hB
  obtain ⟨⟨hr,hf⟩,hB'⟩:=hB
  simp only [List.length_cons] at hk
  have hkn:k<n:=by omega
  have hr':k∈Region.ready md ops listed:=by simpa using hr
  obtain ⟨v,hy,hK⟩:=h
  rw [List.length_cons,show l.length+1+f2=(l.length+f2)+1 by omega]
  exact wpHL_first h0 (Region.noSelect_spec hsel) (fun c a w h=>absurd h (hQ _ _ _)) hs hc hn hkn hdone (l.length+f2) listed a w inv (Region.free_spec h0 hf) hr' hy hS
   (wpHL_take hsel hs hc hn hQ hdone w hS n1 hn1 hfin l (k+1) _ _ (fun j hj=>by have:=hl (j+1) (by simp;omega);simpa [Nat.add_assoc,Nat.add_comm 1 j] using this) (by omega) (inv.set hr' hkn) hB' hK)
end
def heldB (md:Region.Mode) (ops:Array Oper) (n1 n2:Nat):Bool:=
 Region.noSelect ops && decide (n2<ops.size) && Region.sinkB md ops n2 && Region.chainB md ops n2 && takesB md ops (ops.size-n2) (n2-n1) n1 0 (Array.replicate ops.size false)
theorem wpAny_held_tail {P:Program} {Q:Exit→Act→World→Prop} {a:Act} {w:World} {l:List Oper} (S:World→Prop) (n1 n2:Nat) (hn:n1≤n2) (hB:heldB .any l.toArray n1 n2=true) (hS:S w)
  (h:wpTake P l.toArray S (fun a'=>wpKeep P l.toArray S (NormalOnly Q) (fun a'' w''=>wpKeep P l.toArray (fun _=>True) (NormalOnly Q) (fun a w=>NormalOnly Q .normal a w) (l.drop n2) a'' w'') ((l.take n2).drop n1) a' w) (l.take n1) a) :
  wpAny P .any l.toArray (NormalOnly Q) l.toArray.size (Array.replicate l.toArray.size false) a w:=by
 simp only [heldB,Bool.and_eq_true,decide_eq_true_eq] at hB
 obtain ⟨⟨⟨⟨hsel,hn'⟩,hs⟩,hc⟩,htk⟩:=hB
 have hl:n2<l.length:=by simpa using hn'
 have hsz:l.toArray.size=l.length:=by simp
 have ht1:(l.take n1).length=n1:=by simp;omega
 have ht2:((l.take n2).drop n1).length=n2-n1:=by simp;omega
 have hdl:(l.drop n2).length=l.toArray.size-n2:=by simp
 have inv0:HeadInv .any l.toArray n2 (Array.replicate l.toArray.size false):=
  ⟨by simp,fun j oj _ hl=>(by rw [getD_replicate_false] at hl;cases hl),fun t _ ht=>getD_in (by simpa using ht) (getD_replicate_false _ _)⟩
 have H:=wpHL_take (P:=P) (ops:=l.toArray) (md:=.any) (Q:=NormalOnly Q) (S:=S) (n:=n2) (g:=l.toArray.size-n2) (f2:=n2-n1)
  (L:=fun listed' a' w'=>Region.seqB .any l.toArray (l.toArray.size-n2) n2 listed'=true∧wpKeep P l.toArray (fun _=>True) (NormalOnly Q) (fun a w=>NormalOnly Q .normal a w) (l.drop n2) a' w')
  (Lq:=fun a'=>wpKeep P l.toArray S (NormalOnly Q) (fun a'' w''=>wpKeep P l.toArray (fun _=>True) (NormalOnly Q) (fun a w=>NormalOnly Q .normal a w) (l.drop n2) a'' w'') ((l.take n2).drop n1) a' w)
  hsel hs hc hn' (fun c a w h=>h) (fun listed a w hL=>seqB_ready hL.1) w hS n1 hn
  (fun listed a hk hq=>by
   have:=wpHL_keep (md:=.any) (Q:=NormalOnly Q) (n:=n2) (g:=l.toArray.size-n2) ((l.take n2).drop n1) n1 listed a w (fun j hj=>by
    rw [List.getElem?_drop,List.getElem?_take,if_pos (by omega)];simp) (by omega) (by rw [ht2];exact hk) hq
   rw [ht2] at this
   exact this)
  (l.take n1) 0 _ a (fun j hj=>by
   rw [List.getElem?_take,if_pos (by omega)];simp) (by omega) inv0 (by rw [ht1];exact htk) h
 have H2:=wpAny_of_HL (g:=l.toArray.size-n2) (fun listed a' w' hL=>by
  have:=wpAny_of_seq (md:=.any) (Q':=NormalOnly Q) (l.drop n2) n2 listed a' w' (fun j=>by simp [List.getElem?_drop]) (by rw [hdl];exact hL.1) (wpList_of_keep _ _ _ hL.2)
  rwa [hdl] at this) _ _ _ _ H
 rw [ht1,show n1+(n2-n1)+(l.toArray.size-n2)=l.toArray.size by omega] at H2
 exact H2
theorem wpIn_held_tail {F:Fence} {nn:Nat} {P:Program} {id:Nat} {Q:Exit→Act→World→Prop} {a:Act} {w:World} {l:List Oper} (S:World→Prop) (n1 n2:Nat) (hm:P.follows .mixedOrders=true) (hn:n1≤n2)
  (hB:heldB .any l.toArray n1 n2=true) (hp:(l.all fun o=>plainOp o.op)=true) (hS:S w.drew)
  (h:wpTake P l.toArray S (fun a'=>wpKeep P l.toArray S (NormalOnly Q) (fun a'' w''=>wpKeep P l.toArray (fun _=>True) (NormalOnly Q) (fun a w=>NormalOnly Q .normal a w) (l.drop n2) a'' w'') ((l.take n2).drop n1) a' w.drew) (l.take n1) a):(Code.region id l.toArray true).wpIn F nn P Q a w:=by
 refine wpIn_region_draw fun t=>?_
 refine wpOpsIn_of_wpOps hp _ _ _ ?_
 simp only [Region.schedule,hm,Bool.true_or,if_true]
 exact wpAny_sound l.toArray.size t _ a _ (wpAny_held_tail S n1 n2 hn hB hS h)
def noDefer:Op→Bool
 | .defer _=>false
 | _=>true
theorem rowsIn_wide {n l:Nat} {P:Program} {row:String} {args:Array Value} {w:World} {R:Value→World→Prop} (h:Rows P row args w R):RowsIn (Fence.wide.inRound l) n P row args w R:=by
 intro c cs _
 obtain ⟨v,w',hr,hs⟩:=h c cs
 exact ⟨v,w',hr,stepsIn_wide.2 hs⟩
theorem wpIn_of_wp_wide {l n:Nat} {P:Program} {o:Oper} {a:Act} {w:World} {K K':Act→World→Prop} {Q:Exit→Act→World→Prop} (hp:noDefer o.op=true) (hK:∀ a w,K a w→K' a w)
  (h:o.wp P a w K (NormalOnly Q)):o.wpIn (Fence.wide.inRound l) n P a w K' Q:=by
 refine ⟨fun f hf=>trivial,?_⟩
 rw [Oper.semAt_eq _ _ _ (fun c hc=>by rw [hc] at hp;simp [noDefer] at hp)]
 unfold Oper.wp at h
 generalize (execOp a.eval o).run P w=r at h
 cases r with
 | ok x w' =>
  cases x with
  | value v=>exact hK _ _ h
  | skip=>exact hK _ _ h
  | defer d=>exact hK _ _ h
  | enter f args =>
   refine ⟨fun h=>(by simp [Fence.wide] at h),CallsIn.inRound l (callsIn_wide.2 (Calls.mono h ?_))⟩
   intro e w'' he
   cases e with
   | returned v=>exact hK _ _ he
   | panicked ch=>exact he.elim
   | outgrown=>obtain ⟨_,_,he⟩:=he;exact he.elim
  | row row args=>exact ⟨fun h=>(by simp [Fence.wide] at h),(rowsIn_wide h).mono fun v w' h=>hK _ _ h⟩
  | _=>exact h.elim
 | halt x w' =>
  cases x <;> exact h.elim
theorem wpOpsIn_of_wpOps_wide {l n:Nat} {P:Program} {ops:Array Oper} {Q:Exit→Act→World→Prop} (hp:(ops.toList.all fun o=>noDefer o.op)=true) :
  ∀ (is:List Nat) (a:Act) (w:World),wpOps P ops (NormalOnly Q) is a w→wpOpsIn (Fence.wide.inRound l) n P ops Q is a w:=by
 intro is
 induction is with
 | nil=>intro a w h;exact h
 | cons i rest ih =>
  intro a w h
  unfold wpOps at h
  unfold wpOpsIn
  cases hi:ops[i]? with
  | none=>simp only [hi] at h;exact ih _ _ h
  | some o =>
   simp only [hi] at h ⊢
   have ho:noDefer o.op=true:=by
    have:=List.all_eq_true.1 hp o (by
     obtain ⟨h1,h2⟩:=Array.getElem?_eq_some_iff.1 hi
     rw [←h2];exact Array.getElem_mem_toList h1)
    exact this
   split at h
   ·rename_i hw
    rw [if_pos hw]
    rcases h with h | ⟨_,⟨_,_,h⟩⟩
    ·exact wpIn_of_wp_wide ho (fun a w=>ih a w) h
    ·exact h.elim
   ·rename_i hw
    rw [if_neg hw]
    exact ⟨fun f hf=>trivial,ih _ _ h⟩
theorem wpIn_region_held_wide {l n:Nat} {P:Program} {id:Nat} {Q:Exit→Act→World→Prop} {a:Act} {w:World} {ops:Array Oper} (S:World→Prop) (hm:P.follows .mixedOrders=true) (hp:(ops.toList.all fun o=>noDefer o.op)=true) (hS:S w.drew)
  (h:S w.drew→wpAnyH P .any ops (NormalOnly Q) S ops.size (Array.replicate ops.size false) a w.drew):(Code.region id ops true).wpIn (Fence.wide.inRound l) n P Q a w:=by
 refine wpIn_region_draw fun t=>?_
 refine wpOpsIn_of_wpOps_wide hp _ _ _ ?_
 simp only [Region.schedule,hm,Bool.true_or,if_true]
 exact wpAny_sound ops.size t _ a _ (wpAny_of_held _ _ _ _ (h hS))
theorem wpIn_held_tail_wide {lr nn:Nat} {P:Program} {id:Nat} {Q:Exit→Act→World→Prop} {a:Act} {w:World} {l:List Oper} (S:World→Prop) (n1 n2:Nat) (hm:P.follows .mixedOrders=true) (hn:n1≤n2)
  (hB:heldB .any l.toArray n1 n2=true) (hp:(l.all fun o=>noDefer o.op)=true) (hS:S w.drew)
  (h:wpTake P l.toArray S (fun a'=>wpKeep P l.toArray S (NormalOnly Q) (fun a'' w''=>wpKeep P l.toArray (fun _=>True) (NormalOnly Q) (fun a w=>NormalOnly Q .normal a w) (l.drop n2) a'' w'') ((l.take n2).drop n1) a' w.drew) (l.take n1) a):(Code.region id l.toArray true).wpIn (Fence.wide.inRound lr) nn P Q a w:=by
 refine wpIn_region_draw fun t=>?_
 refine wpOpsIn_of_wpOps_wide (by simpa using hp) _ _ _ ?_
 simp only [Region.schedule,hm,Bool.true_or,if_true]
 exact wpAny_sound l.toArray.size t _ a _ (wpAny_held_tail S n1 n2 hn hB hS h)
section
variable {P:Program} {ops:Array Oper} {Q:Exit→Act→World→Prop} {md:Region.Mode} {S:World→Prop}
def wpTakeL (P:Program) (ops:Array Oper) (S:World→Prop) (Lq:Act→Prop):List Nat→Act→Prop
 | [],a=>Lq a
 | i :: rest,a=>∃ o v,ops[i]?=some o∧YieldsIf P ops S o v a∧wpTakeL P ops S Lq rest (a.put o.dst v)
def wpKeepL (P:Program) (ops:Array Oper) (S:World→Prop) (Q:Exit→Act→World→Prop) (Lq:Act→World→Prop):List Nat→Act→World→Prop
 | [],a,w=>Lq a w
 | i :: rest,a,w=>∃ o,ops[i]?=some o∧Region.wanted o (yielded ops a.tmps)=true∧o.wp P a w (fun a' w'=>S w'∧wpKeepL P ops S Q Lq rest a' w') Q
def keptLB (md:Region.Mode) (ops:Array Oper) (g n:Nat):List Nat→Array Bool→Bool
 | [],listed=>Region.seqB md ops g n listed
 | k :: rest,listed=>decide (k<n) && decide (Region.ready md ops listed=[k]) && keptLB md ops g n rest (listed.setIfInBounds k true)
def takesLB (md:Region.Mode) (ops:Array Oper) (g n:Nat) (keeps:List Nat):List Nat→Array Bool→Bool
 | [],listed=>keptLB md ops g n keeps listed
 | k :: rest,listed=>decide (k<n) && (Region.ready md ops listed).contains k && Region.free md ops listed k && takesLB md ops g n keeps rest (listed.setIfInBounds k true)
theorem wpTakeL_step {Lq:Act→Prop} {a:Act} {i:Nat} {rest:List Nat} {o:Oper} (hi:ops[i]?=some o) (v:Value) (hw:Region.wanted o (yielded ops a.tmps)=true) (hv:∀ w,S w→(execOp a.eval o).run P w=.ok (.value v) w)
  (h:wpTakeL P ops S Lq rest (a.put o.dst v)):wpTakeL P ops S Lq (i :: rest) a:=⟨o,v,hi,.inl ⟨hw,hv⟩,h⟩
theorem wpKeepL_step {Lq:Act→World→Prop} {a:Act} {w:World} {i:Nat} {rest:List Nat} {o:Oper} (hi:ops[i]?=some o) (hw:Region.wanted o (yielded ops a.tmps)=true)
  (h:∀ K:Act→World→Prop,(∀ a w,S w∧wpKeepL P ops S Q Lq rest a w→K a w)→o.wp P a w K Q):wpKeepL P ops S Q Lq (i :: rest) a w:=⟨o,hi,hw,h _ fun _ _ h=>h⟩
theorem wpHL_keepL {n g:Nat} {Lq:Act→World→Prop}:∀ (l:List Nat) (listed:Array Bool) (a:Act) (w:World),keptLB md ops g n l listed=true→wpKeepL P ops S Q Lq l a w →
  wpHL P md ops Q S n (fun listed' a' w'=>Region.seqB md ops g n listed'=true∧Lq a' w') l.length listed a w
 | [],_,_,_,hB,h=>⟨hB,h⟩
 | k :: l,listed,a,w,hB,h=>by
  simp only [keptLB,Bool.and_eq_true,decide_eq_true_eq] at hB
  obtain ⟨⟨hkn,hr⟩,hB'⟩:=hB
  obtain ⟨o,h0,hw,ho⟩:=h
  refine ⟨by rw [hr];simp,fun i hi=>?_⟩
  rw [hr] at hi
  have hik:i=k:=by simpa using hi
  subst hik
  refine ⟨hkn,?_⟩
  unfold wpOp
  simp only [h0]
  rw [if_pos hw]
  exact .inl (Oper.wp_mono (fun a' w' h'=>⟨h'.1,wpHL_keepL l _ a' w' hB' h'.2⟩) ho)
theorem wpHL_takeL {n g:Nat} {keeps:List Nat} {L:Array Bool→Act→World→Prop} {Lq:Act→Prop} (hsel:Region.noSelect ops=true) (hs:Region.sinkB md ops n=true) (hc:Region.chainB md ops n=true) (hn:n<ops.size)
  (hQ:∀ c a w,¬ Q (.panic c) a w) (hdone:∀ listed a w,L listed a w→∀ j∈Region.ready md ops listed,n≤j) (w:World) (hS:S w)
  (hfin:∀ listed a,keptLB md ops g n keeps listed=true→Lq a→wpHL P md ops Q S n L keeps.length listed a w) :
  ∀ (l:List Nat) (listed:Array Bool) (a:Act),HeadInv md ops n listed →
  takesLB md ops g n keeps l listed=true→wpTakeL P ops S Lq l a→wpHL P md ops Q S n L (l.length+keeps.length) listed a w
 | [],listed,a,_,hB,h=>by
  rw [List.length_nil,Nat.zero_add]
  exact hfin _ _ hB h
 | k :: l,listed,a,inv,hB,h=>by
  simp only [takesLB,Bool.and_eq_true,decide_eq_true_eq] at hB
  obtain ⟨⟨⟨hkn,hr⟩,hf⟩,hB'⟩:=hB
  have hr':k∈Region.ready md ops listed:=by simpa using hr
  obtain ⟨o,v,h0,hy,hK⟩:=h
  rw [List.length_cons,show l.length+1+keeps.length=(l.length+keeps.length)+1 by omega]
  exact wpHL_first h0 (Region.noSelect_spec hsel) (fun c a w h=>absurd h (hQ _ _ _)) hs hc hn hkn hdone (l.length+keeps.length) listed a w inv (Region.free_spec h0 hf) hr' hy hS
   (wpHL_takeL hsel hs hc hn hQ hdone w hS hfin l _ _ (inv.set hr' hkn) hB' hK)
end
def heldLB (md:Region.Mode) (ops:Array Oper) (takes keeps:List Nat) (n2:Nat):Bool:=
 Region.noSelect ops && decide (n2<ops.size) && decide (takes.length+keeps.length=n2) && Region.sinkB md ops n2 && Region.chainB md ops n2 && takesLB md ops (ops.size-n2) n2 keeps takes (Array.replicate ops.size false)
theorem wpAny_held_list {P:Program} {Q:Exit→Act→World→Prop} {a:Act} {w:World} {l:List Oper} (S:World→Prop) (takes keeps:List Nat) (n2:Nat) (hB:heldLB .any l.toArray takes keeps n2=true) (hS:S w)
  (h:wpTakeL P l.toArray S (fun a'=>wpKeepL P l.toArray S (NormalOnly Q) (fun a'' w''=>wpKeep P l.toArray (fun _=>True) (NormalOnly Q) (fun a w=>NormalOnly Q .normal a w) (l.drop n2) a'' w'') keeps a' w) takes a) :
  wpAny P .any l.toArray (NormalOnly Q) l.toArray.size (Array.replicate l.toArray.size false) a w:=by
 simp only [heldLB,Bool.and_eq_true,decide_eq_true_eq] at hB
 obtain ⟨⟨⟨⟨⟨hsel,hn'⟩,hlen⟩,hs⟩,hc⟩,htk⟩:=hB
 have hl:n2<l.length:=by simpa using hn'
 have hdl:(l.drop n2).length=l.toArray.size-n2:=by simp
 have inv0:HeadInv .any l.toArray n2 (Array.replicate l.toArray.size false):=
  ⟨by simp,fun j oj _ hl=>(by rw [getD_replicate_false] at hl;cases hl),fun t _ ht=>getD_in (by simpa using ht) (getD_replicate_false _ _)⟩
 have H:=wpHL_takeL (P:=P) (ops:=l.toArray) (md:=.any) (Q:=NormalOnly Q) (S:=S) (n:=n2) (g:=l.toArray.size-n2) (keeps:=keeps)
  (L:=fun listed' a' w'=>Region.seqB .any l.toArray (l.toArray.size-n2) n2 listed'=true∧wpKeep P l.toArray (fun _=>True) (NormalOnly Q) (fun a w=>NormalOnly Q .normal a w) (l.drop n2) a' w')
  (Lq:=fun a'=>wpKeepL P l.toArray S (NormalOnly Q) (fun a'' w''=>wpKeep P l.toArray (fun _=>True) (NormalOnly Q) (fun a w=>NormalOnly Q .normal a w) (l.drop n2) a'' w'') keeps a' w)
  hsel hs hc hn' (fun c a w h=>h) (fun listed a w hL=>seqB_ready hL.1) w hS
  (fun listed a hk hq=>wpHL_keepL (md:=.any) (Q:=NormalOnly Q) (n:=n2) (g:=l.toArray.size-n2) keeps listed a w hk hq)
  takes _ a inv0 htk h
 have H2:=wpAny_of_HL (g:=l.toArray.size-n2) (fun listed a' w' hL=>by
  have:=wpAny_of_seq (md:=.any) (Q':=NormalOnly Q) (l.drop n2) n2 listed a' w' (fun j=>by simp [List.getElem?_drop]) (by rw [hdl];exact hL.1) (wpList_of_keep _ _ _ hL.2)
  rwa [hdl] at this) _ _ _ _ H
 have hsz:takes.length+keeps.length+(l.toArray.size-n2)=l.toArray.size:=by
  have:l.toArray.size=l.length:=by simp
  omega
 rw [hsz] at H2
 exact H2
theorem wp_held_list {P:Program} {id:Nat} {Q:Exit→Act→World→Prop} {a:Act} {w:World} {l:List Oper} (S:World→Prop) (takes keeps:List Nat) (n2:Nat) (hm:P.follows .mixedOrders=true) (hB:heldLB .any l.toArray takes keeps n2=true) (hS:S w.drew)
  (h:wpTakeL P l.toArray S (fun a'=>wpKeepL P l.toArray S (NormalOnly Q) (fun a'' w''=>wpKeep P l.toArray (fun _=>True) (NormalOnly Q) (fun a w=>NormalOnly Q .normal a w) (l.drop n2) a'' w'') keeps a' w.drew) takes a):(Code.region id l.toArray true).wp P Q a w:=
 wp_normalOnly (wp_region_any hm (wpAny_held_list S takes keeps n2 hB hS h))
end Go.Proofs.YtogdahbbogimcaaGreatDoor
namespace Go.Proofs.YtogdahbbogimcaaGreatDoor
open Go.RowKit
section
variable {P:Program} {md:Region.Mode} {ops:Array Oper} {Q:Exit→Act→World→Prop} {S:World→Prop}
theorem wpTakeL_skip {Lq:Act→Prop} {a:Act} {i:Nat} {rest:List Nat} {o:Oper} (hi:ops[i]?=some o) (hw:Region.wanted o (yielded ops a.tmps)=false)
  (h:wpTakeL P ops S Lq rest (a.put o.dst undef)):wpTakeL P ops S Lq (i :: rest) a:=⟨o,undef,hi,.inr ⟨hw,rfl⟩,h⟩
def takesG (md:Region.Mode) (ops:Array Oper) (n:Nat) (B:Array Bool→Bool):List Nat→Array Bool→Bool
 | [],listed=>B listed
 | k :: rest,listed=>decide (k<n) && (Region.ready md ops listed).contains k && Region.free md ops listed k && takesG md ops n B rest (listed.setIfInBounds k true)
def keptG (md:Region.Mode) (ops:Array Oper) (n:Nat) (B:Array Bool→Bool):List Nat→Array Bool→Bool
 | [],listed=>B listed
 | k :: rest,listed=>decide (k<n) && decide (Region.ready md ops listed=[k]) && keptG md ops n B rest (listed.setIfInBounds k true)
theorem wpHL_takeG {n m:Nat} {B:Array Bool→Bool} {L:Array Bool→Act→World→Prop} {Lq:Act→Prop} (hsel:Region.noSelect ops=true) (hs:Region.sinkB md ops n=true) (hc:Region.chainB md ops n=true) (hn:n<ops.size)
  (hQ:∀ c a w,¬ Q (.panic c) a w) (hdone:∀ listed a w,L listed a w→∀ j∈Region.ready md ops listed,n≤j) (w:World) (hS:S w)
  (hfin:∀ listed a,HeadInv md ops n listed→B listed=true→Lq a→wpHL P md ops Q S n L m listed a w) :
  ∀ (l:List Nat) (listed:Array Bool) (a:Act),HeadInv md ops n listed →
  takesG md ops n B l listed=true→wpTakeL P ops S Lq l a→wpHL P md ops Q S n L (l.length+m) listed a w
 | [],listed,a,inv,hB,h=>by
  rw [List.length_nil,Nat.zero_add]
  exact hfin _ _ inv hB h
 | k :: l,listed,a,inv,hB,h=>by
  simp only [takesG,Bool.and_eq_true,decide_eq_true_eq] at hB
  obtain ⟨⟨⟨hkn,hr⟩,hf⟩,hB'⟩:=hB
  have hr':k∈Region.ready md ops listed:=by simpa using hr
  obtain ⟨o,v,h0,hy,hK⟩:=h
  rw [List.length_cons,show l.length+1+m=(l.length+m)+1 by omega]
  exact wpHL_first h0 (Region.noSelect_spec hsel) (fun c a w h=>absurd h (hQ _ _ _)) hs hc hn hkn hdone (l.length+m) listed a w inv (Region.free_spec h0 hf) hr' hy hS
   (wpHL_takeG hsel hs hc hn hQ hdone w hS hfin l _ _ (inv.set hr' hkn) hB' hK)
theorem wpHL_keepG {n m:Nat} {B:Array Bool→Bool} {L:Array Bool→Act→World→Prop} {Lq:Act→World→Prop}
  (hfin:∀ listed a w,HeadInv md ops n listed→B listed=true→S w→Lq a w→wpHL P md ops Q S n L m listed a w) :
  ∀ (l:List Nat) (listed:Array Bool) (a:Act) (w:World),HeadInv md ops n listed→S w→keptG md ops n B l listed=true→wpKeepL P ops S Q Lq l a w→wpHL P md ops Q S n L (l.length+m) listed a w
 | [],listed,a,w,inv,hS,hB,h=>by
  rw [List.length_nil,Nat.zero_add]
  exact hfin _ _ _ inv hB hS h
 | k :: l,listed,a,w,inv,hS,hB,h=>by
  simp only [keptG,Bool.and_eq_true,decide_eq_true_eq] at hB
  obtain ⟨⟨hkn,hr⟩,hB'⟩:=hB
  obtain ⟨o,h0,hw,ho⟩:=h
  have hr':k∈Region.ready md ops listed:=by rw [hr];simp
  rw [List.length_cons,show l.length+1+m=(l.length+m)+1 by omega]
  refine ⟨by rw [hr];simp,fun i hi=>?_⟩
  rw [hr] at hi
  have hik:i=k:=by simpa using hi
  subst hik
  refine ⟨hkn,?_⟩
  unfold wpOp
  simp only [h0]
  rw [if_pos hw]
  exact .inl (Oper.wp_mono (fun a' w' h'=>⟨h'.1,wpHL_keepG hfin l _ a' w' (inv.set hr' hkn) h'.1 hB' h'.2⟩) ho)
end
def heldAB (md:Region.Mode) (ops:Array Oper) (t1 k1 t2 k2:List Nat) (n2:Nat):Bool:=
 Region.noSelect ops && decide (n2<ops.size) && decide (t1.length+(k1.length+(t2.length+k2.length))=n2) && Region.sinkB md ops n2 && Region.chainB md ops n2 &&
  takesG md ops n2 (keptG md ops n2 (takesG md ops n2 (keptLB md ops (ops.size-n2) n2 k2) t2) k1) t1 (Array.replicate ops.size false)
theorem wpAny_held_two {P:Program} {Q:Exit→Act→World→Prop} {a:Act} {w:World} {l:List Oper} (S:World→Prop) (t1 k1 t2 k2:List Nat) (n2:Nat) (hB:heldAB .any l.toArray t1 k1 t2 k2 n2=true) (hS:S w)
  (h:wpTakeL P l.toArray S (fun a1=>wpKeepL P l.toArray S (NormalOnly Q) (fun a2 w2=>wpTakeL P l.toArray S (fun a'=>wpKeepL P l.toArray S (NormalOnly Q) (fun a'' w''=>wpKeep P l.toArray (fun _=>True) (NormalOnly Q) (fun a w=>NormalOnly Q .normal a w) (l.drop n2) a'' w'') k2 a' w2) t2 a2) k1 a1 w) t1 a) :
  wpAny P .any l.toArray (NormalOnly Q) l.toArray.size (Array.replicate l.toArray.size false) a w:=by
 simp only [heldAB,Bool.and_eq_true,decide_eq_true_eq] at hB
 obtain ⟨⟨⟨⟨⟨hsel,hn'⟩,hlen⟩,hs⟩,hc⟩,htk⟩:=hB
 have hl:n2<l.length:=by simpa using hn'
 have hdl:(l.drop n2).length=l.toArray.size-n2:=by simp
 have inv0:HeadInv .any l.toArray n2 (Array.replicate l.toArray.size false):=
  ⟨by simp,fun j oj _ hl=>(by rw [getD_replicate_false] at hl;cases hl),fun t _ ht=>getD_in (by simpa using ht) (getD_replicate_false _ _)⟩
 have hdone:∀ listed (a:Act) (w:World),(fun listed' (a':Act) (w':World)=>Region.seqB .any l.toArray (l.toArray.size-n2) n2 listed'=true∧wpKeep P l.toArray (fun _=>True) (NormalOnly Q) (fun a w=>NormalOnly Q .normal a w) (l.drop n2) a' w') listed a w→∀ j∈Region.ready .any l.toArray listed,n2≤j:=
  fun listed a w hL=>seqB_ready hL.1
 have H:=wpHL_takeG (P:=P) (ops:=l.toArray) (md:=.any) (Q:=NormalOnly Q) (S:=S) (n:=n2) (m:=k1.length+(t2.length+k2.length))
  hsel hs hc hn' (fun c a w h=>h) hdone w hS
  (fun listed a inv hk hq=>wpHL_keepG (m:=t2.length+k2.length) (fun listed2 a2 w2 inv2 hB2 hS2 hq2 =>
   wpHL_takeG (m:=k2.length) hsel hs hc hn' (fun c a w h=>h) hdone w2 hS2
    (fun listed3 a3 _ hk3 hq3=>wpHL_keepL (md:=.any) (Q:=NormalOnly Q) (n:=n2) (g:=l.toArray.size-n2) k2 listed3 a3 w2 hk3 hq3) t2 listed2 a2 inv2 hB2 hq2) k1 listed a w inv hS hk hq)
  t1 _ a inv0 htk h
 have H2:=wpAny_of_HL (g:=l.toArray.size-n2) (fun listed a' w' hL=>by
  have:=wpAny_of_seq (md:=.any) (Q':=NormalOnly Q) (l.drop n2) n2 listed a' w' (fun j=>by simp [List.getElem?_drop]) (by rw [hdl];exact hL.1) (wpList_of_keep _ _ _ hL.2)
  rwa [hdl] at this) _ _ _ _ H
 have hsz:t1.length+(k1.length+(t2.length+k2.length))+(l.toArray.size-n2)=l.toArray.size:=by
  have:l.toArray.size=l.length:=by simp
  omega
 rw [hsz] at H2
 exact H2
theorem wp_held_two {P:Program} {id:Nat} {Q:Exit→Act→World→Prop} {a:Act} {w:World} {l:List Oper} (S:World→Prop) (t1 k1 t2 k2:List Nat) (n2:Nat) (hm:P.follows .mixedOrders=true) (hB:heldAB .any l.toArray t1 k1 t2 k2 n2=true) (hS:S w.drew)
  (h:wpTakeL P l.toArray S (fun a1=>wpKeepL P l.toArray S (NormalOnly Q) (fun a2 w2=>wpTakeL P l.toArray S (fun a'=>wpKeepL P l.toArray S (NormalOnly Q) (fun a'' w''=>wpKeep P l.toArray (fun _=>True) (NormalOnly Q) (fun a w=>NormalOnly Q .normal a w) (l.drop n2) a'' w'') k2 a' w2) t2 a2) k1 a1 w.drew) t1 a):(Code.region id l.toArray true).wp P Q a w:=
 wp_normalOnly (wp_region_any hm (wpAny_held_two S t1 k1 t2 k2 n2 hB hS h))
end Go.Proofs.YtogdahbbogimcaaGreatDoor
