import Derived.StillTailTactics
import Derived.OrdersIn
import Derived.OrdersHeld
import Derived.Deep.RegionHeld3
import Derived.RangeFuncCalls
import Derived.RangeFuncNested
import Derived.TacticsIn
namespace Go.Proofs.YtglncfkoohgdaaaGreatDoor
open Go
def oU:Op→Bool
 | .move _ | .assign _ | .load .. | .store .. | .binOp .. | .unOp .. | .fieldAddr .. | .field .. | .indexAddr .. | .index .. | .convert .. | .build .. | .slice ..=>true
 | _=>false
def qF:Result Next→Prop
 | .ok (.value _) _=>True
 | .ok .skip _=>True
 | .halt _ _=>True
 | _=>False
theorem PT {P:Program} {w:World} (s:Sem Value):qF ((do pure (Next.value (←s)):Sem Next).run P w):=by
 rw [Sem.run_bind]
 cases s.run P w <;> trivial
theorem Si {P:Program} {w:World} (s:Sem Unit):qF ((do s;pure Next.skip:Sem Next).run P w):=by
 rw [Sem.run_bind]
 cases s.run P w <;> trivial
theorem PU {P:Program} {w:World} {ρ:Operand→Value} {o:Oper} (h:oU o.op=true):qF ((execOp ρ o).run P w):=by
 unfold execOp
 dsimp only
 cases ho:o.op <;> rw [ho] at h <;> first | (cases h;done) | exact PT _ | exact Si _ | trivial
theorem zx {P:Program} {w:World} {ρ:Operand→Value} {o:Oper} (h:oU o.op=true):o.about P w ρ=none:=by
 unfold Oper.about
 cases ho:o.op <;> rw [ho] at h <;> first | rfl | cases h
theorem Jf {ro:Option Nat} {ρ:Operand→Value} {o:Oper} (h:oU o.op=true):o.semAt ro ρ=execOp ρ o:=
 Oper.semAt_eq _ _ _ fun c hc=>by rw [hc] at h;cases h
def ag (Q:Exit→Act→World→Prop):Exit→Act→World→Prop
 | .normal,a,w=>Q .normal a w
 | _,_,_=>False
theorem ag.mk {Q:Exit→Act→World→Prop} {a:Act} {w:World} (h:Q .normal a w):ag Q .normal a w:=h
theorem ag.imp {Q:Exit→Act→World→Prop}:∀ (e:Exit) (a:Act) (w:World),ag Q e a w→Q e a w:=fun e a w h=>by
 cases e <;> first | exact h | exact h.elim
theorem Ak {F:Fence} {n:Nat} {P:Program} {c:Code} {Q:Exit→Act→World→Prop} {a:Act} {w:World} (h:c.wpIn F n P (ag Q) a w):c.wpIn F n P Q a w:=Go.wpIn_mono h ag.imp
theorem nE {P:Program} {c:Code} {Q:Exit→Act→World→Prop} {a:Act} {w:World} (h:c.wp P (ag Q) a w):c.wp P Q a w:=Go.wp_mono h ag.imp
theorem LM {F:Fence} {n:Nat} {P:Program} {o:Oper} {a:Act} {w:World} {K K':Act→World→Prop} {Q:Exit→Act→World→Prop} (hp:oU o.op=true) (hK:∀ a w,K a w→K' a w)
  (h:o.wp P a w K (ag Q)):o.wpIn F n P a w K' Q:=by
 refine ⟨fun f hf=>(by rw [zx hp] at hf;cases hf),?_⟩
 rw [Jf hp]
 have hv:=PU (P:=P) (w:=w) (ρ:=a.eval) hp
 unfold Oper.wp at h
 generalize (execOp a.eval o).run P w=r at hv h
 cases r with
 | ok x w' =>
  cases x <;> first | exact hK _ _ h | exact hv.elim
 | halt x w' =>
  cases x <;> exact h.elim
theorem yf {F:Fence} {n:Nat} {P:Program} {ops:Array Oper} {Q:Exit→Act→World→Prop} (hp:(ops.toList.all fun o=>oU o.op)=true) :
  ∀ (l:List Nat) (a:Act) (w:World),wpOps P ops (ag Q) l a w→wpOpsIn F n P ops Q l a w:=by
 intro l
 induction l with
 | nil=>intro a w h;exact h
 | cons i rest ih =>
  intro a w h
  unfold wpOps at h
  unfold wpOpsIn
  cases hi:ops[i]? with
  | none=>simp only [hi] at h;exact ih _ _ h
  | some o =>
   simp only [hi] at h ⊢
   have ho:oU o.op=true:=by
    have:=List.all_eq_true.1 hp o (by
     obtain ⟨h1,h2⟩:=Array.getElem?_eq_some_iff.1 hi
     rw [←h2];exact Array.getElem_mem_toList h1)
    exact this
   split at h
   ·rename_i hw
    rw [if_pos hw]
    rcases h with h | ⟨_,⟨_,_,h⟩⟩
    ·exact LM ho (fun a w=>ih a w) h
    ·exact h.elim
   ·rename_i hw
    rw [if_neg hw]
    exact ⟨fun f hf=>(by rw [zx ho] at hf;cases hf),ih _ _ h⟩
section
variable {P:Program} {ops:Array Oper} {Q:Exit→Act→World→Prop} {md:Region.Mode} {S:World→Prop}
def uP (P:Program) (md:Region.Mode) (ops:Array Oper) (Q:Exit→Act→World→Prop) (S:World→Prop) (n:Nat) (L:Array Bool→Act→World→Prop):Nat→Array Bool→Act→World→Prop
 | 0,listed,a,w=>L listed a w
 | f+1,listed,a,w=>Region.ready md ops listed≠[]∧∀ i∈Region.ready md ops listed,i<n∧wpOp P ops Q i (fun a' w'=>S w'∧uP P md ops Q S n L f (listed.setIfInBounds i true) a' w') a w
theorem jT {n g:Nat} {L:Array Bool→Act→World→Prop} (hL:∀ listed a w,L listed a w→wpAny P md ops Q g listed a w) :
  ∀ (f:Nat) (listed:Array Bool) (a:Act) (w:World),uP P md ops Q S n L f listed a w→wpAny P md ops Q (f+g) listed a w
 | 0,listed,a,w,h=>by rw [Nat.zero_add];exact hL _ _ _ h
 | f+1,listed,a,w,h=>by
  rw [show f+1+g=(f+g)+1 by omega]
  exact ⟨fun h0=>absurd h0 h.1,fun i hi=>wpOp_mono (fun a' w' h'=>jT hL f _ a' w' h'.2) (h.2 i hi).2⟩
theorem oV {n i:Nat} {oi:Oper} {v:Value} {L:Array Bool→Act→World→Prop} (hi:ops[i]?=some oi) (hsel:∀ (j:Nat) (o:Oper) cs b,ops[j]?=some o→o.op≠.select cs b)
  (hQ:∀ c a w,Q (.panic c) (a.put oi.dst v) w→Q (.panic c) a w)
  (hs:Region.sinkB md ops n=true) (hc:Region.chainB md ops n=true) (hn:n<ops.size) (hin:i<n)
  (hdone:∀ listed a w,L listed a w→∀ j∈Region.ready md ops listed,n≤j) :
  ∀ (f:Nat) (listed:Array Bool) (a:Act) (w:World),HeadInv md ops n listed →
   (∀ j oj,ops[j]?=some oj→j≠i→listed.getD j true=false→(∀ e∈oj.after,Region.binds md e=true→e.on≠i)→oi.apart ops oj=true) →
   i∈Region.ready md ops listed→YieldsIf P ops S oi v a→S w →
   uP P md ops Q S n L f (listed.setIfInBounds i true) (a.put oi.dst v) w→uP P md ops Q S n L (f+1) listed a w:=by
 intro f
 induction f with
 | zero =>
  intro listed a w inv _ hr hy hS H
  have hun:=(mem_ready.1 hr).1
  refine ⟨fun h=>(by rw [h] at hr;cases hr),fun j hj=>?_⟩
  have hjn:j<n:=by
   rcases Nat.lt_or_ge j n with h | h
   ·exact h
   ·exact absurd hj (tail_waits hs hc hn inv _ i rfl hin hun j h)
  refine ⟨hjn,?_⟩
  by_cases hji:j=i
  ·subst hji;exact hy.wpOp hi hS ⟨hS,H⟩
  ·have:=hdone _ _ _ H j (ready_mono hj hji)
   omega
 | succ f ih =>
  intro listed a w inv hfree hr hy hS H
  have hun:=(mem_ready.1 hr).1
  refine ⟨fun h=>(by rw [h] at hr;cases hr),fun j hj=>?_⟩
  have hjn:j<n:=by
   rcases Nat.lt_or_ge j n with h | h
   ·exact h
   ·exact absurd hj (tail_waits hs hc hn inv _ i rfl hin hun j h)
  refine ⟨hjn,?_⟩
  by_cases hji:j=i
  ·subst hji;exact hy.wpOp hi hS ⟨hS,H⟩
  ·have h1:=(H.2 j (ready_mono hj hji)).2
   obtain ⟨hjun,oj,hoj,hall⟩:=mem_ready.1 hj
   have hnot:∀ e∈oj.after,Region.binds md e=true→e.on≠i:=fun e he hb heq=>by
    have h1:=hall e he hb
    rw [heq,getD_both hun] at h1
    cases h1
   have h2:=wpOp_putIf hoj (hfree j oj hoj hji hjun hnot) (fun cs b=>hsel i oi cs b hi) (fun cs b=>hsel j oj cs b hoj) hQ hy h1
   have hfree':∀ k ok,ops[k]?=some ok→k≠i→(listed.setIfInBounds j true).getD k true=false →
     (∀ e∈ok.after,Region.binds md e=true→e.on≠i)→oi.apart ops ok=true:=fun k ok hk hki hun hno=>by
    refine hfree k ok hk hki ?_ hno
    by_cases hjk:j=k
    ·subst hjk;exact hjun
    ·rw [getD_set_ne true hjk] at hun;exact hun
   refine wpOp_mono (fun a' w' h3=>⟨h3.2.1,ih (listed.setIfInBounds j true) a' w' (inv.set hj hjn) hfree' (ready_mono hr (Ne.symm hji)) h3.1 h3.2.1 ?_⟩) h2
   rw [Array.setIfInBounds_comm _ _ hji]
   exact h3.2.2
def uQ (P:Program) (ops:Array Oper) (S:World→Prop) (Lq:Act→Prop):List Oper→Act→Prop
 | [],a=>Lq a
 | o :: rest,a=>∃ v,YieldsIf P ops S o v a∧uQ P ops S Lq rest (a.put o.dst v)
def gF (P:Program) (ops:Array Oper) (S:World→Prop) (Q:Exit→Act→World→Prop) (Lq:Act→World→Prop):List Oper→Act→World→Prop
 | [],a,w=>Lq a w
 | o :: rest,a,w=>Region.wanted o (yielded ops a.tmps)=true∧o.wp P a w (fun a' w'=>S w'∧gF P ops S Q Lq rest a' w') Q
theorem LP {Lq:Act→Prop} {a:Act} (h:Lq a):uQ P ops S Lq [] a:=h
theorem Jg {Lq:Act→Prop} {a:Act} {o:Oper} {rest:List Oper} (v:Value) (hw:Region.wanted o (yielded ops a.tmps)=true) (hv:∀ w,S w→(execOp a.eval o).run P w=.ok (.value v) w)
  (h:uQ P ops S Lq rest (a.put o.dst v)):uQ P ops S Lq (o :: rest) a:=⟨v,.inl ⟨hw,hv⟩,h⟩
theorem aQ {Lq:Act→World→Prop} {a:Act} {w:World} (h:Lq a w):gF P ops S Q Lq [] a w:=h
theorem aB {Lq:Act→World→Prop} {a:Act} {w:World} {o:Oper} {rest:List Oper} (hw:Region.wanted o (yielded ops a.tmps)=true)
  (h:∀ K:Act→World→Prop,(∀ a w,S w∧gF P ops S Q Lq rest a w→K a w)→o.wp P a w K Q):gF P ops S Q Lq (o :: rest) a w:=⟨hw,h _ fun _ _ h=>h⟩
theorem lJ:∀ (l:List Oper) (a:Act) (w:World),gF P ops (fun _=>True) Q (fun a w=>Q .normal a w) l a w→wpList P ops Q l a w
 | [],_,_,h=>h
 | o :: rest,a,w,h=>by
  have h1:o.wp P a w (wpList P ops Q rest) Q:=Oper.wp_mono (fun a' w' h'=>lJ rest a' w' h'.2) h.2
  unfold wpList
  rw [if_pos h.1]
  exact .inl h1
def Jh (md:Region.Mode) (ops:Array Oper) (g:Nat):Nat→Nat→Array Bool→Bool
 | 0,k,listed=>Region.seqB md ops g k listed
 | f+1,k,listed=>decide (Region.ready md ops listed=[k]) && Jh md ops g f (k+1) (listed.setIfInBounds k true)
def Gw (md:Region.Mode) (ops:Array Oper) (g f2:Nat):Nat→Nat→Array Bool→Bool
 | 0,k,listed=>Jh md ops g f2 k listed
 | f+1,k,listed=>(Region.ready md ops listed).contains k && Region.free md ops listed k && Gw md ops g f2 f (k+1) (listed.setIfInBounds k true)
theorem EE {n g:Nat} {Lq:Act→World→Prop}:∀ (l:List Oper) (k:Nat) (listed:Array Bool) (a:Act) (w:World),(∀ j,j<l.length→l[j]?=ops[k+j]?)→k+l.length=n →
  Jh md ops g l.length k listed=true→gF P ops S Q Lq l a w →
  uP P md ops Q S n (fun listed' a' w'=>Region.seqB md ops g n listed'=true∧Lq a' w') l.length listed a w
 | [],k,listed,a,w,_,hk,hB,h=>by
  have:k=n:=by simpa using hk
  subst this
  exact ⟨hB,h⟩
 | o :: l,k,listed,a,w,hl,hk,hB,h=>by
  have h0:ops[k]?=some o:=by simpa using (hl 0 (by simp)).symm
  simp only [List.length_cons,Jh,Bool.and_eq_true,decide_eq_true_eq] at hB
  simp only [List.length_cons] at hk
  refine ⟨by rw [hB.1];simp,fun i hi=>?_⟩
  rw [hB.1] at hi
  have hik:i=k:=by simpa using hi
  subst hik
  refine ⟨by omega,?_⟩
  unfold wpOp
  simp only [h0]
  rw [if_pos h.1]
  refine .inl ?_
  exact Oper.wp_mono (fun a' w' h'=>⟨h'.1,EE l (i+1) _ a' w' (fun j hj=>by have:=hl (j+1) (by simp;omega);simpa [Nat.add_assoc,Nat.add_comm 1 j] using this) (by omega) hB.2 h'.2⟩) h.2
theorem EF {n g f2:Nat} {L:Array Bool→Act→World→Prop} {Lq:Act→Prop} (hsel:Region.noSelect ops=true) (hs:Region.sinkB md ops n=true) (hc:Region.chainB md ops n=true) (hn:n<ops.size)
  (hQ:∀ c a w,¬ Q (.panic c) a w) (hdone:∀ listed a w,L listed a w→∀ j∈Region.ready md ops listed,n≤j) (w:World) (hS:S w) (n1:Nat) (hn1:n1≤n)
  (hfin:∀ listed a,Jh md ops g f2 n1 listed=true→Lq a→uP P md ops Q S n L f2 listed a w) :
  ∀ (l:List Oper) (k:Nat) (listed:Array Bool) (a:Act),(∀ j,j<l.length→l[j]?=ops[k+j]?)→k+l.length=n1→HeadInv md ops n listed →
  Gw md ops g f2 l.length k listed=true→uQ P ops S Lq l a→uP P md ops Q S n L (l.length+f2) listed a w
 | [],k,listed,a,_,hk,_,hB,h=>by
  have:k=n1:=by simpa using hk
  subst this
  rw [List.length_nil,Nat.zero_add]
  exact hfin _ _ hB h
 | o :: l,k,listed,a,hl,hk,inv,hB,h=>by
  have h0:ops[k]?=some o:=by simpa using (hl 0 (by simp)).symm
  simp only [List.length_cons,Gw,Bool.and_eq_true] at hB
  obtain ⟨⟨hr,hf⟩,hB'⟩:=hB
  simp only [List.length_cons] at hk
  have hkn:k<n:=by omega
  have hr':k∈Region.ready md ops listed:=by simpa using hr
  obtain ⟨v,hy,hK⟩:=h
  rw [List.length_cons,show l.length+1+f2=(l.length+f2)+1 by omega]
  exact oV h0 (Region.noSelect_spec hsel) (fun c a w h=>absurd h (hQ _ _ _)) hs hc hn hkn hdone (l.length+f2) listed a w inv (Region.free_spec h0 hf) hr' hy hS
   (EF hsel hs hc hn hQ hdone w hS n1 hn1 hfin l (k+1) _ _ (fun j hj=>by have:=hl (j+1) (by simp;omega);simpa [Nat.add_assoc,Nat.add_comm 1 j] using this) (by omega) (inv.set hr' hkn) hB' hK)
end
def Sj (md:Region.Mode) (ops:Array Oper) (n1 n2:Nat):Bool:=
 Region.noSelect ops && decide (n2<ops.size) && Region.sinkB md ops n2 && Region.chainB md ops n2 && Gw md ops (ops.size-n2) (n2-n1) n1 0 (Array.replicate ops.size false)
theorem Al {P:Program} {Q:Exit→Act→World→Prop} {a:Act} {w:World} {l:List Oper} (S:World→Prop) (n1 n2:Nat) (hn:n1≤n2) (hB:Sj .any l.toArray n1 n2=true) (hS:S w)
  (h:uQ P l.toArray S (fun a'=>gF P l.toArray S (ag Q) (fun a'' w''=>gF P l.toArray (fun _=>True) (ag Q) (fun a w=>ag Q .normal a w) (l.drop n2) a'' w'') ((l.take n2).drop n1) a' w) (l.take n1) a) :
  wpAny P .any l.toArray (ag Q) l.toArray.size (Array.replicate l.toArray.size false) a w:=by
 simp only [Sj,Bool.and_eq_true,decide_eq_true_eq] at hB
 obtain ⟨⟨⟨⟨hsel,hn'⟩,hs⟩,hc⟩,htk⟩:=hB
 have hl:n2<l.length:=by simpa using hn'
 have hsz:l.toArray.size=l.length:=by simp
 have ht1:(l.take n1).length=n1:=by simp;omega
 have ht2:((l.take n2).drop n1).length=n2-n1:=by simp;omega
 have hdl:(l.drop n2).length=l.toArray.size-n2:=by simp
 have inv0:HeadInv .any l.toArray n2 (Array.replicate l.toArray.size false):=
  ⟨by simp,fun j oj _ hl=>(by rw [getD_replicate_false] at hl;cases hl),fun t _ ht=>getD_in (by simpa using ht) (getD_replicate_false _ _)⟩
 have H:=EF (P:=P) (ops:=l.toArray) (md:=.any) (Q:=ag Q) (S:=S) (n:=n2) (g:=l.toArray.size-n2) (f2:=n2-n1)
  (L:=fun listed' a' w'=>Region.seqB .any l.toArray (l.toArray.size-n2) n2 listed'=true∧gF P l.toArray (fun _=>True) (ag Q) (fun a w=>ag Q .normal a w) (l.drop n2) a' w')
  (Lq:=fun a'=>gF P l.toArray S (ag Q) (fun a'' w''=>gF P l.toArray (fun _=>True) (ag Q) (fun a w=>ag Q .normal a w) (l.drop n2) a'' w'') ((l.take n2).drop n1) a' w)
  hsel hs hc hn' (fun c a w h=>h) (fun listed a w hL=>seqB_ready hL.1) w hS n1 hn
  (fun listed a hk hq=>by
   have:=EE (md:=.any) (Q:=ag Q) (n:=n2) (g:=l.toArray.size-n2) ((l.take n2).drop n1) n1 listed a w (fun j hj=>by
    rw [List.getElem?_drop,List.getElem?_take,if_pos (by omega)];simp) (by omega) (by rw [ht2];exact hk) hq
   rw [ht2] at this
   exact this)
  (l.take n1) 0 _ a (fun j hj=>by
   rw [List.getElem?_take,if_pos (by omega)];simp) (by omega) inv0 (by rw [ht1];exact htk) h
 have H2:=jT (g:=l.toArray.size-n2) (fun listed a' w' hL=>by
  have:=wpAny_of_seq (md:=.any) (Q':=ag Q) (l.drop n2) n2 listed a' w' (fun j=>by simp [List.getElem?_drop]) (by rw [hdl];exact hL.1) (lJ _ _ _ hL.2)
  rwa [hdl] at this) _ _ _ _ H
 rw [ht1,show n1+(n2-n1)+(l.toArray.size-n2)=l.toArray.size by omega] at H2
 exact H2
theorem Bc {F:Fence} {nn:Nat} {P:Program} {id:Nat} {Q:Exit→Act→World→Prop} {a:Act} {w:World} {l:List Oper} (S:World→Prop) (n1 n2:Nat) (hm:P.follows .mixedOrders=true) (hn:n1≤n2)
  (hB:Sj .any l.toArray n1 n2=true) (hp:(l.all fun o=>oU o.op)=true) (hS:S w.drew)
  (h:uQ P l.toArray S (fun a'=>gF P l.toArray S (ag Q) (fun a'' w''=>gF P l.toArray (fun _=>True) (ag Q) (fun a w=>ag Q .normal a w) (l.drop n2) a'' w'') ((l.take n2).drop n1) a' w.drew) (l.take n1) a):(Code.region id l.toArray true).wpIn F nn P Q a w:=by
 refine wpIn_region_draw fun t=>?_
 refine yf hp _ _ _ ?_
 simp only [Region.schedule,hm,Bool.true_or,if_true]
 exact wpAny_sound l.toArray.size t _ a _ (Al S n1 n2 hn hB hS h)
def mI:Op→Bool
 | .defer _=>false
 | _=>true
theorem Ji {n l:Nat} {P:Program} {row:String} {args:Array Value} {w:World} {R:Value→World→Prop} (h:Rows P row args w R):RowsIn (Fence.wide.inRound l) n P row args w R:=by
 intro c cs _
 obtain ⟨v,w',hr,hs⟩:=h c cs
 exact ⟨v,w',hr,stepsIn_wide.2 hs⟩
section
variable {P:Program} {ops:Array Oper} {Q:Exit→Act→World→Prop} {md:Region.Mode} {S:World→Prop}
def kM (P:Program) (ops:Array Oper) (S:World→Prop) (Lq:Act→Prop):List Nat→Act→Prop
 | [],a=>Lq a
 | i :: rest,a=>∃ o v,ops[i]?=some o∧YieldsIf P ops S o v a∧kM P ops S Lq rest (a.put o.dst v)
def bE (P:Program) (ops:Array Oper) (S:World→Prop) (Q:Exit→Act→World→Prop) (Lq:Act→World→Prop):List Nat→Act→World→Prop
 | [],a,w=>Lq a w
 | i :: rest,a,w=>∃ o,ops[i]?=some o∧Region.wanted o (yielded ops a.tmps)=true∧o.wp P a w (fun a' w'=>S w'∧bE P ops S Q Lq rest a' w') Q
def Bd (md:Region.Mode) (ops:Array Oper) (g n:Nat):List Nat→Array Bool→Bool
 | [],listed=>Region.seqB md ops g n listed
 | k :: rest,listed=>decide (k<n) && decide (Region.ready md ops listed=[k]) && Bd md ops g n rest (listed.setIfInBounds k true)
def AO (md:Region.Mode) (ops:Array Oper) (g n:Nat) (keeps:List Nat):List Nat→Array Bool→Bool
 | [],listed=>Bd md ops g n keeps listed
 | k :: rest,listed=>decide (k<n) && (Region.ready md ops listed).contains k && Region.free md ops listed k && AO md ops g n keeps rest (listed.setIfInBounds k true)
theorem aL {Lq:Act→Prop} {a:Act} {i:Nat} {rest:List Nat} {o:Oper} (hi:ops[i]?=some o) (v:Value) (hw:Region.wanted o (yielded ops a.tmps)=true) (hv:∀ w,S w→(execOp a.eval o).run P w=.ok (.value v) w)
  (h:kM P ops S Lq rest (a.put o.dst v)):kM P ops S Lq (i :: rest) a:=⟨o,v,hi,.inl ⟨hw,hv⟩,h⟩
theorem aD {Lq:Act→World→Prop} {a:Act} {w:World} {i:Nat} {rest:List Nat} {o:Oper} (hi:ops[i]?=some o) (hw:Region.wanted o (yielded ops a.tmps)=true)
  (h:∀ K:Act→World→Prop,(∀ a w,S w∧bE P ops S Q Lq rest a w→K a w)→o.wp P a w K Q):bE P ops S Q Lq (i :: rest) a w:=⟨o,hi,hw,h _ fun _ _ h=>h⟩
theorem Be {n g:Nat} {Lq:Act→World→Prop}:∀ (l:List Nat) (listed:Array Bool) (a:Act) (w:World),Bd md ops g n l listed=true→bE P ops S Q Lq l a w →
  uP P md ops Q S n (fun listed' a' w'=>Region.seqB md ops g n listed'=true∧Lq a' w') l.length listed a w
 | [],_,_,_,hB,h=>⟨hB,h⟩
 | k :: l,listed,a,w,hB,h=>by
  simp only [Bd,Bool.and_eq_true,decide_eq_true_eq] at hB
  obtain ⟨⟨hkn,hr⟩,hB'⟩:=hB
  obtain ⟨o,h0,hw,ho⟩:=h
  refine ⟨by rw [hr];simp,fun i hi=>?_⟩
  rw [hr] at hi
  have hik:i=k:=by simpa using hi
  subst hik
  refine ⟨hkn,?_⟩
  unfold wpOp
  simp only [h0]
  rw [if_pos hw]
  exact .inl (Oper.wp_mono (fun a' w' h'=>⟨h'.1,Be l _ a' w' hB' h'.2⟩) ho)
theorem Bf {n g:Nat} {keeps:List Nat} {L:Array Bool→Act→World→Prop} {Lq:Act→Prop} (hsel:Region.noSelect ops=true) (hs:Region.sinkB md ops n=true) (hc:Region.chainB md ops n=true) (hn:n<ops.size)
  (hQ:∀ c a w,¬ Q (.panic c) a w) (hdone:∀ listed a w,L listed a w→∀ j∈Region.ready md ops listed,n≤j) (w:World) (hS:S w)
  (hfin:∀ listed a,Bd md ops g n keeps listed=true→Lq a→uP P md ops Q S n L keeps.length listed a w) :
  ∀ (l:List Nat) (listed:Array Bool) (a:Act),HeadInv md ops n listed →
  AO md ops g n keeps l listed=true→kM P ops S Lq l a→uP P md ops Q S n L (l.length+keeps.length) listed a w
 | [],listed,a,_,hB,h=>by
  rw [List.length_nil,Nat.zero_add]
  exact hfin _ _ hB h
 | k :: l,listed,a,inv,hB,h=>by
  simp only [AO,Bool.and_eq_true,decide_eq_true_eq] at hB
  obtain ⟨⟨⟨hkn,hr⟩,hf⟩,hB'⟩:=hB
  have hr':k∈Region.ready md ops listed:=by simpa using hr
  obtain ⟨o,v,h0,hy,hK⟩:=h
  rw [List.length_cons,show l.length+1+keeps.length=(l.length+keeps.length)+1 by omega]
  exact oV h0 (Region.noSelect_spec hsel) (fun c a w h=>absurd h (hQ _ _ _)) hs hc hn hkn hdone (l.length+keeps.length) listed a w inv (Region.free_spec h0 hf) hr' hy hS
   (Bf hsel hs hc hn hQ hdone w hS hfin l _ _ (inv.set hr' hkn) hB' hK)
end
def LQ (md:Region.Mode) (ops:Array Oper) (takes keeps:List Nat) (n2:Nat):Bool:=
 Region.noSelect ops && decide (n2<ops.size) && decide (takes.length+keeps.length=n2) && Region.sinkB md ops n2 && Region.chainB md ops n2 && AO md ops (ops.size-n2) n2 keeps takes (Array.replicate ops.size false)
theorem Am {P:Program} {Q:Exit→Act→World→Prop} {a:Act} {w:World} {l:List Oper} (S:World→Prop) (takes keeps:List Nat) (n2:Nat) (hB:LQ .any l.toArray takes keeps n2=true) (hS:S w)
  (h:kM P l.toArray S (fun a'=>bE P l.toArray S (ag Q) (fun a'' w''=>gF P l.toArray (fun _=>True) (ag Q) (fun a w=>ag Q .normal a w) (l.drop n2) a'' w'') keeps a' w) takes a) :
  wpAny P .any l.toArray (ag Q) l.toArray.size (Array.replicate l.toArray.size false) a w:=by
 simp only [LQ,Bool.and_eq_true,decide_eq_true_eq] at hB
 obtain ⟨⟨⟨⟨⟨hsel,hn'⟩,hlen⟩,hs⟩,hc⟩,htk⟩:=hB
 have hl:n2<l.length:=by simpa using hn'
 have hdl:(l.drop n2).length=l.toArray.size-n2:=by simp
 have inv0:HeadInv .any l.toArray n2 (Array.replicate l.toArray.size false):=
  ⟨by simp,fun j oj _ hl=>(by rw [getD_replicate_false] at hl;cases hl),fun t _ ht=>getD_in (by simpa using ht) (getD_replicate_false _ _)⟩
 have H:=Bf (P:=P) (ops:=l.toArray) (md:=.any) (Q:=ag Q) (S:=S) (n:=n2) (g:=l.toArray.size-n2) (keeps:=keeps)
  (L:=fun listed' a' w'=>Region.seqB .any l.toArray (l.toArray.size-n2) n2 listed'=true∧gF P l.toArray (fun _=>True) (ag Q) (fun a w=>ag Q .normal a w) (l.drop n2) a' w')
  (Lq:=fun a'=>bE P l.toArray S (ag Q) (fun a'' w''=>gF P l.toArray (fun _=>True) (ag Q) (fun a w=>ag Q .normal a w) (l.drop n2) a'' w'') keeps a' w)
  hsel hs hc hn' (fun c a w h=>h) (fun listed a w hL=>seqB_ready hL.1) w hS
  (fun listed a hk hq=>Be (md:=.any) (Q:=ag Q) (n:=n2) (g:=l.toArray.size-n2) keeps listed a w hk hq)
  takes _ a inv0 htk h
 have H2:=jT (g:=l.toArray.size-n2) (fun listed a' w' hL=>by
  have:=wpAny_of_seq (md:=.any) (Q':=ag Q) (l.drop n2) n2 listed a' w' (fun j=>by simp [List.getElem?_drop]) (by rw [hdl];exact hL.1) (lJ _ _ _ hL.2)
  rwa [hdl] at this) _ _ _ _ H
 have hsz:takes.length+keeps.length+(l.toArray.size-n2)=l.toArray.size:=by
  have:l.toArray.size=l.length:=by simp
  omega
 rw [hsz] at H2
 exact H2
theorem aN {P:Program} {id:Nat} {Q:Exit→Act→World→Prop} {a:Act} {w:World} {l:List Oper} (S:World→Prop) (takes keeps:List Nat) (n2:Nat) (hm:P.follows .mixedOrders=true) (hB:LQ .any l.toArray takes keeps n2=true) (hS:S w.drew)
  (h:kM P l.toArray S (fun a'=>bE P l.toArray S (ag Q) (fun a'' w''=>gF P l.toArray (fun _=>True) (ag Q) (fun a w=>ag Q .normal a w) (l.drop n2) a'' w'') keeps a' w.drew) takes a):(Code.region id l.toArray true).wp P Q a w:=
 nE (wp_region_any hm (Am S takes keeps n2 hB hS h))
end Go.Proofs.YtglncfkoohgdaaaGreatDoor
namespace Go.Proofs.YtglncfkoohgdaaaGreatDoor
open Go.RowKit
section
variable {P:Program} {md:Region.Mode} {ops:Array Oper} {Q:Exit→Act→World→Prop} {S:World→Prop}
theorem kN {Lq:Act→Prop} {a:Act} {i:Nat} {rest:List Nat} {o:Oper} (hi:ops[i]?=some o) (hw:Region.wanted o (yielded ops a.tmps)=false)
  (h:kM P ops S Lq rest (a.put o.dst undef)):kM P ops S Lq (i :: rest) a:=⟨o,undef,hi,.inr ⟨hw,rfl⟩,h⟩
end
inductive fT where
 | fin:fT
 | take (k:Nat) (p:fT):fT
 | one (k:Nat) (p:fT):fT
 | two (k:Nat) (p:fT) (j:Nat) (q:fT):fT
def fT.len:fT→Nat
 | .fin=>0
 | .take _ p=>p.len+1
 | .one _ p=>p.len+1
 | .two _ p _ _=>p.len+1
section
variable {P:Program} {md:Region.Mode} {ops:Array Oper} {Q:Exit→Act→World→Prop} {S:World→Prop}
def gP (P:Program) (ops:Array Oper) (S:World→Prop) (Q:Exit→Act→World→Prop) (Lq:Act→World→Prop):fT→Act→World→Prop
 | .fin,a,w=>Lq a w
 | .take i rest,a,w=>∃ o v,ops[i]?=some o∧YieldsIf P ops S o v a∧gP P ops S Q Lq rest (a.put o.dst v) w
 | .one i rest,a,w=>∃ o,ops[i]?=some o∧Region.wanted o (yielded ops a.tmps)=true∧o.wp P a w (fun a' w'=>S w'∧gP P ops S Q Lq rest a' w') Q
 | .two i r1 j r2,a,w=>(∃ o,ops[i]?=some o∧Region.wanted o (yielded ops a.tmps)=true∧o.wp P a w (fun a' w'=>S w'∧gP P ops S Q Lq r1 a' w') Q)∧(∃ o,ops[j]?=some o∧Region.wanted o (yielded ops a.tmps)=true∧o.wp P a w (fun a' w'=>S w'∧gP P ops S Q Lq r2 a' w') Q)
theorem bJ {Lq:Act→World→Prop} {a:Act} {w:World} {i:Nat} {rest:fT} {o:Oper} (hi:ops[i]?=some o) (v:Value) (hw:Region.wanted o (yielded ops a.tmps)=true) (hv:∀ w,S w→(execOp a.eval o).run P w=.ok (.value v) w)
  (h:gP P ops S Q Lq rest (a.put o.dst v) w):gP P ops S Q Lq (.take i rest) a w:=⟨o,v,hi,.inl ⟨hw,hv⟩,h⟩
theorem EG {Lq:Act→World→Prop} {a:Act} {w:World} {i:Nat} {rest:fT} {o:Oper} (hi:ops[i]?=some o) (hw:Region.wanted o (yielded ops a.tmps)=false)
  (h:gP P ops S Q Lq rest (a.put o.dst undef) w):gP P ops S Q Lq (.take i rest) a w:=⟨o,undef,hi,.inr ⟨hw,rfl⟩,h⟩
theorem aK {Lq:Act→World→Prop} {a:Act} {w:World} {i:Nat} {rest:fT} {o:Oper} (hi:ops[i]?=some o) (hw:Region.wanted o (yielded ops a.tmps)=true)
  (h:∀ K:Act→World→Prop,(∀ a w,S w∧gP P ops S Q Lq rest a w→K a w)→o.wp P a w K Q):gP P ops S Q Lq (.one i rest) a w:=⟨o,hi,hw,h _ fun _ _ h=>h⟩
theorem Jj {Lq:Act→World→Prop} {a:Act} {w:World} {i j:Nat} {r1 r2:fT} (h1:gP P ops S Q Lq (.one i r1) a w) (h2:gP P ops S Q Lq (.one j r2) a w):gP P ops S Q Lq (.two i r1 j r2) a w:=⟨h1,h2⟩
def vP (md:Region.Mode) (ops:Array Oper) (n:Nat) (B:Array Bool→Bool):fT→Array Bool→Bool
 | .fin,listed=>B listed
 | .take k rest,listed=>decide (k<n) && (Region.ready md ops listed).contains k && Region.free md ops listed k && vP md ops n B rest (listed.setIfInBounds k true)
 | .one k rest,listed=>decide (k<n) && decide (Region.ready md ops listed=[k]) && vP md ops n B rest (listed.setIfInBounds k true)
 | .two k p j q,listed=>decide (k<n) && decide (j<n) && (decide (Region.ready md ops listed=[k,j]) || decide (Region.ready md ops listed=[j,k])) && decide (q.len=p.len) && vP md ops n B p (listed.setIfInBounds k true) && vP md ops n B q (listed.setIfInBounds j true)
theorem sF {n m:Nat} {B:Array Bool→Bool} {L:Array Bool→Act→World→Prop} {Lq:Act→World→Prop} (hsel:Region.noSelect ops=true) (hs:Region.sinkB md ops n=true) (hc:Region.chainB md ops n=true) (hn:n<ops.size)
  (hQ:∀ c a w,¬ Q (.panic c) a w) (hdone:∀ listed a w,L listed a w→∀ j∈Region.ready md ops listed,n≤j)
  (hfin:∀ listed a w,B listed=true→Lq a w→uP P md ops Q S n L m listed a w) :
  ∀ (l:fT) (listed:Array Bool) (a:Act) (w:World),HeadInv md ops n listed→S w →
  vP md ops n B l listed=true→gP P ops S Q Lq l a w→uP P md ops Q S n L (l.len+m) listed a w
 | .fin,listed,a,w,inv,hS,hB,h=>by
  rw [fT.len,Nat.zero_add]
  exact hfin _ _ _ hB h
 | .take k l,listed,a,w,inv,hS,hB,h=>by
  simp only [vP,Bool.and_eq_true,decide_eq_true_eq] at hB
  obtain ⟨⟨⟨hkn,hr⟩,hf⟩,hB'⟩:=hB
  have hr':k∈Region.ready md ops listed:=by simpa using hr
  obtain ⟨o,v,h0,hy,hK⟩:=h
  rw [fT.len,show l.len+1+m=(l.len+m)+1 by omega]
  exact oV h0 (Region.noSelect_spec hsel) (fun c a w h=>absurd h (hQ _ _ _)) hs hc hn hkn hdone (l.len+m) listed a w inv (Region.free_spec h0 hf) hr' hy hS
   (sF hsel hs hc hn hQ hdone hfin l _ _ w (inv.set hr' hkn) hS hB' hK)
 | .one k l,listed,a,w,inv,hS,hB,h=>by
  simp only [vP,Bool.and_eq_true,decide_eq_true_eq] at hB
  obtain ⟨⟨hkn,hr⟩,hB'⟩:=hB
  obtain ⟨o,h0,hw,ho⟩:=h
  have hr':k∈Region.ready md ops listed:=by rw [hr];simp
  rw [fT.len,show l.len+1+m=(l.len+m)+1 by omega]
  refine ⟨by rw [hr];simp,fun i hi=>?_⟩
  rw [hr] at hi
  have hik:i=k:=by simpa using hi
  subst hik
  refine ⟨hkn,?_⟩
  unfold wpOp
  simp only [h0]
  rw [if_pos hw]
  exact .inl (Oper.wp_mono (fun a' w' h'=>⟨h'.1,sF hsel hs hc hn hQ hdone hfin l _ a' w' (inv.set hr' hkn) h'.1 hB' h'.2⟩) ho)
 | .two k p j q,listed,a,w,inv,hS,hB,h=>by
  simp only [vP,Bool.and_eq_true,Bool.or_eq_true,decide_eq_true_eq] at hB
  obtain ⟨⟨⟨⟨⟨hkn,hjn⟩,hr⟩,hlen⟩,hB1⟩,hB2⟩:=hB
  obtain ⟨⟨o1,g1,hw1,ho1⟩,⟨o2,g2,hw2,ho2⟩⟩:=h
  have hmem:∀ i,i∈Region.ready md ops listed↔i=k∨i=j:=fun i=>by
   rcases hr with hr | hr <;> rw [hr] <;> simp [or_comm]
  have hk':=(hmem k).2 (.inl rfl)
  have hj':=(hmem j).2 (.inr rfl)
  rw [fT.len,show p.len+1+m=(p.len+m)+1 by omega]
  refine ⟨List.ne_nil_of_mem hk',fun i hi=>?_⟩
  rcases (hmem i).1 hi with rfl | rfl
  ·refine ⟨hkn,?_⟩
   unfold wpOp
   simp only [g1]
   rw [if_pos hw1]
   exact .inl (Oper.wp_mono (fun a' w' h'=>⟨h'.1,sF hsel hs hc hn hQ hdone hfin p _ a' w' (inv.set hk' hkn) h'.1 hB1 h'.2⟩) ho1)
  ·refine ⟨hjn,?_⟩
   unfold wpOp
   simp only [g2]
   rw [if_pos hw2,←hlen]
   exact .inl (Oper.wp_mono (fun a' w' h'=>⟨h'.1,sF hsel hs hc hn hQ hdone hfin q _ a' w' (inv.set hj' hjn) h'.1 hB2 h'.2⟩) ho2)
end
def Bg (md:Region.Mode) (ops:Array Oper) (ph:fT) (n2:Nat):Bool:=
 Region.noSelect ops && decide (n2<ops.size) && decide (ph.len=n2) && Region.sinkB md ops n2 && Region.chainB md ops n2 && vP md ops n2 (Region.seqB md ops (ops.size-n2) n2) ph (Array.replicate ops.size false)
theorem DZ {P:Program} {Q:Exit→Act→World→Prop} {a:Act} {w:World} {l:List Oper} (S:World→Prop) (ph:fT) (n2:Nat) (hB:Bg .any l.toArray ph n2=true) (hS:S w)
  (h:gP P l.toArray S (ag Q) (fun a'' w''=>wpList P l.toArray (ag Q) (l.drop n2) a'' w'') ph a w) :
  wpAny P .any l.toArray (ag Q) l.toArray.size (Array.replicate l.toArray.size false) a w:=by
 simp only [Bg,Bool.and_eq_true,decide_eq_true_eq] at hB
 obtain ⟨⟨⟨⟨⟨hsel,hn'⟩,hlen⟩,hs⟩,hc⟩,htk⟩:=hB
 have hl:n2<l.length:=by simpa using hn'
 have hdl:(l.drop n2).length=l.toArray.size-n2:=by simp
 have inv0:HeadInv .any l.toArray n2 (Array.replicate l.toArray.size false):=
  ⟨by simp,fun j oj _ hl=>(by rw [getD_replicate_false] at hl;cases hl),fun t _ ht=>getD_in (by simpa using ht) (getD_replicate_false _ _)⟩
 have H:=sF (P:=P) (ops:=l.toArray) (md:=.any) (Q:=ag Q) (S:=S) (n:=n2) (m:=0) (B:=Region.seqB .any l.toArray (l.toArray.size-n2) n2)
  (L:=fun listed' a' w'=>Region.seqB .any l.toArray (l.toArray.size-n2) n2 listed'=true∧wpList P l.toArray (ag Q) (l.drop n2) a' w')
  (Lq:=fun a'' w''=>wpList P l.toArray (ag Q) (l.drop n2) a'' w'')
  hsel hs hc hn' (fun c a w h=>h) (fun listed a w hL=>seqB_ready hL.1) (fun listed a w hB hq=>⟨hB,hq⟩) ph _ a w inv0 hS htk h
 have H2:=jT (g:=l.toArray.size-n2) (fun listed a' w' hL=>by
  have:=wpAny_of_seq (md:=.any) (Q':=ag Q) (l.drop n2) n2 listed a' w' (fun j=>by simp [List.getElem?_drop]) (by rw [hdl];exact hL.1) hL.2
  rwa [hdl] at this) _ _ _ _ H
 have hsz:ph.len+0+(l.toArray.size-n2)=l.toArray.size:=by
  have:l.toArray.size=l.length:=by simp
  omega
 rw [hsz] at H2
 exact H2
theorem gG {P:Program} {id:Nat} {Q:Exit→Act→World→Prop} {a:Act} {w:World} {l:List Oper} (S:World→Prop) (ph:fT) (n2:Nat) (hm:P.follows .mixedOrders=true) (hB:Bg .any l.toArray ph n2=true) (hS:S w.drew)
  (h:gP P l.toArray S (ag Q) (fun a'' w''=>wpList P l.toArray (ag Q) (l.drop n2) a'' w'') ph a w.drew):(Code.region id l.toArray true).wp P Q a w:=
 nE (wp_region_any hm (DZ S ph n2 hB hS h))
section
variable {F:Fence} {n:Nat} {P:Program} {α:Type}
def kP (T:TypeId) (B:Nat) (J:Nat→World→Prop):Prop:=∀ k W W' row,J k W→W.grownBy W' row →
 (∀ r,row=some r→B≤r∧∃ o:Obj,W.heap[r]?=some o∧(o.isWalk=true∨∃ c fz,o=.cells c T fz))→J k W'
def kQ (T:TypeId) (B:Nat) {β:Type} (I:β→World→Prop):Prop:=∀ s W W' row,I s W→W.grownBy W' row →
 (∀ r,row=some r→B≤r∧∃ o:Obj,W.heap[r]?=some o∧(o.isCells=false∨∃ c fz,o=.cells c T fz))→I s W'
theorem kQ.from {T:TypeId} {B:Nat} {β:Type} {I:β→World→Prop} (h:kQ T B I):OwnFrom B I:=fun s W W' row hs hg hr =>
 h s W W' row hs hg fun r e=>by
  obtain ⟨h1,o,h2,h3⟩:=hr r e
  exact ⟨h1,o,h2,.inl h3⟩
def Sk (T:TypeId) (F:Fence) (n:Nat) (P:Program) (g:Nat) (lb:Array Value) (encs:α→Array Value) (Kp:World→World→Prop) (E:List α) (w:World):Prop:=
 ∀ (l:Nat) (J Jx:Nat→World→Prop) (W:World),Below w.heap.size w W→kP T W.heap.size J→kP T W.heap.size Jx →
  (∀ k (hk:k<E.length) W1,J k W1→YieldAt F (n-1) P l (encs E[k]) W1 fun e W'=>(e=.returned (.bool true)∧J (k+1) W'∧Kp W1 W')∨(e=.returned (.bool false)∧Jx k W')) →
  J 0 W→CallsIn F n P g (#[.func (.yield l) #[] #[]]++lb) W fun e W'=>(∃ v,e=.returned v)∧(J E.length W'∨∃ k,k<E.length∧Jx k W')
def NT (B:Nat) (Kp:World→World→Prop) (I:Nat→World→Prop) (Ix:Code→Nat→World→Prop) (k:Nat) (W:World):Exit→Act→World→Prop
 | .normal,_,W'=>KeepsFrom B W W'∧Kp W W'∧I (k+1) W'
 | .ret,_,W'=>KeepsFrom B W W'∧Ix .ret k W'
 | .exit id,_,W'=>KeepsFrom B W W'∧Ix (.exit id) k W'
 | .goto t,_,W'=>KeepsFrom B W W'∧Ix (.goto t) k W'
 | _,_,_=>False
structure Book (B:Nat) (r:Loop) (W:World):Prop where
 loop:W.heap[B+1]?=some (.loop r)
 mark:W.heap[B]?=some (.deferred (some []))
theorem Book.kept {T:TypeId} {B:Nat} {r:Loop} {W W':World} {row:Option Nat} (h:Book B r W) (hg:W.grownBy W' row) (hr:∀ j,row=some j→∃ o:Obj,W.heap[j]?=some o∧(o.isWalk=true∨∃ c fz,o=.cells c T fz)):Book B r W':=by
 have key:∀ (k:Nat) (o:Obj),W.heap[k]?=some o→o.isWalk=false→o.isCells=false→W'.heap[k]?=some o:=fun k o ho h1 h2=>by
  refine (hg.block k (Array.getElem?_eq_some_iff.1 ho).1 fun e=>?_).trans ho
  obtain ⟨o',ho',h3⟩:=hr k e.symm
  rw [ho] at ho'
  cases ho'
  rcases h3 with h3 | ⟨c,fz,rfl⟩
  ·rw [h1] at h3;cases h3
  ·cases h2
 exact ⟨key _ _ h.loop rfl rfl,key _ _ h.mark rfl rfl⟩
theorem Book.gQ {B:Nat} {r:Loop} {W W':World} (h:Book B r W) (hk:KeepsFrom B W W'):Book B r W':=
 ⟨hk.same _ _ (Nat.le_succ _) h.loop rfl,hk.same _ _ (Nat.le_refl _) h.mark rfl⟩
theorem Book.put {B:Nat} {r:Loop} {W:World} (h:Book B r W) (r':Loop):Book B r' (W.putObj (B+1) (.loop r')):=
 ⟨World.putObj_heap_same (Array.getElem?_eq_some_iff.1 h.loop).1,(World.putObj_heap_other (by omega)).trans h.mark⟩
theorem vQ {g:Operand} {ps:Array Tmp} {assign body:Code} {Q:Exit→Act→World→Prop} {a:Act} {w:World}
  (hro:F.round=none) (h1:1≤n) {gf:Nat} {lb:Array Value} (hg:a.eval g=.func (.func gf) #[] lb) (hFg:F.fn gf) (eg:∀ args w,(callFunc gf args).run P w=.ok (.enter gf args) w)
  {encs:α→Array Value} {Kp:World→World→Prop} {E:List α} {w0:World} {T:TypeId} (hseq:Sk T F (n-1) P gf lb encs Kp E w0)
  (hKt:∀ {A B C:World},Kp A B→Kp B C→Kp A C) (hKb:∀ (W:World) (l:Nat) (o o':Obj),w.heap.size≤l→W.heap[l]?=some o→o.isCells=false→o.isWalk=false→Kp W (W.putObj l o')) (hb0:Below w0.heap.size w0 w) (hps:∀ x,(encs x).size=ps.size)
  (I:Nat→World→Prop) (Ix:Code→Nat→World→Prop) (hI:kQ T w.heap.size I) (hIx:∀ c,kQ T w.heap.size (Ix c)) (h0:I 0 w) (Ax:Nat→Act→World→Prop) (hAx:∀ k a',OwnFrom w.heap.size (fun (_:Unit) W=>Ax k a' W))
  (hassign:∀ (l k:Nat) (hk:k<E.length) (W:World) (K:Act→World→Prop),I k W→(∀ a' W',KeepsFrom w.heap.size W W'→Kp W W'→I k W'→Ax k a' W'→K a' W') →
   assign.wpIn (F.inRound l) (n-1-1) P (Exit.then K (fun _ _ _=>False)) { tmps:=(ps.zip (encs E[k])).foldl (fun t (p,v)=>t.setIfInBounds p v) a.tmps,defers:=[] } W)
  (hbody:∀ (l k:Nat) (_:k<E.length) (a':Act) (W:World),w.heap.size≤l→(∃ r,W.heap[l]?=some (.loop r))→I k W→Ax k a' W→body.wpIn (F.inRound l) (n-1-1) P (NT w.heap.size Kp I Ix k W) a' W)
  (hdone:∀ (D:Nat) (W:World),w.heap.size≤D→I E.length W→W.heap[D]?=some (.deferred (some []))→Q .normal { a with defers:={ target:=.collected D,args:=#[] } :: a.defers } W)
  (hstop:∀ (D:Nat) (c:Code) (k:Nat) (W:World),w.heap.size≤D→k<E.length→Ix c k W→W.heap[D]?=some (.deferred (some []))→c.wpIn F n P Q { a with defers:={ target:=.collected D,args:=#[] } :: a.defers } W) :
  (Code.rangeFunc g ps assign body).wpIn F n P Q a w:=by
 obtain ⟨B,hB⟩ : ∃ B,B=w.heap.size:=⟨_,rfl⟩
 rw [←hB] at hKb hI hIx hAx hassign hbody hdone hstop
 refine wpIn_rangeFunc fun fn hfn=>?_
 let rc:LoopState→Option Code→Loop:=fun s p=>{ state:=s,pending:=p,fn,tmps:=a.tmps,params:=ps,assign,body,defers:=B }
 obtain ⟨W1,hW1⟩ : ∃ W1,W1=(w.alloc (.deferred (some []))).alloc (.loop (rc .ready none)):=⟨_,rfl⟩
 have hs1:W1.heap.size=B+2:=by rw [hW1,hB];simp
 have hbk:Book B (rc .ready none) W1:=by
  have e1:=World.alloc_heap_new w (.deferred (some []))
  have e2:=World.alloc_heap_new (w.alloc (.deferred (some []))) (.loop (rc .ready none))
  rw [World.size_alloc] at e2
  rw [hW1,hB]
  exact ⟨e2,(((Below.refl _ _).alloc (Nat.le_refl _) _).block _ (by simp)).trans e1⟩
 have hI1:I 0 W1:=by rw [hW1];exact hI.from.alloc _ (hI.from.alloc _ h0)
 have hb1:Below w0.heap.size w0 W1:=by rw [hW1];exact hb0.trans ((((Below.refl _ w).alloc (Nat.le_refl _) _).alloc (by simp) _).mono hb0.size)
 have hen:=run_enterLoop_outer (P:=P) (w:=w) fn a.tmps ps assign body
 rw [←hB] at hen
 refine ⟨B+1,[{ target:=.collected B,args:=#[] }],W1,{ target:=.fn (.func gf) lb,args:=#[.func (.yield (B+1)) #[] #[]] },W1,gf,#[.func (.yield (B+1)) #[] #[]]++lb,W1,by rw [hro,hW1];exact hen,?_,?_,?_,fun _=>h1,?_⟩
 ·simp only [resolve,hg]
  simp [go_sem]
 ·intro f' hf'
  simp [Target.leads] at hf'
  rw [←hf']
  exact hFg
 ·simp [invoke,go_sem,eg]
 have walk:∀ {A:World} {row:Option Nat},(∀ r,row=some r→W1.heap.size≤r∧∃ o:Obj,A.heap[r]?=some o∧(o.isWalk=true∨∃ c fz,o=.cells c T fz))→∀ r,row=some r→B≤r∧∃ o:Obj,A.heap[r]?=some o∧(o.isCells=false∨∃ c fz,o=.cells c T fz):=fun hr r e=>by
  obtain ⟨hx,o,ho,hw⟩:=hr r e
  rcases hw with hw | hw
  ·exact ⟨by omega,o,ho,.inl (Obj.not_cells_of_walk hw)⟩
  ·exact ⟨by omega,o,ho,.inr hw⟩
 have turn:∀ {W:World} {r:Loop} (r':Loop),Book B r W→Kp W (W.putObj (B+1) (.loop r'))∧(∀ {β:Type} {G:β→World→Prop} {s:β},OwnFrom B G→G s W→G s (W.putObj (B+1) (.loop r'))):=fun r' h =>
  ⟨hKb _ _ _ _ (by omega) h.loop rfl rfl,fun hG hs=>hG.putObj _ hs (by omega) h.loop rfl⟩
 refine (hseq (B+1) (fun k W=>I k W∧Book B (rc .ready none) W) (fun k W=>∃ c,Ix c k W∧Book B (rc .done (some c)) W) W1 hb1
  (fun k X Y row hs hgr hr=>⟨hI k X Y row hs.1 hgr (walk hr),hs.2.kept hgr fun j e=>(hr j e).2⟩)
  (fun k X Y row ⟨c,hc,hk⟩ hgr hr=>⟨c,hIx c k X Y row hc hgr (walk hr),hk.kept hgr fun j e=>(hr j e).2⟩) ?_ ⟨hI1,hbk⟩).mono ?_
 ·
  rintro k hk W ⟨hi,gU⟩
  have hy:=run_yield (P:=P) (args:=encs E[k]) gU.loop (hps _)
  refine ⟨fn,_,assign,body,hy,roundIn_of_wpIn hfn (hassign (B+1) k hk W _ hi fun a' W2 k2 p2 i2 x2=>?_)⟩
  have yg:=gU.gQ k2
  refine ⟨_,run_beginRound yg.loop rfl,?_⟩
  obtain ⟨kp2,tr2⟩:=turn { rc .ready none with state:=.busy } yg
  have D5:=yg.put { rc .ready none with state:=.busy }
  refine wpIn_mono (hbody (B+1) k hk a' _ (by omega) ⟨_,D5.loop⟩ (tr2 hI.from i2) (tr2 (s:=()) (hAx k a') x2)) ?_
  have leave:∀ (j:Option Code) (W3:World),KeepsFrom B (W2.putObj (B+1) (.loop { rc .ready none with state:=.busy })) W3 →
    (Instr.endRound (B+1) j).run P W3=.ok (.bool j.isNone) (W3.putObj (B+1) (.loop (rc (if j.isNone then .ready else .done) j)))∧Book B { rc .ready none with state:=.busy } W3:=fun j W3 k3 =>
   ⟨run_endRound j (D5.gQ k3).loop,D5.gQ k3⟩
  intro e a3 W3 hp
  cases e with
  | normal =>
   obtain ⟨k3,p3,i3⟩:=hp
   obtain ⟨hr,iE⟩:=leave none W3 k3
   obtain ⟨kp4,tr4⟩:=turn (rc .ready none) iE
   exact ⟨_,_,hr,.inl ⟨rfl,⟨tr4 hI.from i3,iE.put _⟩,hKt p2 (hKt kp2 (hKt p3 kp4))⟩⟩
  | ret =>
   obtain ⟨k3,i3⟩:=hp
   obtain ⟨hr,iE⟩:=leave (some .ret) W3 k3
   exact ⟨_,_,hr,.inr ⟨rfl,.ret,(turn _ iE).2 (hIx _).from i3,iE.put _⟩⟩
  | exit id =>
   obtain ⟨k3,i3⟩:=hp
   obtain ⟨hr,iE⟩:=leave (some (.exit id)) W3 k3
   exact ⟨_,_,hr,.inr ⟨rfl,.exit id,(turn _ iE).2 (hIx _).from i3,iE.put _⟩⟩
  | goto t =>
   obtain ⟨k3,i3⟩:=hp
   obtain ⟨hr,iE⟩:=leave (some (.goto t)) W3 k3
   exact ⟨_,_,hr,.inr ⟨rfl,.goto t,(turn _ iE).2 (hIx _).from i3,iE.put _⟩⟩
  | panic ch=>exact hp.elim
  | outgrown=>exact hp.elim
 ·
  rintro e W2 ⟨⟨v,rfl⟩,(⟨hi,gU⟩ | ⟨k,hk,c,hi,gU⟩)⟩
  ·refine ⟨none,_,run_endLoop gU.loop (by simp [rc]),?_⟩
   exact hdone B _ (Nat.le_refl _) ((turn _ gU).2 hI.from hi) (gU.put _).mark
  ·refine ⟨some c,_,run_endLoop gU.loop (by simp [rc]),?_⟩
   exact hstop B c k _ (Nat.le_refl _) hk ((turn _ gU).2 (hIx c).from hi) (gU.put _).mark
end
end Go.Proofs.YtglncfkoohgdaaaGreatDoor
namespace Go.Proofs.YtglncfkoohgdaaaGreatDoor
open Go
def EH (F:Fence) (n:Nat) (P:Program):Prop:=(∀ f,F.fn f)∧∀ (o:Oper) (a:Act) (w:World) (K K':Act→World→Prop) (Q Q':Exit→Act→World→Prop),mI o.op=true→(∀ a w,K a w→K' a w)→o.wp P a w K (ag Q)→o.wpIn F n P a w K' Q'
theorem jU {l n:Nat} {P:Program}:EH (Fence.wide.inRound l) n P:=by
 refine ⟨fun _=>trivial,fun o a w K K' Q Q' hp hK h=>?_⟩
 refine ⟨fun f hf=>trivial,?_⟩
 rw [Oper.semAt_eq _ _ _ (fun c hc=>by rw [hc] at hp;simp [mI] at hp)]
 unfold Oper.wp at h
 generalize (execOp a.eval o).run P w=r at h
 cases r with
 | ok x w' =>
  cases x with
  | value v=>exact hK _ _ h
  | skip=>exact hK _ _ h
  | defer d=>exact hK _ _ h
  | enter f args =>
   refine ⟨fun h=>(by simp [Fence.wide] at h),CallsIn.inRound l (callsIn_wide.2 (Calls.mono h ?_))⟩
   intro e w'' he
   cases e with
   | returned v=>exact hK _ _ he
   | panicked ch=>exact he.elim
   | outgrown=>obtain ⟨_,_,he⟩:=he;exact he.elim
  | row row args=>exact ⟨fun h=>(by simp [Fence.wide] at h),(Ji h).mono fun v w' h=>hK _ _ h⟩
  | _=>exact h.elim
 | halt x w' =>
  cases x <;> exact h.elim
theorem bT {n:Nat} {P:Program}:EH Fence.wide n P:=by
 refine ⟨fun _=>trivial,fun o a w K K' Q Q' hp hK h=>?_⟩
 refine ⟨fun f hf=>trivial,?_⟩
 rw [Oper.semAt_eq _ _ _ (fun c hc=>by rw [hc] at hp;simp [mI] at hp)]
 unfold Oper.wp at h
 generalize (execOp a.eval o).run P w=r at h
 cases r with
 | ok x w' =>
  cases x with
  | value v=>exact hK _ _ h
  | skip=>exact hK _ _ h
  | defer d=>exact hK _ _ h
  | enter f args =>
   refine ⟨fun h=>(by simp [Fence.wide] at h),callsIn_wide.2 (Calls.mono h ?_)⟩
   intro e w'' he
   cases e with
   | returned v=>exact hK _ _ he
   | panicked ch=>exact he.elim
   | outgrown=>obtain ⟨_,_,he⟩:=he;exact he.elim
  | row row args =>
   refine ⟨fun h=>(by simp [Fence.wide] at h),fun c cs _=>?_⟩
   obtain ⟨v,w',hr,hs⟩:=h c cs
   exact ⟨v,w',hK _ _ hr,stepsIn_wide.2 hs⟩
  | _=>exact h.elim
 | halt x w' =>
  cases x <;> exact h.elim
section
variable {F:Fence} {nn:Nat} {P:Program} {ops:Array Oper} {Q Q':Exit→Act→World→Prop} {md:Region.Mode} {S:World→Prop}
theorem Jk (hF:EH F nn P) (hp:(ops.toList.all fun o=>mI o.op)=true) {i:Nat} {K K':Act→World→Prop} {a:Act} {w:World} (hK:∀ a w,K a w→K' a w) (h:wpOp P ops (ag Q) i K a w):wpOpIn F nn P ops Q' i K' a w:=by
 unfold wpOp at h
 unfold wpOpIn
 cases hi:ops[i]? with
 | none=>simp only [hi] at h;exact hK _ _ h
 | some o =>
  simp only [hi] at h ⊢
  have ho:mI o.op=true:=List.all_eq_true.1 hp o (by
   obtain ⟨h1,h2⟩:=Array.getElem?_eq_some_iff.1 hi
   rw [←h2];exact Array.getElem_mem_toList h1)
  by_cases hw:Region.wanted o (yielded ops a.tmps)=true
  ·rw [if_pos hw] at h ⊢
   rcases h with h | ⟨_,⟨_,_,h⟩⟩
   ·exact hF.2 o a w K K' Q Q' ho hK h
   ·exact h.elim
  ·rw [if_neg hw] at h ⊢
   exact ⟨fun f _=>hF.1 f,hK _ _ h⟩
theorem nG (hF:EH F nn P) (hp:(ops.toList.all fun o=>mI o.op)=true) {n g:Nat} {L:Array Bool→Act→World→Prop} (hL:∀ listed a w,L listed a w→wpAnyIn F nn P md ops Q' g listed a w) :
  ∀ (f:Nat) (listed:Array Bool) (a:Act) (w:World),uP P md ops (ag Q) S n L f listed a w→wpAnyIn F nn P md ops Q' (f+g) listed a w
 | 0,listed,a,w,h=>by rw [Nat.zero_add];exact hL _ _ _ h
 | f+1,listed,a,w,h=>by
  rw [show f+1+g=(f+g)+1 by omega]
  exact ⟨fun h0=>absurd h0 h.1,fun i hi=>Jk hF hp (fun a' w' h'=>nG hF hp hL f _ a' w' h'.2) (h.2 i hi).2⟩
theorem lK:∀ (l:List Oper) (k:Nat) (listed:Array Bool) (a:Act) (w:World),(∀ j,l[j]?=ops[k+j]?) →
  Region.seqB md ops l.length k listed=true→wpListIn F nn P ops Q' l a w→wpAnyIn F nn P md ops Q' l.length listed a w
 | [],_,_,_,_,_,hB,h=>⟨by simpa [Region.seqB] using hB,h⟩
 | o :: l,k,listed,a,w,hl,hB,h=>by
  have h0:ops[k]?=some o:=by simpa using (hl 0).symm
  simp only [List.length_cons,Region.seqB,Bool.and_eq_true,decide_eq_true_eq] at hB
  refine ⟨fun h1=>(by rw [hB.1] at h1;cases h1),fun i hi=>?_⟩
  rw [hB.1] at hi
  have hik:i=k:=by simpa using hi
  subst hik
  have hw:wpOpIn F nn P ops Q' i (wpListIn F nn P ops Q' l) a w:=by unfold wpOpIn;simp only [h0];exact h
  exact wpOpIn_mono (fun a' w' h'=>lK l (i+1) _ a' w' (fun j=>by have:=hl (j+1);simpa [Nat.add_assoc,Nat.add_comm 1 j] using this) hB.2 h') hw
end
end Go.Proofs.YtglncfkoohgdaaaGreatDoor
namespace Go.Proofs.YtglncfkoohgdaaaGreatDoor
open Go.RowKit
theorem fJ {F:Fence} {nn:Nat} {P:Program} {id:Nat} {Q:Exit→Act→World→Prop} {a:Act} {w:World} {l:List Oper} (hF:EH F nn P) (S:World→Prop) (ph:fT) (n2:Nat) (hm:P.follows .mixedOrders=true)
  (hB:Bg .any l.toArray ph n2=true) (hp:(l.all fun o=>mI o.op)=true) (hS:S w.drew)
  (h:gP P l.toArray S (ag fun _ _ _=>False) (fun a'' w''=>wpListIn F nn P l.toArray Q (l.drop n2) a'' w'') ph a w.drew):(Code.region id l.toArray true).wpIn F nn P Q a w:=by
 refine wpIn_region_any hm ?_
 simp only [Bg,Bool.and_eq_true,decide_eq_true_eq] at hB
 obtain ⟨⟨⟨⟨⟨hsel,hn'⟩,hlen⟩,hs⟩,hc⟩,htk⟩:=hB
 have hl:n2<l.length:=by simpa using hn'
 have hdl:(l.drop n2).length=l.toArray.size-n2:=by simp
 have inv0:HeadInv .any l.toArray n2 (Array.replicate l.toArray.size false):=
  ⟨by simp,fun j oj _ hl=>(by rw [getD_replicate_false] at hl;cases hl),fun t _ ht=>getD_in (by simpa using ht) (getD_replicate_false _ _)⟩
 have H:=sF (P:=P) (ops:=l.toArray) (md:=.any) (Q:=ag fun _ _ _=>False) (S:=S) (n:=n2) (m:=0) (B:=Region.seqB .any l.toArray (l.toArray.size-n2) n2)
  (L:=fun listed' a' w'=>Region.seqB .any l.toArray (l.toArray.size-n2) n2 listed'=true∧wpListIn F nn P l.toArray Q (l.drop n2) a' w')
  (Lq:=fun a'' w''=>wpListIn F nn P l.toArray Q (l.drop n2) a'' w'')
  hsel hs hc hn' (fun c a w h=>h) (fun listed a w hL=>seqB_ready hL.1) (fun listed a w hB hq=>⟨hB,hq⟩) ph _ a w.drew inv0 hS htk h
 have H2:=nG (F:=F) (nn:=nn) (Q':=Q) (g:=l.toArray.size-n2) hF (by simpa using hp) (fun listed a' w' hL=>by
  have:=lK (F:=F) (nn:=nn) (P:=P) (md:=.any) (Q':=Q) (l.drop n2) n2 listed a' w' (fun j=>by simp [List.getElem?_drop]) (by rw [hdl];exact hL.1) hL.2
  rwa [hdl] at this) _ _ _ _ H
 have hsz:ph.len+0+(l.toArray.size-n2)=l.toArray.size:=by
  have:l.toArray.size=l.length:=by simp
  omega
 rw [hsz] at H2
 exact H2
section
variable {F:Fence} {n:Nat} {P:Program}
def LU (T:TypeId) (F:Fence) (n:Nat) (P:Program) (g:Nat) (lb:Array Value) (arg:Array Value) (w:World):Prop:=
 ∀ (l:Nat) (J Jx:Unit→World→Prop) (W:World),Below w.heap.size w W→kQ T W.heap.size J→kQ T W.heap.size Jx →
  (∀ W1,J () W1→YieldAt F (n-1) P l arg W1 fun e W'=>e=.returned (.bool false)∧Jx () W'∧KeepsFrom W.heap.size W1 W') →
  J () W→CallsIn F n P g (#[.func (.yield l) #[] #[]]++lb) W fun e W'=>(∃ v,e=.returned v)∧Jx () W'
def Jl (B:Nat) (Ix:Code→Unit→World→Prop) (W:World):Exit→Act→World→Prop
 | .ret,_,W'=>KeepsFrom B W W'∧Ix .ret () W'
 | .exit id,_,W'=>KeepsFrom B W W'∧Ix (.exit id) () W'
 | .goto t,_,W'=>KeepsFrom B W W'∧Ix (.goto t) () W'
 | _,_,_=>False
theorem Book.own {B:Nat} {r:Loop} {W W':World} {row:Option Nat} (h:Book B r W) (hg:W.grownBy W' row) (hr:∀ j,row=some j→B+2≤j):Book B r W':=
 ⟨(hg.block _ (Array.getElem?_eq_some_iff.1 h.loop).1 (fun e=>by have:=hr _ e.symm;omega)).trans h.loop,(hg.block _ (Array.getElem?_eq_some_iff.1 h.mark).1 (fun e=>by have:=hr _ e.symm;omega)).trans h.mark⟩
theorem uR {g:Operand} {ps:Array Tmp} {assign body:Code} {Q:Exit→Act→World→Prop} {a:Act} {w:World}
  (hro:F.round=none) (h1:1≤n) {gf:Nat} {lb:Array Value} (hg:a.eval g=.func (.func gf) #[] lb) (hFg:F.fn gf) (eg:∀ args w,(callFunc gf args).run P w=.ok (.enter gf args) w)
  {arg:Array Value} {w0:World} {T:TypeId} (hseq:LU T F (n-1) P gf lb arg w0) (hb0:Below w0.heap.size w0 w) (hps:arg.size=ps.size)
  (I:Unit→World→Prop) (Ix:Code→Unit→World→Prop) (hI:kQ T w.heap.size I) (hIx:∀ c,kQ T w.heap.size (Ix c)) (h0:I () w) (Ax:Act→World→Prop) (hAx:∀ a',OwnFrom w.heap.size (fun (_:Unit) W=>Ax a' W))
  (hassign:∀ (l:Nat) (W:World) (K:Act→World→Prop),I () W→(∀ a' W',KeepsFrom w.heap.size W W'→I () W'→Ax a' W'→K a' W') →
   assign.wpIn (F.inRound l) (n-1-1) P (Exit.then K (fun _ _ _=>False)) { tmps:=(ps.zip arg).foldl (fun t (p,v)=>t.setIfInBounds p v) a.tmps,defers:=[] } W)
  (hbody:∀ (l:Nat) (a':Act) (W:World),w.heap.size≤l→I () W→Ax a' W→body.wpIn (F.inRound l) (n-1-1) P (Jl w.heap.size Ix W) a' W)
  (hstop:∀ (D:Nat) (c:Code) (W:World),w.heap.size≤D→Ix c () W→W.heap[D]?=some (.deferred (some []))→c.wpIn F n P Q { a with defers:={ target:=.collected D,args:=#[] } :: a.defers } W) :
  (Code.rangeFunc g ps assign body).wpIn F n P Q a w:=by
 obtain ⟨B,hB⟩ : ∃ B,B=w.heap.size:=⟨_,rfl⟩
 rw [←hB] at hI hIx hAx hassign hbody hstop
 refine wpIn_rangeFunc fun fn hfn=>?_
 let rc:LoopState→Option Code→Loop:=fun s p=>{ state:=s,pending:=p,fn,tmps:=a.tmps,params:=ps,assign,body,defers:=B }
 obtain ⟨W1,hW1⟩ : ∃ W1,W1=(w.alloc (.deferred (some []))).alloc (.loop (rc .ready none)):=⟨_,rfl⟩
 have hs1:W1.heap.size=B+2:=by rw [hW1,hB];simp
 have hbk:Book B (rc .ready none) W1:=by
  have e1:=World.alloc_heap_new w (.deferred (some []))
  have e2:=World.alloc_heap_new (w.alloc (.deferred (some []))) (.loop (rc .ready none))
  rw [World.size_alloc] at e2
  rw [hW1,hB]
  exact ⟨e2,(((Below.refl _ _).alloc (Nat.le_refl _) _).block _ (by simp)).trans e1⟩
 have hI1:I () W1:=by rw [hW1];exact hI.from.alloc _ (hI.from.alloc _ h0)
 have hb1:Below w0.heap.size w0 W1:=by rw [hW1];exact hb0.trans ((((Below.refl _ w).alloc (Nat.le_refl _) _).alloc (by simp) _).mono hb0.size)
 have hen:=run_enterLoop_outer (P:=P) (w:=w) fn a.tmps ps assign body
 rw [←hB] at hen
 refine ⟨B+1,[{ target:=.collected B,args:=#[] }],W1,{ target:=.fn (.func gf) lb,args:=#[.func (.yield (B+1)) #[] #[]] },W1,gf,#[.func (.yield (B+1)) #[] #[]]++lb,W1,by rw [hro,hW1];exact hen,?_,?_,?_,fun _=>h1,?_⟩
 ·simp only [resolve,hg]
  simp [go_sem]
 ·intro f' hf'
  simp [Target.leads] at hf'
  rw [←hf']
  exact hFg
 ·simp [invoke,go_sem,eg]
 have low:∀ {A:World} {row:Option Nat},(∀ r,row=some r→W1.heap.size≤r∧∃ o:Obj,A.heap[r]?=some o∧(o.isCells=false∨∃ c fz,o=.cells c T fz))→∀ r,row=some r→B≤r∧∃ o:Obj,A.heap[r]?=some o∧(o.isCells=false∨∃ c fz,o=.cells c T fz):=fun hr r e=>⟨by have:=(hr r e).1;omega,(hr r e).2⟩
 have turn:∀ {W:World} {r:Loop} (r':Loop),Book B r W→∀ {β:Type} {G:β→World→Prop} {s:β},OwnFrom B G→G s W→G s (W.putObj (B+1) (.loop r')):=fun r' h=>@fun _ _ _ hG hs=>hG.putObj _ hs (by omega) h.loop rfl
 refine (hseq (B+1) (fun k W=>I k W∧Book B (rc .ready none) W) (fun k W=>∃ c,Ix c k W∧Book B (rc .done (some c)) W) W1 hb1
  (fun k X Y row hs hgr hr=>⟨hI k X Y row hs.1 hgr (low hr),hs.2.own hgr (fun j e=>by have:=(hr j e).1;omega)⟩)
  (fun k X Y row ⟨c,hc,hk⟩ hgr hr=>⟨c,hIx c k X Y row hc hgr (low hr),hk.own hgr (fun j e=>by have:=(hr j e).1;omega)⟩) ?_ ⟨hI1,hbk⟩).mono ?_
 ·
  rintro W ⟨hi,gU⟩
  have hy:=run_yield (P:=P) (args:=arg) gU.loop hps
  refine ⟨fn,_,assign,body,hy,roundIn_of_wpIn hfn (hassign (B+1) W _ hi fun a' W2 k2 i2 x2=>?_)⟩
  have yg:=gU.gQ k2
  refine ⟨_,run_beginRound yg.loop rfl,?_⟩
  have tr2:=@turn _ _ { rc .ready none with state:=.busy } yg
  have D5:=yg.put { rc .ready none with state:=.busy }
  refine wpIn_mono (hbody (B+1) a' _ (by omega) (tr2 hI.from i2) (tr2 (s:=()) (hAx a') x2)) ?_
  have leave:∀ (j:Option Code) (W3:World),KeepsFrom B (W2.putObj (B+1) (.loop { rc .ready none with state:=.busy })) W3 →
    (Instr.endRound (B+1) j).run P W3=.ok (.bool j.isNone) (W3.putObj (B+1) (.loop (rc (if j.isNone then .ready else .done) j)))∧Book B { rc .ready none with state:=.busy } W3:=fun j W3 k3 =>
   ⟨run_endRound j (D5.gQ k3).loop,D5.gQ k3⟩
  have PV:∀ (X:World) (o:Obj),KeepsFrom W1.heap.size X (X.putObj (B+1) o):=fun X o=>⟨by simp [World.putObj],fun k o' hk h ho=>by
   simp only [World.putObj]
   rw [Array.getElem?_setIfInBounds,if_neg (by omega)]
   exact h⟩
  have kmo:∀ {X Y:World},KeepsFrom B X Y→KeepsFrom W1.heap.size X Y:=fun h=>⟨h.size,fun k o hk=>h.same k o (by omega)⟩
  intro e a3 W3 hp
  cases e with
  | normal=>exact hp.elim
  | ret =>
   obtain ⟨k3,i3⟩:=hp
   obtain ⟨hr,iE⟩:=leave (some .ret) W3 k3
   exact ⟨_,_,hr,rfl,⟨.ret,turn _ iE (hIx _).from i3,iE.put _⟩,(kmo k2).trans ((PV _ _).trans ((kmo k3).trans (PV _ _)))⟩
  | exit id =>
   obtain ⟨k3,i3⟩:=hp
   obtain ⟨hr,iE⟩:=leave (some (.exit id)) W3 k3
   exact ⟨_,_,hr,rfl,⟨.exit id,turn _ iE (hIx _).from i3,iE.put _⟩,(kmo k2).trans ((PV _ _).trans ((kmo k3).trans (PV _ _)))⟩
  | goto t =>
   obtain ⟨k3,i3⟩:=hp
   obtain ⟨hr,iE⟩:=leave (some (.goto t)) W3 k3
   exact ⟨_,_,hr,rfl,⟨.goto t,turn _ iE (hIx _).from i3,iE.put _⟩,(kmo k2).trans ((PV _ _).trans ((kmo k3).trans (PV _ _)))⟩
  | panic ch=>exact hp.elim
  | outgrown=>exact hp.elim
 ·
  rintro e W2 ⟨⟨v,rfl⟩,c,hi,gU⟩
  refine ⟨some c,_,run_endLoop gU.loop (by simp [rc]),?_⟩
  exact hstop B c _ (Nat.le_refl _) (turn _ gU (hIx c).from hi) (gU.put _).mark
end
inductive eD where
 | fin:eD
 | take (k:Nat) (p:eD):eD
 | one (k:Nat) (p:eD):eD
 | two (k:Nat) (p:eD) (j:Nat) (q:eD):eD
 | three (k:Nat) (p:eD) (j:Nat) (q:eD) (i:Nat) (r:eD):eD
def eD.len:eD→Nat
 | .fin=>0
 | .take _ p=>p.len+1
 | .one _ p=>p.len+1
 | .two _ p _ _=>p.len+1
 | .three _ p _ _ _ _=>p.len+1
section
variable {P:Program} {md:Region.Mode} {ops:Array Oper} {Q:Exit→Act→World→Prop} {S:World→Prop}
def bR (P:Program) (ops:Array Oper) (S:World→Prop) (Q:Exit→Act→World→Prop) (Lq:Act→World→Prop):eD→Act→World→Prop
 | .fin,a,w=>Lq a w
 | .take i rest,a,w=>∃ o v,ops[i]?=some o∧YieldsIf P ops S o v a∧bR P ops S Q Lq rest (a.put o.dst v) w
 | .one i rest,a,w=>∃ o,ops[i]?=some o∧Region.wanted o (yielded ops a.tmps)=true∧o.wp P a w (fun a' w'=>S w'∧bR P ops S Q Lq rest a' w') Q
 | .two i r1 j r2,a,w=>(∃ o,ops[i]?=some o∧Region.wanted o (yielded ops a.tmps)=true∧o.wp P a w (fun a' w'=>S w'∧bR P ops S Q Lq r1 a' w') Q)∧(∃ o,ops[j]?=some o∧Region.wanted o (yielded ops a.tmps)=true∧o.wp P a w (fun a' w'=>S w'∧bR P ops S Q Lq r2 a' w') Q)
 | .three i r1 j r2 k r3,a,w=>(∃ o,ops[i]?=some o∧Region.wanted o (yielded ops a.tmps)=true∧o.wp P a w (fun a' w'=>S w'∧bR P ops S Q Lq r1 a' w') Q)∧(∃ o,ops[j]?=some o∧Region.wanted o (yielded ops a.tmps)=true∧o.wp P a w (fun a' w'=>S w'∧bR P ops S Q Lq r2 a' w') Q)∧(∃ o,ops[k]?=some o∧Region.wanted o (yielded ops a.tmps)=true∧o.wp P a w (fun a' w'=>S w'∧bR P ops S Q Lq r3 a' w') Q)
theorem aF {Lq:Act→World→Prop} {a:Act} {w:World} {i:Nat} {rest:eD} {o:Oper} (hi:ops[i]?=some o) (v:Value) (hw:Region.wanted o (yielded ops a.tmps)=true) (hv:∀ w,S w→(execOp a.eval o).run P w=.ok (.value v) w)
  (h:bR P ops S Q Lq rest (a.put o.dst v) w):bR P ops S Q Lq (.take i rest) a w:=⟨o,v,hi,.inl ⟨hw,hv⟩,h⟩
theorem af {Lq:Act→World→Prop} {a:Act} {w:World} {i:Nat} {rest:eD} {o:Oper} (hi:ops[i]?=some o) (hw:Region.wanted o (yielded ops a.tmps)=true)
  (h:∀ K:Act→World→Prop,(∀ a w,S w∧bR P ops S Q Lq rest a w→K a w)→o.wp P a w K Q):bR P ops S Q Lq (.one i rest) a w:=⟨o,hi,hw,h _ fun _ _ h=>h⟩
theorem dE {Lq:Act→World→Prop} {a:Act} {w:World} {i j:Nat} {r1 r2:eD} (h1:bR P ops S Q Lq (.one i r1) a w) (h2:bR P ops S Q Lq (.one j r2) a w):bR P ops S Q Lq (.two i r1 j r2) a w:=⟨h1,h2⟩
theorem Bh {Lq:Act→World→Prop} {a:Act} {w:World} {i j k:Nat} {r1 r2 r3:eD} (h1:bR P ops S Q Lq (.one i r1) a w) (h2:bR P ops S Q Lq (.one j r2) a w) (h3:bR P ops S Q Lq (.one k r3) a w):bR P ops S Q Lq (.three i r1 j r2 k r3) a w:=⟨h1,h2,h3⟩
def jE (md:Region.Mode) (ops:Array Oper) (n:Nat) (B:Array Bool→Bool):eD→Array Bool→Bool
 | .fin,listed=>B listed
 | .take k rest,listed=>decide (k<n) && (Region.ready md ops listed).contains k && Region.free md ops listed k && jE md ops n B rest (listed.setIfInBounds k true)
 | .one k rest,listed=>decide (k<n) && decide (Region.ready md ops listed=[k]) && jE md ops n B rest (listed.setIfInBounds k true)
 | .two k p j q,listed=>decide (k<n) && decide (j<n) && (decide (Region.ready md ops listed=[k,j]) || decide (Region.ready md ops listed=[j,k])) && decide (q.len=p.len) && jE md ops n B p (listed.setIfInBounds k true) && jE md ops n B q (listed.setIfInBounds j true)
 | .three k p j q i r,listed=>decide (k<n) && decide (j<n) && decide (i<n) && ((Region.ready md ops listed).all fun x=>x == k || x == j || x == i) && (Region.ready md ops listed).contains k && (Region.ready md ops listed).contains j && (Region.ready md ops listed).contains i && decide (q.len=p.len) && decide (r.len=p.len) && jE md ops n B p (listed.setIfInBounds k true) && jE md ops n B q (listed.setIfInBounds j true) && jE md ops n B r (listed.setIfInBounds i true)
theorem kR {n m:Nat} {B:Array Bool→Bool} {L:Array Bool→Act→World→Prop} {Lq:Act→World→Prop} (hsel:Region.noSelect ops=true) (hs:Region.sinkB md ops n=true) (hc:Region.chainB md ops n=true) (hn:n<ops.size)
  (hQ:∀ c a w,¬ Q (.panic c) a w) (hdone:∀ listed a w,L listed a w→∀ j∈Region.ready md ops listed,n≤j)
  (hfin:∀ listed a w,B listed=true→Lq a w→uP P md ops Q S n L m listed a w) :
  ∀ (l:eD) (listed:Array Bool) (a:Act) (w:World),HeadInv md ops n listed→S w →
  jE md ops n B l listed=true→bR P ops S Q Lq l a w→uP P md ops Q S n L (l.len+m) listed a w
 | .fin,listed,a,w,inv,hS,hB,h=>by
  rw [eD.len,Nat.zero_add]
  exact hfin _ _ _ hB h
 | .take k l,listed,a,w,inv,hS,hB,h=>by
  simp only [jE,Bool.and_eq_true,decide_eq_true_eq] at hB
  obtain ⟨⟨⟨hkn,hr⟩,hf⟩,hB'⟩:=hB
  have hr':k∈Region.ready md ops listed:=by simpa using hr
  obtain ⟨o,v,h0,hy,hK⟩:=h
  rw [eD.len,show l.len+1+m=(l.len+m)+1 by omega]
  exact oV h0 (Region.noSelect_spec hsel) (fun c a w h=>absurd h (hQ _ _ _)) hs hc hn hkn hdone (l.len+m) listed a w inv (Region.free_spec h0 hf) hr' hy hS
   (kR hsel hs hc hn hQ hdone hfin l _ _ w (inv.set hr' hkn) hS hB' hK)
 | .one k l,listed,a,w,inv,hS,hB,h=>by
  simp only [jE,Bool.and_eq_true,decide_eq_true_eq] at hB
  obtain ⟨⟨hkn,hr⟩,hB'⟩:=hB
  obtain ⟨o,h0,hw,ho⟩:=h
  have hr':k∈Region.ready md ops listed:=by rw [hr];simp
  rw [eD.len,show l.len+1+m=(l.len+m)+1 by omega]
  refine ⟨by rw [hr];simp,fun i hi=>?_⟩
  rw [hr] at hi
  have hik:i=k:=by simpa using hi
  subst hik
  refine ⟨hkn,?_⟩
  unfold wpOp
  simp only [h0]
  rw [if_pos hw]
  exact .inl (Oper.wp_mono (fun a' w' h'=>⟨h'.1,kR hsel hs hc hn hQ hdone hfin l _ a' w' (inv.set hr' hkn) h'.1 hB' h'.2⟩) ho)
 | .two k p j q,listed,a,w,inv,hS,hB,h=>by
  simp only [jE,Bool.and_eq_true,Bool.or_eq_true,decide_eq_true_eq] at hB
  obtain ⟨⟨⟨⟨⟨hkn,hjn⟩,hr⟩,hlen⟩,hB1⟩,hB2⟩:=hB
  obtain ⟨⟨o1,g1,hw1,ho1⟩,⟨o2,g2,hw2,ho2⟩⟩:=h
  have hmem:∀ i,i∈Region.ready md ops listed↔i=k∨i=j:=fun i=>by
   rcases hr with hr | hr <;> rw [hr] <;> simp [or_comm]
  have hk':=(hmem k).2 (.inl rfl)
  have hj':=(hmem j).2 (.inr rfl)
  rw [eD.len,show p.len+1+m=(p.len+m)+1 by omega]
  refine ⟨List.ne_nil_of_mem hk',fun i hi=>?_⟩
  rcases (hmem i).1 hi with rfl | rfl
  ·refine ⟨hkn,?_⟩
   unfold wpOp
   simp only [g1]
   rw [if_pos hw1]
   exact .inl (Oper.wp_mono (fun a' w' h'=>⟨h'.1,kR hsel hs hc hn hQ hdone hfin p _ a' w' (inv.set hk' hkn) h'.1 hB1 h'.2⟩) ho1)
  ·refine ⟨hjn,?_⟩
   unfold wpOp
   simp only [g2]
   rw [if_pos hw2,←hlen]
   exact .inl (Oper.wp_mono (fun a' w' h'=>⟨h'.1,kR hsel hs hc hn hQ hdone hfin q _ a' w' (inv.set hj' hjn) h'.1 hB2 h'.2⟩) ho2)
 | .three k p j q i r,listed,a,w,inv,hS,hB,h=>by
  simp only [jE,Bool.and_eq_true,decide_eq_true_eq] at hB
  obtain ⟨⟨⟨⟨⟨⟨⟨⟨⟨⟨⟨hkn,hjn⟩,hin⟩,hall⟩,hk'⟩,hj'⟩,hi'⟩,hlen⟩,adL⟩,hB1⟩,hB2⟩,hB3⟩:=hB
  obtain ⟨⟨o1,g1,hw1,ho1⟩,⟨o2,g2,hw2,ho2⟩,⟨o3,g3,hw3,ho3⟩⟩:=h
  replace hk':k∈Region.ready md ops listed:=by simpa using hk'
  replace hj':j∈Region.ready md ops listed:=by simpa using hj'
  replace hi':i∈Region.ready md ops listed:=by simpa using hi'
  rw [eD.len,show p.len+1+m=(p.len+m)+1 by omega]
  refine ⟨List.ne_nil_of_mem hk',fun x hx=>?_⟩
  have hx':=List.all_eq_true.1 hall x hx
  simp only [Bool.or_eq_true,beq_iff_eq] at hx'
  rcases hx' with (rfl | rfl) | rfl
  ·refine ⟨hkn,?_⟩
   unfold wpOp
   simp only [g1]
   rw [if_pos hw1]
   exact .inl (Oper.wp_mono (fun a' w' h'=>⟨h'.1,kR hsel hs hc hn hQ hdone hfin p _ a' w' (inv.set hk' hkn) h'.1 hB1 h'.2⟩) ho1)
  ·refine ⟨hjn,?_⟩
   unfold wpOp
   simp only [g2]
   rw [if_pos hw2,←hlen]
   exact .inl (Oper.wp_mono (fun a' w' h'=>⟨h'.1,kR hsel hs hc hn hQ hdone hfin q _ a' w' (inv.set hj' hjn) h'.1 hB2 h'.2⟩) ho2)
  ·refine ⟨hin,?_⟩
   unfold wpOp
   simp only [g3]
   rw [if_pos hw3,←adL]
   exact .inl (Oper.wp_mono (fun a' w' h'=>⟨h'.1,kR hsel hs hc hn hQ hdone hfin r _ a' w' (inv.set hi' hin) h'.1 hB3 h'.2⟩) ho3)
end
def Bn (md:Region.Mode) (ops:Array Oper) (ph:eD) (n2:Nat):Bool:=
 Region.noSelect ops && decide (n2<ops.size) && decide (ph.len=n2) && Region.sinkB md ops n2 && Region.chainB md ops n2 && jE md ops n2 (Region.seqB md ops (ops.size-n2) n2) ph (Array.replicate ops.size false)
theorem D6 {P:Program} {Q:Exit→Act→World→Prop} {a:Act} {w:World} {l:List Oper} (S:World→Prop) (ph:eD) (n2:Nat) (hB:Bn .any l.toArray ph n2=true) (hS:S w)
  (h:bR P l.toArray S (ag Q) (fun a'' w''=>wpList P l.toArray (ag Q) (l.drop n2) a'' w'') ph a w) :
  wpAny P .any l.toArray (ag Q) l.toArray.size (Array.replicate l.toArray.size false) a w:=by
 simp only [Bn,Bool.and_eq_true,decide_eq_true_eq] at hB
 obtain ⟨⟨⟨⟨⟨hsel,hn'⟩,hlen⟩,hs⟩,hc⟩,htk⟩:=hB
 have hl:n2<l.length:=by simpa using hn'
 have hdl:(l.drop n2).length=l.toArray.size-n2:=by simp
 have inv0:HeadInv .any l.toArray n2 (Array.replicate l.toArray.size false):=
  ⟨by simp,fun j oj _ hl=>(by rw [getD_replicate_false] at hl;cases hl),fun t _ ht=>getD_in (by simpa using ht) (getD_replicate_false _ _)⟩
 have H:=kR (P:=P) (ops:=l.toArray) (md:=.any) (Q:=ag Q) (S:=S) (n:=n2) (m:=0) (B:=Region.seqB .any l.toArray (l.toArray.size-n2) n2)
  (L:=fun listed' a' w'=>Region.seqB .any l.toArray (l.toArray.size-n2) n2 listed'=true∧wpList P l.toArray (ag Q) (l.drop n2) a' w')
  (Lq:=fun a'' w''=>wpList P l.toArray (ag Q) (l.drop n2) a'' w'')
  hsel hs hc hn' (fun c a w h=>h) (fun listed a w hL=>seqB_ready hL.1) (fun listed a w hB hq=>⟨hB,hq⟩) ph _ a w inv0 hS htk h
 have H2:=jT (g:=l.toArray.size-n2) (fun listed a' w' hL=>by
  have:=wpAny_of_seq (md:=.any) (Q':=ag Q) (l.drop n2) n2 listed a' w' (fun j=>by simp [List.getElem?_drop]) (by rw [hdl];exact hL.1) hL.2
  rwa [hdl] at this) _ _ _ _ H
 have hsz:ph.len+0+(l.toArray.size-n2)=l.toArray.size:=by
  have:l.toArray.size=l.length:=by simp
  omega
 rw [hsz] at H2
 exact H2
theorem fK {P:Program} {id:Nat} {Q:Exit→Act→World→Prop} {a:Act} {w:World} {l:List Oper} (S:World→Prop) (ph:eD) (n2:Nat) (hm:P.follows .mixedOrders=true) (hB:Bn .any l.toArray ph n2=true) (hS:S w.drew)
  (h:bR P l.toArray S (ag Q) (fun a'' w''=>wpList P l.toArray (ag Q) (l.drop n2) a'' w'') ph a w.drew):(Code.region id l.toArray true).wp P Q a w:=
 nE (wp_region_any hm (D6 S ph n2 hB hS h))
theorem bN {F:Fence} {nn:Nat} {P:Program} {id:Nat} {Q:Exit→Act→World→Prop} {a:Act} {w:World} {l:List Oper} (hF:EH F nn P) (S:World→Prop) (ph:eD) (n2:Nat) (hm:P.follows .mixedOrders=true)
  (hB:Bn .any l.toArray ph n2=true) (hp:(l.all fun o=>mI o.op)=true) (hS:S w.drew)
  (h:bR P l.toArray S (ag fun _ _ _=>False) (fun a'' w''=>wpListIn F nn P l.toArray Q (l.drop n2) a'' w'') ph a w.drew):(Code.region id l.toArray true).wpIn F nn P Q a w:=by
 refine wpIn_region_any hm ?_
 simp only [Bn,Bool.and_eq_true,decide_eq_true_eq] at hB
 obtain ⟨⟨⟨⟨⟨hsel,hn'⟩,hlen⟩,hs⟩,hc⟩,htk⟩:=hB
 have hl:n2<l.length:=by simpa using hn'
 have hdl:(l.drop n2).length=l.toArray.size-n2:=by simp
 have inv0:HeadInv .any l.toArray n2 (Array.replicate l.toArray.size false):=
  ⟨by simp,fun j oj _ hl=>(by rw [getD_replicate_false] at hl;cases hl),fun t _ ht=>getD_in (by simpa using ht) (getD_replicate_false _ _)⟩
 have H:=kR (P:=P) (ops:=l.toArray) (md:=.any) (Q:=ag fun _ _ _=>False) (S:=S) (n:=n2) (m:=0) (B:=Region.seqB .any l.toArray (l.toArray.size-n2) n2)
  (L:=fun listed' a' w'=>Region.seqB .any l.toArray (l.toArray.size-n2) n2 listed'=true∧wpListIn F nn P l.toArray Q (l.drop n2) a' w')
  (Lq:=fun a'' w''=>wpListIn F nn P l.toArray Q (l.drop n2) a'' w'')
  hsel hs hc hn' (fun c a w h=>h) (fun listed a w hL=>seqB_ready hL.1) (fun listed a w hB hq=>⟨hB,hq⟩) ph _ a w.drew inv0 hS htk h
 have H2:=nG (F:=F) (nn:=nn) (Q':=Q) (g:=l.toArray.size-n2) hF (by simpa using hp) (fun listed a' w' hL=>by
  have:=lK (F:=F) (nn:=nn) (P:=P) (md:=.any) (Q':=Q) (l.drop n2) n2 listed a' w' (fun j=>by simp [List.getElem?_drop]) (by rw [hdl];exact hL.1) hL.2
  rwa [hdl] at this) _ _ _ _ H
 have hsz:ph.len+0+(l.toArray.size-n2)=l.toArray.size:=by
  have:l.toArray.size=l.length:=by simp
  omega
 rw [hsz] at H2
 exact H2
section
variable {F:Fence} {n:Nat} {P:Program}
def LV (T:TypeId) (F:Fence) (n:Nat) (P:Program) (g:Nat) (lb:Array Value) (Enc:Nat→Value→World→Prop) (Kp:World→World→Prop) (m:Nat) (w:World):Prop:=
 ∀ (l:Nat) (J Jx:Nat→World→Prop) (W:World),Below w.heap.size w W→kP T W.heap.size J→kP T W.heap.size Jx →
  (∀ k (_:k<m) v W1,J k W1→Enc k v W1→YieldAt F (n-1) P l #[v] W1 fun e W'=>(e=.returned (.bool true)∧J (k+1) W'∧(k+1<m→Kp W1 W'))∨(e=.returned (.bool false)∧Jx k W')) →
  J 0 W→CallsIn F n P g (#[.func (.yield l) #[] #[]]++lb) W fun e W'=>(∃ v,e=.returned v)∧(J m W'∨∃ k,k<m∧Jx k W')
def Jm (B:Nat) (Kp:World→World→Prop) (I:Nat→World→Prop) (Ix:Code→Nat→World→Prop) (m k:Nat) (W:World):Exit→Act→World→Prop
 | .normal,_,W'=>KeepsFrom B W W'∧(k+1<m→Kp W W')∧I (k+1) W'
 | .ret,_,W'=>KeepsFrom B W W'∧Ix .ret k W'
 | .exit id,_,W'=>KeepsFrom B W W'∧Ix (.exit id) k W'
 | .goto t,_,W'=>KeepsFrom B W W'∧Ix (.goto t) k W'
 | _,_,_=>False
theorem uS {g:Operand} {ps:Array Tmp} {assign body:Code} {Q:Exit→Act→World→Prop} {a:Act} {w:World}
  (hro:F.round=none) (h1:1≤n) {gf:Nat} {lb:Array Value} (hg:a.eval g=.func (.func gf) #[] lb) (hFg:F.fn gf) (eg:∀ args w,(callFunc gf args).run P w=.ok (.enter gf args) w)
  {Enc:Nat→Value→World→Prop} {Kp:World→World→Prop} {m:Nat} {w0:World} {T:TypeId} (hseq:LV T F (n-1) P gf lb Enc Kp m w0)
  (hKt:∀ {A B C:World},Kp A B→Kp B C→Kp A C) (hKb:∀ (W:World) (l:Nat) (o o':Obj),w.heap.size≤l→W.heap[l]?=some o→o.isCells=false→o.isWalk=false→Kp W (W.putObj l o')) (hb0:Below w0.heap.size w0 w) (hps:1=ps.size)
  (I:Nat→World→Prop) (Ix:Code→Nat→World→Prop) (hI:kQ T w.heap.size I) (hIx:∀ c,kQ T w.heap.size (Ix c)) (h0:I 0 w) (Ax:Nat→Act→World→Prop) (hAx:∀ k a',OwnFrom w.heap.size (fun (_:Unit) W=>Ax k a' W))
  (hassign:∀ (l k:Nat) (_:k<m) (v:Value) (W:World) (K:Act→World→Prop),I k W→Enc k v W→(∀ a' W',KeepsFrom w.heap.size W W'→Kp W W'→I k W'→Ax k a' W'→K a' W') →
   assign.wpIn (F.inRound l) (n-1-1) P (Exit.then K (fun _ _ _=>False)) { tmps:=(ps.zip #[v]).foldl (fun t (p,v)=>t.setIfInBounds p v) a.tmps,defers:=[] } W)
  (hbody:∀ (l k:Nat) (_:k<m) (a':Act) (W:World),w.heap.size≤l→(∃ r,W.heap[l]?=some (.loop r))→I k W→Ax k a' W→body.wpIn (F.inRound l) (n-1-1) P (Jm w.heap.size Kp I Ix m k W) a' W)
  (hdone:∀ (D:Nat) (W:World),w.heap.size≤D→I m W→W.heap[D]?=some (.deferred (some []))→Q .normal { a with defers:={ target:=.collected D,args:=#[] } :: a.defers } W)
  (hstop:∀ (D:Nat) (c:Code) (k:Nat) (W:World),w.heap.size≤D→k<m→Ix c k W→W.heap[D]?=some (.deferred (some []))→c.wpIn F n P Q { a with defers:={ target:=.collected D,args:=#[] } :: a.defers } W) :
  (Code.rangeFunc g ps assign body).wpIn F n P Q a w:=by
 obtain ⟨B,hB⟩ : ∃ B,B=w.heap.size:=⟨_,rfl⟩
 rw [←hB] at hKb hI hIx hAx hassign hbody hdone hstop
 refine wpIn_rangeFunc fun fn hfn=>?_
 let rc:LoopState→Option Code→Loop:=fun s p=>{ state:=s,pending:=p,fn,tmps:=a.tmps,params:=ps,assign,body,defers:=B }
 obtain ⟨W1,hW1⟩ : ∃ W1,W1=(w.alloc (.deferred (some []))).alloc (.loop (rc .ready none)):=⟨_,rfl⟩
 have hs1:W1.heap.size=B+2:=by rw [hW1,hB];simp
 have hbk:Book B (rc .ready none) W1:=by
  have e1:=World.alloc_heap_new w (.deferred (some []))
  have e2:=World.alloc_heap_new (w.alloc (.deferred (some []))) (.loop (rc .ready none))
  rw [World.size_alloc] at e2
  rw [hW1,hB]
  exact ⟨e2,(((Below.refl _ _).alloc (Nat.le_refl _) _).block _ (by simp)).trans e1⟩
 have hI1:I 0 W1:=by rw [hW1];exact hI.from.alloc _ (hI.from.alloc _ h0)
 have hb1:Below w0.heap.size w0 W1:=by rw [hW1];exact hb0.trans ((((Below.refl _ w).alloc (Nat.le_refl _) _).alloc (by simp) _).mono hb0.size)
 have hen:=run_enterLoop_outer (P:=P) (w:=w) fn a.tmps ps assign body
 rw [←hB] at hen
 refine ⟨B+1,[{ target:=.collected B,args:=#[] }],W1,{ target:=.fn (.func gf) lb,args:=#[.func (.yield (B+1)) #[] #[]] },W1,gf,#[.func (.yield (B+1)) #[] #[]]++lb,W1,by rw [hro,hW1];exact hen,?_,?_,?_,fun _=>h1,?_⟩
 ·simp only [resolve,hg]
  simp [go_sem]
 ·intro f' hf'
  simp [Target.leads] at hf'
  rw [←hf']
  exact hFg
 ·simp [invoke,go_sem,eg]
 have walk:∀ {A:World} {row:Option Nat},(∀ r,row=some r→W1.heap.size≤r∧∃ o:Obj,A.heap[r]?=some o∧(o.isWalk=true∨∃ c fz,o=.cells c T fz))→∀ r,row=some r→B≤r∧∃ o:Obj,A.heap[r]?=some o∧(o.isCells=false∨∃ c fz,o=.cells c T fz):=fun hr r e=>by
  obtain ⟨hx,o,ho,hw⟩:=hr r e
  rcases hw with hw | hw
  ·exact ⟨by omega,o,ho,.inl (Obj.not_cells_of_walk hw)⟩
  ·exact ⟨by omega,o,ho,.inr hw⟩
 have turn:∀ {W:World} {r:Loop} (r':Loop),Book B r W→Kp W (W.putObj (B+1) (.loop r'))∧(∀ {β:Type} {G:β→World→Prop} {s:β},OwnFrom B G→G s W→G s (W.putObj (B+1) (.loop r'))):=fun r' h =>
  ⟨hKb _ _ _ _ (by omega) h.loop rfl rfl,fun hG hs=>hG.putObj _ hs (by omega) h.loop rfl⟩
 refine (hseq (B+1) (fun k W=>I k W∧Book B (rc .ready none) W) (fun k W=>∃ c,Ix c k W∧Book B (rc .done (some c)) W) W1 hb1
  (fun k X Y row hs hgr hr=>⟨hI k X Y row hs.1 hgr (walk hr),hs.2.kept hgr fun j e=>(hr j e).2⟩)
  (fun k X Y row ⟨c,hc,hk⟩ hgr hr=>⟨c,hIx c k X Y row hc hgr (walk hr),hk.kept hgr fun j e=>(hr j e).2⟩) ?_ ⟨hI1,hbk⟩).mono ?_
 ·
  rintro k hk v W ⟨hi,gU⟩ hv
  have hy:=run_yield (P:=P) (args:=#[v]) gU.loop hps
  refine ⟨fn,_,assign,body,hy,roundIn_of_wpIn hfn (hassign (B+1) k hk v W _ hi hv fun a' W2 k2 p2 i2 x2=>?_)⟩
  have yg:=gU.gQ k2
  refine ⟨_,run_beginRound yg.loop rfl,?_⟩
  obtain ⟨kp2,tr2⟩:=turn { rc .ready none with state:=.busy } yg
  have D5:=yg.put { rc .ready none with state:=.busy }
  refine wpIn_mono (hbody (B+1) k hk a' _ (by omega) ⟨_,D5.loop⟩ (tr2 hI.from i2) (tr2 (s:=()) (hAx k a') x2)) ?_
  have leave:∀ (j:Option Code) (W3:World),KeepsFrom B (W2.putObj (B+1) (.loop { rc .ready none with state:=.busy })) W3 →
    (Instr.endRound (B+1) j).run P W3=.ok (.bool j.isNone) (W3.putObj (B+1) (.loop (rc (if j.isNone then .ready else .done) j)))∧Book B { rc .ready none with state:=.busy } W3:=fun j W3 k3 =>
   ⟨run_endRound j (D5.gQ k3).loop,D5.gQ k3⟩
  intro e a3 W3 hp
  cases e with
  | normal =>
   obtain ⟨k3,p3,i3⟩:=hp
   obtain ⟨hr,iE⟩:=leave none W3 k3
   obtain ⟨kp4,tr4⟩:=turn (rc .ready none) iE
   exact ⟨_,_,hr,.inl ⟨rfl,⟨tr4 hI.from i3,iE.put _⟩,fun hlast=>hKt p2 (hKt kp2 (hKt (p3 hlast) kp4))⟩⟩
  | ret =>
   obtain ⟨k3,i3⟩:=hp
   obtain ⟨hr,iE⟩:=leave (some .ret) W3 k3
   exact ⟨_,_,hr,.inr ⟨rfl,.ret,(turn _ iE).2 (hIx _).from i3,iE.put _⟩⟩
  | exit id =>
   obtain ⟨k3,i3⟩:=hp
   obtain ⟨hr,iE⟩:=leave (some (.exit id)) W3 k3
   exact ⟨_,_,hr,.inr ⟨rfl,.exit id,(turn _ iE).2 (hIx _).from i3,iE.put _⟩⟩
  | goto t =>
   obtain ⟨k3,i3⟩:=hp
   obtain ⟨hr,iE⟩:=leave (some (.goto t)) W3 k3
   exact ⟨_,_,hr,.inr ⟨rfl,.goto t,(turn _ iE).2 (hIx _).from i3,iE.put _⟩⟩
  | panic ch=>exact hp.elim
  | outgrown=>exact hp.elim
 ·
  rintro e W2 ⟨⟨v,rfl⟩,(⟨hi,gU⟩ | ⟨k,hk,c,hi,gU⟩)⟩
  ·refine ⟨none,_,run_endLoop gU.loop (by simp [rc]),?_⟩
   exact hdone B _ (Nat.le_refl _) ((turn _ gU).2 hI.from hi) (gU.put _).mark
  ·refine ⟨some c,_,run_endLoop gU.loop (by simp [rc]),?_⟩
   exact hstop B c k _ (Nat.le_refl _) hk ((turn _ gU).2 (hIx c).from hi) (gU.put _).mark
end
def mkL (d:Nat→Bool):List Nat→Array Bool→Array Bool
 | [],B=>B
 | i :: l,B=>mkL d l (if d i=true then B.setIfInBounds i true else B)
def upD (d:Nat→Bool) (i:Nat):Nat→Bool:=fun j=>if j=i then true else d j
def aiC:List Nat→(Nat→Bool)→((Nat→Bool)→Bool)→Bool
 | [],d,f=>f d
 | i :: l,d,f=>aiC l (fun j=>if j=i then false else d j) f && aiC l (fun j=>if j=i then true else d j) f
theorem aia {f:(Nat→Bool)→Bool}:∀ (l:List Nat) (d0:Nat→Bool),aiC l d0 f=true→∀ d:Nat→Bool,∃ d':Nat→Bool,f d'=true∧(∀ i∈l,d' i=d i)∧∀ i,i∉l→d' i=d0 i
 | [],d0,h,d=>⟨d0,h,fun i hi=>absurd hi List.not_mem_nil,fun _ _=>rfl⟩
 | i :: l,d0,h,d=>by
  unfold aiC at h
  rw [Bool.and_eq_true] at h
  have key:aiC l (fun j=>if j=i then d i else d0 j) f=true:=by
   cases hd:d i
   ·exact h.1
   ·exact h.2
  obtain ⟨d',h1,h2,h3⟩:=aia l _ key d
  refine ⟨d',h1,fun j hj=>?_,fun j hj=>?_⟩
  ·by_cases hjl:j∈l
   ·exact h2 j hjl
   ·rcases List.mem_cons.1 hj with rfl | hj
    ·rw [h3 j hjl,if_pos rfl]
    ·exact absurd hj hjl
  ·rw [List.mem_cons,not_or] at hj
   rw [h3 j hj.2,if_neg hj.1]
theorem aik:∀ (l:List Nat) (B:Array Bool),mkL (fun _=>false) l B=B
 | [],_=>rfl
 | _ :: l,B=>aik l B
theorem q9 {d d':Nat→Bool}:∀ (l:List Nat) (B:Array Bool),(∀ i∈l,d i=d' i)→mkL d l B=mkL d' l B
 | [],_,_=>rfl
 | i :: l,B,h=>by
  unfold mkL
  rw [h i List.mem_cons_self]
  exact q9 l _ fun j hj=>h j (List.mem_cons_of_mem _ hj)
theorem qz (d:Nat→Bool) (i:Nat):∀ (l:List Nat) (B:Array Bool),mkL d l (B.setIfInBounds i true)=(mkL d l B).setIfInBounds i true
 | [],_=>rfl
 | j :: l,B=>by
  unfold mkL
  split
  ·rw [←qz d i l]
   by_cases h:i=j
   ·rw [h]
   ·rw [Array.setIfInBounds_comm _ _ h]
  ·exact qz d i l B
theorem aih (d:Nat→Bool) (i:Nat):∀ (l:List Nat) (B:Array Bool),l.Nodup→i∈l→mkL (upD d i) l B=(mkL d l B).setIfInBounds i true
 | j :: l,B,hn,hi=>by
  obtain ⟨h1,h2⟩:=List.nodup_cons.1 hn
  unfold mkL
  by_cases hj:j=i
  ·subst hj
   rw [show upD d j j=true by simp [upD],if_pos rfl]
   rw [q9 (d:=upD d j) (d':=d) l _ (fun k hk=>by unfold upD;rw [if_neg (by rintro rfl;exact h1 hk)])]
   split
   ·rw [qz,Array.setIfInBounds_setIfInBounds]
   ·exact qz d j l B
  ·rw [show upD d i j=d j by simp [upD,hj]]
   exact aih d i l _ h2 (by
    rcases List.mem_cons.1 hi with h | h
    ·exact absurd h.symm hj
    ·exact h)
theorem aiJ (d:Nat→Bool):∀ (l:List Nat) (B:Array Bool),(mkL d l B).size=B.size
 | [],_=>rfl
 | j :: l,B=>by
  unfold mkL
  rw [aiJ d l]
  split
  ·exact Array.size_setIfInBounds
  ·rfl
theorem aiy {d:Nat→Bool} {i:Nat}:∀ (l:List Nat) (B:Array Bool),i∈l→d i=true→(mkL d l B).getD i true=true
 | j :: l,B,hi,hd=>by
  unfold mkL
  by_cases h:i∈l
  ·exact aiy l _ h hd
  ·rcases List.mem_cons.1 hi with rfl | hi
   ·rw [if_pos hd,qz]
    rcases Nat.lt_or_ge i (mkL d l B).size with h' | h'
    ·simp [h']
    ·simp [h']
   ·exact absurd hi h
theorem aiK {d:Nat→Bool} {i:Nat}:∀ (l:List Nat),l.Nodup→i∈l→d i=false→(l.filter fun j=>!d j).length=(l.filter fun j=>!upD d i j).length+1
 | j :: l,hn,hi,hd=>by
  obtain ⟨h1,h2⟩:=List.nodup_cons.1 hn
  by_cases hj:j=i
  ·subst hj
   rw [List.filter_cons_of_pos (by simp [hd]),List.filter_cons_of_neg (by simp [upD]),List.length_cons]
   congr 2
   refine List.filter_congr fun k hk=>?_
   unfold upD
   rw [if_neg (by rintro rfl;exact h1 hk)]
  ·have hil:i∈l:=by
    rcases List.mem_cons.1 hi with h | h
    ·exact absurd h.symm hj
    ·exact h
   have ih:=aiK l h2 hil hd
   have e:upD d i j=d j:=by simp [upD,hj]
   cases hdj:d j
   ·rw [List.filter_cons_of_pos (by simp [hdj]),List.filter_cons_of_pos (by simp [e,hdj]),List.length_cons,List.length_cons,ih]
   ·rw [List.filter_cons_of_neg (by simp [hdj]),List.filter_cons_of_neg (by simp [e,hdj]),ih]
section
variable {P:Program} {md:Region.Mode} {ops:Array Oper} {Q:Exit→Act→World→Prop} {S:World→Prop}
def aiZ (P:Program) (ops:Array Oper) (S:World→Prop) (Q:Exit→Act→World→Prop) (J:(Nat→Bool)→Act→World→Prop) (i:Nat):Prop:=
 ∀ d a w,d i=false→J d a w→S w→∃ o,ops[i]?=some o∧Region.wanted o (yielded ops a.tmps)=true∧∀ K:Act→World→Prop,(∀ a w,S w→J (upD d i) a w→K a w)→o.wp P a w K Q
theorem ah3 {n m:Nat} {l:List Nat} {B:Array Bool} {J:(Nat→Bool)→Act→World→Prop} {L:Array Bool→Act→World→Prop}
  (hnd:l.Nodup) (hck:∀ d,(∃ i∈l,d i=false)→Region.ready md ops (mkL d l B)≠[]∧∀ i∈Region.ready md ops (mkL d l B),i∈l∧i<n)
  (hop:∀ i∈l,aiZ P ops S Q J i)
  (hfin:∀ d a w,(∀ i∈l,d i=true)→HeadInv md ops n (mkL d l B)→J d a w→S w→uP P md ops Q S n L m (mkL d l B) a w) :
  ∀ (k:Nat) (d:Nat→Bool) (a:Act) (w:World),(l.filter fun i=>!d i).length=k→HeadInv md ops n (mkL d l B)→J d a w→S w→uP P md ops Q S n L (k+m) (mkL d l B) a w
 | 0,d,a,w,hk,inv,hJ,hS=>by
  rw [Nat.zero_add]
  refine hfin d a w (fun i hi=>?_) inv hJ hS
  have h0:=List.filter_eq_nil_iff.1 (List.length_eq_zero_iff.1 hk) i hi
  simpa using h0
 | k+1,d,a,w,hk,inv,hJ,hS=>by
  have hex:∃ i∈l,d i=false:=by
   have h0:0<(l.filter fun i=>!d i).length:=by omega
   obtain ⟨i,hi⟩:=List.exists_mem_of_length_pos h0
   obtain ⟨h1,h2⟩:=List.mem_filter.1 hi
   exact ⟨i,h1,by simpa using h2⟩
  obtain ⟨hne,hall⟩:=hck d hex
  rw [show k+1+m=(k+m)+1 by omega]
  refine ⟨hne,fun i hi=>?_⟩
  obtain ⟨hil,hin⟩:=hall i hi
  refine ⟨hin,?_⟩
  have hdi:d i=false:=by
   cases hd:d i
   ·rfl
   ·have h1:=(mem_ready.1 hi).1
    rw [aiy l B hil hd] at h1
    cases h1
  obtain ⟨o,ho,hw,hwp⟩:=hop i hil d a w hdi hJ hS
  unfold wpOp
  simp only [ho]
  rw [if_pos hw]
  refine .inl (hwp _ fun a' w' hS' hJ'=>⟨hS',?_⟩)
  rw [←aih d i l B hnd hil]
  refine ah3 hnd hck hop hfin k (upD d i) a' w' ?_ (by rw [aih d i l B hnd hil];exact inv.set hi hin) hJ' hS'
  have:=aiK l hnd hil hdi
  omega
def aiL (md:Region.Mode) (ops:Array Oper) (n:Nat) (listed:Array Bool):Bool:=
 decide (listed.size=ops.size) && (List.range ops.size).all (fun j=>!listed.getD j false || match ops[j]? with
  | some oj=>oj.after.all fun e=>!Region.binds md e || listed.getD e.on false
  | none=>true) && (List.range ops.size).all fun t=>decide (t<n) || !listed.getD t true
theorem ais {n:Nat} {listed:Array Bool} (h:aiL md ops n listed=true):HeadInv md ops n listed:=by
 simp only [aiL,Bool.and_eq_true,decide_eq_true_eq] at h
 obtain ⟨⟨h1,h2⟩,h3⟩:=h
 refine ⟨h1,fun j oj hj hl e he hb=>?_,fun t ht ht'=>?_⟩
 ·have:=List.all_eq_true.1 h2 j (List.mem_range.2 (Array.getElem?_eq_some_iff.1 hj).1)
  rw [hl] at this
  simp only [Bool.not_true,Bool.false_or,hj] at this
  have h4:=Array.all_eq_true'.1 this e he
  rw [hb] at h4
  simpa using h4
 ·have:=List.all_eq_true.1 h3 t (List.mem_range.2 ht')
  simp only [Bool.or_eq_true,decide_eq_true_eq] at this
  rcases this with h | h
  ·omega
  ·simpa using h
def ait (md:Region.Mode) (ops:Array Oper) (n:Nat) (fl:List Nat) (p2:eD) (listed:Array Bool):Bool:=
 aiL md ops n listed && decide fl.Nodup && aiC fl (fun _=>false) (fun d=>fl.all d || (!(Region.ready md ops (mkL d fl listed)).isEmpty && (Region.ready md ops (mkL d fl listed)).all fun i=>fl.contains i && decide (i<n))) && jE md ops n (Region.seqB md ops (ops.size-n) n) p2 (mkL (fun _=>true) fl listed)
def aji (P:Program) (ops:Array Oper) (S:World→Prop) (Q:Exit→Act→World→Prop) (fl:List Nat) (Lq:Act→World→Prop) (a:Act) (w:World):Prop:=
 ∃ J:(Nat→Bool)→Act→World→Prop,J (fun _=>false) a w∧S w∧(∀ i∈fl,aiZ P ops S Q J i)∧∀ d a w,(∀ i∈fl,d i=true)→J d a w→S w→Lq a w
end
def aiz (md:Region.Mode) (ops:Array Oper) (p1:eD) (fl:List Nat) (p2:eD) (n2:Nat):Bool:=
 Region.noSelect ops && decide (n2<ops.size) && decide (p1.len+(fl.length+p2.len)=n2) && Region.sinkB md ops n2 && Region.chainB md ops n2 && jE md ops n2 (ait md ops n2 fl p2) p1 (Array.replicate ops.size false)
theorem ah9 {P:Program} {id:Nat} {Q:Exit→Act→World→Prop} {a:Act} {w:World} {l:List Oper} (S:World→Prop) (p1:eD) (fl:List Nat) (p2:eD) (n2:Nat) (hm:P.follows .mixedOrders=true) (hB:aiz .any l.toArray p1 fl p2 n2=true) (hS:S w.drew)
  (h:bR P l.toArray S (ag Q) (aji P l.toArray S (ag Q) fl (bR P l.toArray S (ag Q) (fun a'' w''=>wpList P l.toArray (ag Q) (l.drop n2) a'' w'') p2)) p1 a w.drew):(Code.region id l.toArray true).wp P Q a w:=by
 refine nE (wp_region_any hm ?_)
 simp only [aiz,Bool.and_eq_true,decide_eq_true_eq] at hB
 obtain ⟨⟨⟨⟨⟨hsel,hn'⟩,hlen⟩,hs⟩,hc⟩,htk⟩:=hB
 have hl:n2<l.length:=by simpa using hn'
 have hdl:(l.drop n2).length=l.toArray.size-n2:=by simp
 have inv0:HeadInv .any l.toArray n2 (Array.replicate l.toArray.size false):=
  ⟨by simp,fun j oj _ hl=>(by rw [getD_replicate_false] at hl;cases hl),fun t _ ht=>getD_in (by simpa using ht) (getD_replicate_false _ _)⟩
 have hseq:∀ (listed':Array Bool) (a':Act) (w':World),(Region.seqB .any l.toArray (l.toArray.size-n2) n2 listed'=true∧wpList P l.toArray (ag Q) (l.drop n2) a' w')→∀ j∈Region.ready .any l.toArray listed',n2≤j:=fun listed a w hL=>seqB_ready hL.1
 have H:=kR (P:=P) (ops:=l.toArray) (md:=.any) (Q:=ag Q) (S:=S) (n:=n2) (m:=fl.length+p2.len) (B:=ait .any l.toArray n2 fl p2)
  (L:=fun listed' a' w'=>Region.seqB .any l.toArray (l.toArray.size-n2) n2 listed'=true∧wpList P l.toArray (ag Q) (l.drop n2) a' w')
  (Lq:=aji P l.toArray S (ag Q) fl (bR P l.toArray S (ag Q) (fun a'' w''=>wpList P l.toArray (ag Q) (l.drop n2) a'' w'') p2))
  hsel hs hc hn' (fun c a w h=>h) hseq (fun listed a w hB hq=>by
   simp only [ait,Bool.and_eq_true,decide_eq_true_eq] at hB
   obtain ⟨⟨⟨hhd,hnd⟩,hall⟩,hp2⟩:=hB
   obtain ⟨J,hJ0,hS0,hop,hf⟩:=hq
   have e0:=aik fl listed
   have hck:∀ d,(∃ i∈fl,d i=false)→Region.ready .any l.toArray (mkL d fl listed)≠[]∧∀ i∈Region.ready .any l.toArray (mkL d fl listed),i∈fl∧i<n2:=fun d ⟨i,hi,hdi⟩=>by
    obtain ⟨d',h1,h2,_⟩:=aia fl _ hall d
    rw [Bool.or_eq_true] at h1
    rcases h1 with h1 | h1
    ·have:=List.all_eq_true.1 h1 i hi
     rw [h2 i hi,hdi] at this
     cases this
    ·rw [q9 fl listed h2,Bool.and_eq_true] at h1
     refine ⟨fun e=>by rw [e] at h1;exact absurd h1.1 (by decide),fun j hj=>?_⟩
     have:=List.all_eq_true.1 h1.2 j hj
     simpa using this
   have HF:=ah3 (P:=P) (md:=.any) (ops:=l.toArray) (Q:=ag Q) (S:=S) (n:=n2) (m:=p2.len) (l:=fl) (B:=listed) (J:=J)
    (L:=fun listed' a' w'=>Region.seqB .any l.toArray (l.toArray.size-n2) n2 listed'=true∧wpList P l.toArray (ag Q) (l.drop n2) a' w')
    hnd hck hop (fun d a w hd inv hJ hS=>by
     have H2:=kR (P:=P) (ops:=l.toArray) (md:=.any) (Q:=ag Q) (S:=S) (n:=n2) (m:=0) (B:=Region.seqB .any l.toArray (l.toArray.size-n2) n2)
      (L:=fun listed' a' w'=>Region.seqB .any l.toArray (l.toArray.size-n2) n2 listed'=true∧wpList P l.toArray (ag Q) (l.drop n2) a' w')
      (Lq:=fun a'' w''=>wpList P l.toArray (ag Q) (l.drop n2) a'' w'')
      hsel hs hc hn' (fun c a w h=>h) hseq (fun listed a w hB hq=>⟨hB,hq⟩) p2 (mkL d fl listed) a w inv hS (by rw [q9 (d:=d) (d':=fun _=>true) fl listed hd];exact hp2) (hf d a w hd hJ hS)
     exact H2)
    fl.length (fun _=>false) a w (by simp) (by rw [e0];exact ais hhd) hJ0 hS0
   rw [e0] at HF
   exact HF) p1 _ a w.drew inv0 hS htk h
 have H2:=jT (g:=l.toArray.size-n2) (fun listed' a' w' hL=>by
  have:=wpAny_of_seq (md:=.any) (Q':=ag Q) (l.drop n2) n2 listed' a' w' (fun j=>by simp [List.getElem?_drop]) (by rw [hdl];exact hL.1) hL.2
  rwa [hdl] at this) _ _ _ _ H
 have hsz:p1.len+(fl.length+p2.len)+(l.toArray.size-n2)=l.toArray.size:=by
  have:l.toArray.size=l.length:=by simp
  omega
 rw [hsz] at H2
 exact H2
end Go.Proofs.YtglncfkoohgdaaaGreatDoor
