import Derived.Test.YtogdahbbogimcaaGreatDoorStillZ
namespace Go.Proofs.YtogdahbbogimcaaGreatDoor
open Go.RowKit
inductive HPlan where
 | fin:HPlan
 | take (k:Nat) (p:HPlan):HPlan
 | one (k:Nat) (p:HPlan):HPlan
 | two (k:Nat) (p:HPlan) (j:Nat) (q:HPlan):HPlan
def HPlan.len:HPlan→Nat
 | .fin=>0
 | .take _ p=>p.len+1
 | .one _ p=>p.len+1
 | .two _ p _ _=>p.len+1
section
variable {P:Program} {md:Region.Mode} {ops:Array Oper} {Q:Exit→Act→World→Prop} {S:World→Prop}
def wpPl (P:Program) (ops:Array Oper) (S:World→Prop) (Q:Exit→Act→World→Prop) (Lq:Act→World→Prop):HPlan→Act→World→Prop
 | .fin,a,w=>Lq a w
 | .take i rest,a,w=>∃ o v,ops[i]?=some o∧YieldsIf P ops S o v a∧wpPl P ops S Q Lq rest (a.put o.dst v) w
 | .one i rest,a,w=>∃ o,ops[i]?=some o∧Region.wanted o (yielded ops a.tmps)=true∧o.wp P a w (fun a' w'=>S w'∧wpPl P ops S Q Lq rest a' w') Q
 | .two i r1 j r2,a,w=>(∃ o,ops[i]?=some o∧Region.wanted o (yielded ops a.tmps)=true∧o.wp P a w (fun a' w'=>S w'∧wpPl P ops S Q Lq r1 a' w') Q)∧(∃ o,ops[j]?=some o∧Region.wanted o (yielded ops a.tmps)=true∧o.wp P a w (fun a' w'=>S w'∧wpPl P ops S Q Lq r2 a' w') Q)
theorem wpPl_take {Lq:Act→World→Prop} {a:Act} {w:World} {i:Nat} {rest:HPlan} {o:Oper} (hi:ops[i]?=some o) (v:Value) (hw:Region.wanted o (yielded ops a.tmps)=true) (hv:∀ w,S w→(execOp a.eval o).run P w=.ok (.value v) w)
  (h:wpPl P ops S Q Lq rest (a.put o.dst v) w):wpPl P ops S Q Lq (.take i rest) a w:=⟨o,v,hi,.inl ⟨hw,hv⟩,h⟩
theorem wpPl_skip {Lq:Act→World→Prop} {a:Act} {w:World} {i:Nat} {rest:HPlan} {o:Oper} (hi:ops[i]?=some o) (hw:Region.wanted o (yielded ops a.tmps)=false)
  (h:wpPl P ops S Q Lq rest (a.put o.dst undef) w):wpPl P ops S Q Lq (.take i rest) a w:=⟨o,undef,hi,.inr ⟨hw,rfl⟩,h⟩
theorem wpPl_keep {Lq:Act→World→Prop} {a:Act} {w:World} {i:Nat} {rest:HPlan} {o:Oper} (hi:ops[i]?=some o) (hw:Region.wanted o (yielded ops a.tmps)=true)
  (h:∀ K:Act→World→Prop,(∀ a w,S w∧wpPl P ops S Q Lq rest a w→K a w)→o.wp P a w K Q):wpPl P ops S Q Lq (.one i rest) a w:=⟨o,hi,hw,h _ fun _ _ h=>h⟩
theorem wpPl_two {Lq:Act→World→Prop} {a:Act} {w:World} {i j:Nat} {r1 r2:HPlan} (h1:wpPl P ops S Q Lq (.one i r1) a w) (h2:wpPl P ops S Q Lq (.one j r2) a w):wpPl P ops S Q Lq (.two i r1 j r2) a w:=⟨h1,h2⟩
def planB (md:Region.Mode) (ops:Array Oper) (n:Nat) (B:Array Bool→Bool):HPlan→Array Bool→Bool
 | .fin,listed=>B listed
 | .take k rest,listed=>decide (k<n) && (Region.ready md ops listed).contains k && Region.free md ops listed k && planB md ops n B rest (listed.setIfInBounds k true)
 | .one k rest,listed=>decide (k<n) && decide (Region.ready md ops listed=[k]) && planB md ops n B rest (listed.setIfInBounds k true)
 | .two k p j q,listed=>decide (k<n) && decide (j<n) && (decide (Region.ready md ops listed=[k,j]) || decide (Region.ready md ops listed=[j,k])) && decide (q.len=p.len) && planB md ops n B p (listed.setIfInBounds k true) && planB md ops n B q (listed.setIfInBounds j true)
theorem wpHL_pl {n m:Nat} {B:Array Bool→Bool} {L:Array Bool→Act→World→Prop} {Lq:Act→World→Prop} (hsel:Region.noSelect ops=true) (hs:Region.sinkB md ops n=true) (hc:Region.chainB md ops n=true) (hn:n<ops.size)
  (hQ:∀ c a w,¬ Q (.panic c) a w) (hdone:∀ listed a w,L listed a w→∀ j∈Region.ready md ops listed,n≤j)
  (hfin:∀ listed a w,B listed=true→Lq a w→wpHL P md ops Q S n L m listed a w) :
  ∀ (l:HPlan) (listed:Array Bool) (a:Act) (w:World),HeadInv md ops n listed→S w →
  planB md ops n B l listed=true→wpPl P ops S Q Lq l a w→wpHL P md ops Q S n L (l.len+m) listed a w
 | .fin,listed,a,w,inv,hS,hB,h=>by
  rw [HPlan.len,Nat.zero_add]
  exact hfin _ _ _ hB h
 | .take k l,listed,a,w,inv,hS,hB,h=>by
  simp only [planB,Bool.and_eq_true,decide_eq_true_eq] at hB
  obtain ⟨⟨⟨hkn,hr⟩,hf⟩,hB'⟩:=hB
  have hr':k∈Region.ready md ops listed:=by simpa using hr
  obtain ⟨o,v,h0,hy,hK⟩:=h
  rw [HPlan.len,show l.len+1+m=(l.len+m)+1 by omega]
  exact wpHL_first h0 (Region.noSelect_spec hsel) (fun c a w h=>absurd h (hQ _ _ _)) hs hc hn hkn hdone (l.len+m) listed a w inv (Region.free_spec h0 hf) hr' hy hS
   (wpHL_pl hsel hs hc hn hQ hdone hfin l _ _ w (inv.set hr' hkn) hS hB' hK)
 | .one k l,listed,a,w,inv,hS,hB,h=>by
  simp only [planB,Bool.and_eq_true,decide_eq_true_eq] at hB
  obtain ⟨⟨hkn,hr⟩,hB'⟩:=hB
  obtain ⟨o,h0,hw,ho⟩:=h
  have hr':k∈Region.ready md ops listed:=by rw [hr];simp
  rw [HPlan.len,show l.len+1+m=(l.len+m)+1 by omega]
  refine ⟨by rw [hr];simp,fun i hi=>?_⟩
  rw [hr] at hi
  have hik:i=k:=by simpa using hi
  subst hik
  refine ⟨hkn,?_⟩
  unfold wpOp
  simp only [h0]
  rw [if_pos hw]
  exact .inl (Oper.wp_mono (fun a' w' h'=>⟨h'.1,wpHL_pl hsel hs hc hn hQ hdone hfin l _ a' w' (inv.set hr' hkn) h'.1 hB' h'.2⟩) ho)
 | .two k p j q,listed,a,w,inv,hS,hB,h=>by
  simp only [planB,Bool.and_eq_true,Bool.or_eq_true,decide_eq_true_eq] at hB
  obtain ⟨⟨⟨⟨⟨hkn,hjn⟩,hr⟩,hlen⟩,hB1⟩,hB2⟩:=hB
  obtain ⟨⟨o1,g1,hw1,ho1⟩,⟨o2,g2,hw2,ho2⟩⟩:=h
  have hmem:∀ i,i∈Region.ready md ops listed↔i=k∨i=j:=fun i=>by
   rcases hr with hr | hr <;> rw [hr] <;> simp [or_comm]
  have hk':=(hmem k).2 (.inl rfl)
  have hj':=(hmem j).2 (.inr rfl)
  rw [HPlan.len,show p.len+1+m=(p.len+m)+1 by omega]
  refine ⟨List.ne_nil_of_mem hk',fun i hi=>?_⟩
  rcases (hmem i).1 hi with rfl | rfl
  ·refine ⟨hkn,?_⟩
   unfold wpOp
   simp only [g1]
   rw [if_pos hw1]
   exact .inl (Oper.wp_mono (fun a' w' h'=>⟨h'.1,wpHL_pl hsel hs hc hn hQ hdone hfin p _ a' w' (inv.set hk' hkn) h'.1 hB1 h'.2⟩) ho1)
  ·refine ⟨hjn,?_⟩
   unfold wpOp
   simp only [g2]
   rw [if_pos hw2,←hlen]
   exact .inl (Oper.wp_mono (fun a' w' h'=>⟨h'.1,wpHL_pl hsel hs hc hn hQ hdone hfin q _ a' w' (inv.set hj' hjn) h'.1 hB2 h'.2⟩) ho2)
end
def heldQB (md:Region.Mode) (ops:Array Oper) (ph:HPlan) (n2:Nat):Bool:=
 Region.noSelect ops && decide (n2<ops.size) && decide (ph.len=n2) && Region.sinkB md ops n2 && Region.chainB md ops n2 && planB md ops n2 (Region.seqB md ops (ops.size-n2) n2) ph (Array.replicate ops.size false)
theorem wpAny_held_pl {P:Program} {Q:Exit→Act→World→Prop} {a:Act} {w:World} {l:List Oper} (S:World→Prop) (ph:HPlan) (n2:Nat) (hB:heldQB .any l.toArray ph n2=true) (hS:S w)
  (h:wpPl P l.toArray S (NormalOnly Q) (fun a'' w''=>wpList P l.toArray (NormalOnly Q) (l.drop n2) a'' w'') ph a w) :
  wpAny P .any l.toArray (NormalOnly Q) l.toArray.size (Array.replicate l.toArray.size false) a w:=by
 simp only [heldQB,Bool.and_eq_true,decide_eq_true_eq] at hB
 obtain ⟨⟨⟨⟨⟨hsel,hn'⟩,hlen⟩,hs⟩,hc⟩,htk⟩:=hB
 have hl:n2<l.length:=by simpa using hn'
 have hdl:(l.drop n2).length=l.toArray.size-n2:=by simp
 have inv0:HeadInv .any l.toArray n2 (Array.replicate l.toArray.size false):=
  ⟨by simp,fun j oj _ hl=>(by rw [getD_replicate_false] at hl;cases hl),fun t _ ht=>getD_in (by simpa using ht) (getD_replicate_false _ _)⟩
 have H:=wpHL_pl (P:=P) (ops:=l.toArray) (md:=.any) (Q:=NormalOnly Q) (S:=S) (n:=n2) (m:=0) (B:=Region.seqB .any l.toArray (l.toArray.size-n2) n2)
  (L:=fun listed' a' w'=>Region.seqB .any l.toArray (l.toArray.size-n2) n2 listed'=true∧wpList P l.toArray (NormalOnly Q) (l.drop n2) a' w')
  (Lq:=fun a'' w''=>wpList P l.toArray (NormalOnly Q) (l.drop n2) a'' w'')
  hsel hs hc hn' (fun c a w h=>h) (fun listed a w hL=>seqB_ready hL.1) (fun listed a w hB hq=>⟨hB,hq⟩) ph _ a w inv0 hS htk h
 have H2:=wpAny_of_HL (g:=l.toArray.size-n2) (fun listed a' w' hL=>by
  have:=wpAny_of_seq (md:=.any) (Q':=NormalOnly Q) (l.drop n2) n2 listed a' w' (fun j=>by simp [List.getElem?_drop]) (by rw [hdl];exact hL.1) hL.2
  rwa [hdl] at this) _ _ _ _ H
 have hsz:ph.len+0+(l.toArray.size-n2)=l.toArray.size:=by
  have:l.toArray.size=l.length:=by simp
  omega
 rw [hsz] at H2
 exact H2
theorem wp_held_pl {P:Program} {id:Nat} {Q:Exit→Act→World→Prop} {a:Act} {w:World} {l:List Oper} (S:World→Prop) (ph:HPlan) (n2:Nat) (hm:P.follows .mixedOrders=true) (hB:heldQB .any l.toArray ph n2=true) (hS:S w.drew)
  (h:wpPl P l.toArray S (NormalOnly Q) (fun a'' w''=>wpList P l.toArray (NormalOnly Q) (l.drop n2) a'' w'') ph a w.drew):(Code.region id l.toArray true).wp P Q a w:=
 wp_normalOnly (wp_region_any hm (wpAny_held_pl S ph n2 hB hS h))
end Go.Proofs.YtogdahbbogimcaaGreatDoor
