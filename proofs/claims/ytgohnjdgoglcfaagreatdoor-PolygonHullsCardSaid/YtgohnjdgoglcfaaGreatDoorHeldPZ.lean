import Derived.Test.YtgohnjdgoglcfaaGreatDoorStillZ
namespace Go.Proofs.YtgohnjdgoglcfaaGreatDoor
open Go.RowKit
section
variable {P:Program} {md:Region.Mode} {ops:Array Oper} {Q:Exit→Act→World→Prop} {S:World→Prop}
def wpPh (P:Program) (ops:Array Oper) (S:World→Prop) (Q:Exit→Act→World→Prop) (Lq:Act→World→Prop):List (Bool × Nat)→Act→World→Prop
 | [],a,w=>Lq a w
 | (true,i) :: rest,a,w=>∃ o v,ops[i]?=some o∧YieldsIf P ops S o v a∧wpPh P ops S Q Lq rest (a.put o.dst v) w
 | (false,i) :: rest,a,w=>∃ o,ops[i]?=some o∧Region.wanted o (yielded ops a.tmps)=true∧o.wp P a w (fun a' w'=>S w'∧wpPh P ops S Q Lq rest a' w') Q
theorem wpPh_take {Lq:Act→World→Prop} {a:Act} {w:World} {i:Nat} {rest:List (Bool × Nat)} {o:Oper} (hi:ops[i]?=some o) (v:Value) (hw:Region.wanted o (yielded ops a.tmps)=true) (hv:∀ w,S w→(execOp a.eval o).run P w=.ok (.value v) w)
  (h:wpPh P ops S Q Lq rest (a.put o.dst v) w):wpPh P ops S Q Lq ((true,i) :: rest) a w:=⟨o,v,hi,.inl ⟨hw,hv⟩,h⟩
theorem wpPh_skip {Lq:Act→World→Prop} {a:Act} {w:World} {i:Nat} {rest:List (Bool × Nat)} {o:Oper} (hi:ops[i]?=some o) (hw:Region.wanted o (yielded ops a.tmps)=false)
  (h:wpPh P ops S Q Lq rest (a.put o.dst undef) w):wpPh P ops S Q Lq ((true,i) :: rest) a w:=⟨o,undef,hi,.inr ⟨hw,rfl⟩,h⟩
theorem wpPh_keep {Lq:Act→World→Prop} {a:Act} {w:World} {i:Nat} {rest:List (Bool × Nat)} {o:Oper} (hi:ops[i]?=some o) (hw:Region.wanted o (yielded ops a.tmps)=true)
  (h:∀ K:Act→World→Prop,(∀ a w,S w∧wpPh P ops S Q Lq rest a w→K a w)→o.wp P a w K Q):wpPh P ops S Q Lq ((false,i) :: rest) a w:=⟨o,hi,hw,h _ fun _ _ h=>h⟩
def phB (md:Region.Mode) (ops:Array Oper) (n:Nat) (B:Array Bool→Bool):List (Bool × Nat)→Array Bool→Bool
 | [],listed=>B listed
 | (true,k) :: rest,listed=>decide (k<n) && (Region.ready md ops listed).contains k && Region.free md ops listed k && phB md ops n B rest (listed.setIfInBounds k true)
 | (false,k) :: rest,listed=>decide (k<n) && decide (Region.ready md ops listed=[k]) && phB md ops n B rest (listed.setIfInBounds k true)
theorem wpHL_ph {n m:Nat} {B:Array Bool→Bool} {L:Array Bool→Act→World→Prop} {Lq:Act→World→Prop} (hsel:Region.noSelect ops=true) (hs:Region.sinkB md ops n=true) (hc:Region.chainB md ops n=true) (hn:n<ops.size)
  (hQ:∀ c a w,¬ Q (.panic c) a w) (hdone:∀ listed a w,L listed a w→∀ j∈Region.ready md ops listed,n≤j)
  (hfin:∀ listed a w,B listed=true→Lq a w→wpHL P md ops Q S n L m listed a w) :
  ∀ (l:List (Bool × Nat)) (listed:Array Bool) (a:Act) (w:World),HeadInv md ops n listed→S w →
  phB md ops n B l listed=true→wpPh P ops S Q Lq l a w→wpHL P md ops Q S n L (l.length+m) listed a w
 | [],listed,a,w,inv,hS,hB,h=>by
  rw [List.length_nil,Nat.zero_add]
  exact hfin _ _ _ hB h
 | (true,k) :: l,listed,a,w,inv,hS,hB,h=>by
  simp only [phB,Bool.and_eq_true,decide_eq_true_eq] at hB
  obtain ⟨⟨⟨hkn,hr⟩,hf⟩,hB'⟩:=hB
  have hr':k∈Region.ready md ops listed:=by simpa using hr
  obtain ⟨o,v,h0,hy,hK⟩:=h
  rw [List.length_cons,show l.length+1+m=(l.length+m)+1 by omega]
  exact wpHL_first h0 (Region.noSelect_spec hsel) (fun c a w h=>absurd h (hQ _ _ _)) hs hc hn hkn hdone (l.length+m) listed a w inv (Region.free_spec h0 hf) hr' hy hS
   (wpHL_ph hsel hs hc hn hQ hdone hfin l _ _ w (inv.set hr' hkn) hS hB' hK)
 | (false,k) :: l,listed,a,w,inv,hS,hB,h=>by
  simp only [phB,Bool.and_eq_true,decide_eq_true_eq] at hB
  obtain ⟨⟨hkn,hr⟩,hB'⟩:=hB
  obtain ⟨o,h0,hw,ho⟩:=h
  have hr':k∈Region.ready md ops listed:=by rw [hr];simp
  rw [List.length_cons,show l.length+1+m=(l.length+m)+1 by omega]
  refine ⟨by rw [hr];simp,fun i hi=>?_⟩
  rw [hr] at hi
  have hik:i=k:=by simpa using hi
  subst hik
  refine ⟨hkn,?_⟩
  unfold wpOp
  simp only [h0]
  rw [if_pos hw]
  exact .inl (Oper.wp_mono (fun a' w' h'=>⟨h'.1,wpHL_ph hsel hs hc hn hQ hdone hfin l _ a' w' (inv.set hr' hkn) h'.1 hB' h'.2⟩) ho)
end
def heldPB (md:Region.Mode) (ops:Array Oper) (ph:List (Bool × Nat)) (n2:Nat):Bool:=
 Region.noSelect ops && decide (n2<ops.size) && decide (ph.length=n2) && Region.sinkB md ops n2 && Region.chainB md ops n2 && phB md ops n2 (Region.seqB md ops (ops.size-n2) n2) ph (Array.replicate ops.size false)
theorem wpAny_held_ph {P:Program} {Q:Exit→Act→World→Prop} {a:Act} {w:World} {l:List Oper} (S:World→Prop) (ph:List (Bool × Nat)) (n2:Nat) (hB:heldPB .any l.toArray ph n2=true) (hS:S w)
  (h:wpPh P l.toArray S (NormalOnly Q) (fun a'' w''=>wpList P l.toArray (NormalOnly Q) (l.drop n2) a'' w'') ph a w) :
  wpAny P .any l.toArray (NormalOnly Q) l.toArray.size (Array.replicate l.toArray.size false) a w:=by
 simp only [heldPB,Bool.and_eq_true,decide_eq_true_eq] at hB
 obtain ⟨⟨⟨⟨⟨hsel,hn'⟩,hlen⟩,hs⟩,hc⟩,htk⟩:=hB
 have hl:n2<l.length:=by simpa using hn'
 have hdl:(l.drop n2).length=l.toArray.size-n2:=by simp
 have inv0:HeadInv .any l.toArray n2 (Array.replicate l.toArray.size false):=
  ⟨by simp,fun j oj _ hl=>(by rw [getD_replicate_false] at hl;cases hl),fun t _ ht=>getD_in (by simpa using ht) (getD_replicate_false _ _)⟩
 have H:=wpHL_ph (P:=P) (ops:=l.toArray) (md:=.any) (Q:=NormalOnly Q) (S:=S) (n:=n2) (m:=0) (B:=Region.seqB .any l.toArray (l.toArray.size-n2) n2)
  (L:=fun listed' a' w'=>Region.seqB .any l.toArray (l.toArray.size-n2) n2 listed'=true∧wpList P l.toArray (NormalOnly Q) (l.drop n2) a' w')
  (Lq:=fun a'' w''=>wpList P l.toArray (NormalOnly Q) (l.drop n2) a'' w'')
  hsel hs hc hn' (fun c a w h=>h) (fun listed a w hL=>seqB_ready hL.1) (fun listed a w hB hq=>⟨hB,hq⟩) ph _ a w inv0 hS htk h
 have H2:=wpAny_of_HL (g:=l.toArray.size-n2) (fun listed a' w' hL=>by
  have:=wpAny_of_seq (md:=.any) (Q':=NormalOnly Q) (l.drop n2) n2 listed a' w' (fun j=>by simp [List.getElem?_drop]) (by rw [hdl];exact hL.1) hL.2
  rwa [hdl] at this) _ _ _ _ H
 have hsz:ph.length+0+(l.toArray.size-n2)=l.toArray.size:=by
  have:l.toArray.size=l.length:=by simp
  omega
 rw [hsz] at H2
 exact H2
theorem wp_held_ph {P:Program} {id:Nat} {Q:Exit→Act→World→Prop} {a:Act} {w:World} {l:List Oper} (S:World→Prop) (ph:List (Bool × Nat)) (n2:Nat) (hm:P.follows .mixedOrders=true) (hB:heldPB .any l.toArray ph n2=true) (hS:S w.drew)
  (h:wpPh P l.toArray S (NormalOnly Q) (fun a'' w''=>wpList P l.toArray (NormalOnly Q) (l.drop n2) a'' w'') ph a w.drew):(Code.region id l.toArray true).wp P Q a w:=
 wp_normalOnly (wp_region_any hm (wpAny_held_ph S ph n2 hB hS h))
end Go.Proofs.YtgohnjdgoglcfaaGreatDoor
