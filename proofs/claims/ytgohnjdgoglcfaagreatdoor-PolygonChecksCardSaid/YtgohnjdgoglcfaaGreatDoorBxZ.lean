import Derived.Test.YtgohnjdgoglcfaaGreatDoorTxZ
import Derived.Test.YtgohnjdgoglcfaaGreatDoorStillZ
import Derived.Test.YtgohnjdgoglcfaaGreatDoorPol6Z
import Derived.Test.YtgohnjdgoglcfaaGreatDoorHul1Z
namespace Go.Proofs.YtgohnjdgoglcfaaGreatDoor
open Go.RowKit
theorem blk_cell {W:World} {B i:Nat} {cs:Array Value} {t:TypeId} {fz:Nat × Nat} {v:Value} (h:W.heap[B]?=some (.cells cs t fz)) (hi:cs[i]?=some v):W.cell? ⟨B,i,none⟩=some v:=by
 simp [World.cell?,h,hi]
theorem box_any {w wA:World} {cs:Array Value} {t:TypeId} (hwA:wA=w.alloc (Obj.cells cs t)):Below w.heap.size w wA∧wA.heap[w.heap.size]?=some (.cells cs t (0,0)):=by
 rw [hwA]
 exact ⟨alloc_below _ _,World.alloc_heap_new _ _⟩
section
variable {P:Program} {md:Region.Mode} {ops:Array Oper} {Q:Exit→Act→World→Prop} {S:World→Prop}
def wpPh (P:Program) (ops:Array Oper) (S:World→Prop) (Q:Exit→Act→World→Prop) (Lq:Act→World→Prop):List (Bool × Nat)→Act→World→Prop
 | [],a,w=>Lq a w
 | (true,i) :: rest,a,w=>∃ o v,ops[i]?=some o∧YieldsIf P ops S o v a∧wpPh P ops S Q Lq rest (a.put o.dst v) w
 | (false,i) :: rest,a,w=>∃ o,ops[i]?=some o∧Region.wanted o (yielded ops a.tmps)=true∧o.wp P a w (fun a' w'=>S w'∧wpPh P ops S Q Lq rest a' w') Q
theorem wpPh_take {Lq:Act→World→Prop} {a:Act} {w:World} {i:Nat} {rest:List (Bool × Nat)} {o:Oper} (hi:ops[i]?=some o) (v:Value) (hw:Region.wanted o (yielded ops a.tmps)=true) (hv:∀ w,S w→(execOp a.eval o).run P w=.ok (.value v) w)
  (h:wpPh P ops S Q Lq rest (a.put o.dst v) w):wpPh P ops S Q Lq ((true,i) :: rest) a w:=⟨o,v,hi,.inl ⟨hw,hv⟩,h⟩
theorem wpPh_skip {Lq:Act→World→Prop} {a:Act} {w:World} {i:Nat} {rest:List (Bool × Nat)} {o:Oper} (hi:ops[i]?=some o) (hw:Region.wanted o (yielded ops a.tmps)=false)
  (h:wpPh P ops S Q Lq rest (a.put o.dst undef) w):wpPh P ops S Q Lq ((true,i) :: rest) a w:=⟨o,undef,hi,.inr ⟨hw,rfl⟩,h⟩
theorem wpPh_keep {Lq:Act→World→Prop} {a:Act} {w:World} {i:Nat} {rest:List (Bool × Nat)} {o:Oper} (hi:ops[i]?=some o) (hw:Region.wanted o (yielded ops a.tmps)=true)
  (h:∀ K:Act→World→Prop,(∀ a w,S w∧wpPh P ops S Q Lq rest a w→K a w)→o.wp P a w K Q):wpPh P ops S Q Lq ((false,i) :: rest) a w:=⟨o,hi,hw,h _ fun _ _ h=>h⟩
def phB (md:Region.Mode) (ops:Array Oper) (n:Nat) (B:Array Bool→Bool):List (Bool × Nat)→Array Bool→Bool
 | [],listed=>B listed
 | (true,k) :: rest,listed=>decide (k<n) && (Region.ready md ops listed).contains k && Region.free md ops listed k && phB md ops n B rest (listed.setIfInBounds k true)
 | (false,k) :: rest,listed=>decide (k<n) && decide (Region.ready md ops listed=[k]) && phB md ops n B rest (listed.setIfInBounds k true)
theorem wpHL_ph {n m:Nat} {B:Array Bool→Bool} {L:Array Bool→Act→World→Prop} {Lq:Act→World→Prop} (hsel:Region.noSelect ops=true) (hs:Region.sinkB md ops n=true) (hc:Region.chainB md ops n=true) (hn:n<ops.size)
  (hQ:∀ c a w,¬ Q (.panic c) a w) (hdone:∀ listed a w,L listed a w→∀ j∈Region.ready md ops listed,n≤j)
  (hfin:∀ listed a w,B listed=true→Lq a w→wpHL P md ops Q S n L m listed a w) :
  ∀ (l:List (Bool × Nat)) (listed:Array Bool) (a:Act) (w:World),HeadInv md ops n listed→S w →
  phB md ops n B l listed=true→wpPh P ops S Q Lq l a w→wpHL P md ops Q S n L (l.length+m) listed a w
 | [],listed,a,w,inv,hS,hB,h=>by
  rw [List.length_nil,Nat.zero_add]
  exact hfin _ _ _ hB h
 | (true,k) :: l,listed,a,w,inv,hS,hB,h=>by
  simp only [phB,Bool.and_eq_true,decide_eq_true_eq] at hB
  obtain ⟨⟨⟨hkn,hr⟩,hf⟩,hB'⟩:=hB
  have hr':k∈Region.ready md ops listed:=by simpa using hr
  obtain ⟨o,v,h0,hy,hK⟩:=h
  rw [List.length_cons,show l.length+1+m=(l.length+m)+1 by omega]
  exact wpHL_first h0 (Region.noSelect_spec hsel) (fun c a w h=>absurd h (hQ _ _ _)) hs hc hn hkn hdone (l.length+m) listed a w inv (Region.free_spec h0 hf) hr' hy hS
   (wpHL_ph hsel hs hc hn hQ hdone hfin l _ _ w (inv.set hr' hkn) hS hB' hK)
 | (false,k) :: l,listed,a,w,inv,hS,hB,h=>by
  simp only [phB,Bool.and_eq_true,decide_eq_true_eq] at hB
  obtain ⟨⟨hkn,hr⟩,hB'⟩:=hB
  obtain ⟨o,h0,hw,ho⟩:=h
  have hr':k∈Region.ready md ops listed:=by rw [hr];simp
  rw [List.length_cons,show l.length+1+m=(l.length+m)+1 by omega]
  refine ⟨by rw [hr];simp,fun i hi=>?_⟩
  rw [hr] at hi
  have hik:i=k:=by simpa using hi
  subst hik
  refine ⟨hkn,?_⟩
  unfold wpOp
  simp only [h0]
  rw [if_pos hw]
  exact .inl (Oper.wp_mono (fun a' w' h'=>⟨h'.1,wpHL_ph hsel hs hc hn hQ hdone hfin l _ a' w' (inv.set hr' hkn) h'.1 hB' h'.2⟩) ho)
end
def heldPB (md:Region.Mode) (ops:Array Oper) (ph:List (Bool × Nat)) (n2:Nat):Bool:=
 Region.noSelect ops && decide (n2<ops.size) && decide (ph.length=n2) && Region.sinkB md ops n2 && Region.chainB md ops n2 && phB md ops n2 (Region.seqB md ops (ops.size-n2) n2) ph (Array.replicate ops.size false)
theorem wpAny_held_ph {P:Program} {Q:Exit→Act→World→Prop} {a:Act} {w:World} {l:List Oper} (S:World→Prop) (ph:List (Bool × Nat)) (n2:Nat) (hB:heldPB .any l.toArray ph n2=true) (hS:S w)
  (h:wpPh P l.toArray S (NormalOnly Q) (fun a'' w''=>wpList P l.toArray (NormalOnly Q) (l.drop n2) a'' w'') ph a w) :
  wpAny P .any l.toArray (NormalOnly Q) l.toArray.size (Array.replicate l.toArray.size false) a w:=by
 simp only [heldPB,Bool.and_eq_true,decide_eq_true_eq] at hB
 obtain ⟨⟨⟨⟨⟨hsel,hn'⟩,hlen⟩,hs⟩,hc⟩,htk⟩:=hB
 have hl:n2<l.length:=by simpa using hn'
 have hdl:(l.drop n2).length=l.toArray.size-n2:=by simp
 have inv0:HeadInv .any l.toArray n2 (Array.replicate l.toArray.size false):=
  ⟨by simp,fun j oj _ hl=>(by rw [getD_replicate_false] at hl;cases hl),fun t _ ht=>getD_in (by simpa using ht) (getD_replicate_false _ _)⟩
 have H:=wpHL_ph (P:=P) (ops:=l.toArray) (md:=.any) (Q:=NormalOnly Q) (S:=S) (n:=n2) (m:=0) (B:=Region.seqB .any l.toArray (l.toArray.size-n2) n2)
  (L:=fun listed' a' w'=>Region.seqB .any l.toArray (l.toArray.size-n2) n2 listed'=true∧wpList P l.toArray (NormalOnly Q) (l.drop n2) a' w')
  (Lq:=fun a'' w''=>wpList P l.toArray (NormalOnly Q) (l.drop n2) a'' w'')
  hsel hs hc hn' (fun c a w h=>h) (fun listed a w hL=>seqB_ready hL.1) (fun listed a w hB hq=>⟨hB,hq⟩) ph _ a w inv0 hS htk h
 have H2:=wpAny_of_HL (g:=l.toArray.size-n2) (fun listed a' w' hL=>by
  have:=wpAny_of_seq (md:=.any) (Q':=NormalOnly Q) (l.drop n2) n2 listed a' w' (fun j=>by simp [List.getElem?_drop]) (by rw [hdl];exact hL.1) hL.2
  rwa [hdl] at this) _ _ _ _ H
 have hsz:ph.length+0+(l.toArray.size-n2)=l.toArray.size:=by
  have:l.toArray.size=l.length:=by simp
  omega
 rw [hsz] at H2
 exact H2
theorem wp_held_ph {P:Program} {id:Nat} {Q:Exit→Act→World→Prop} {a:Act} {w:World} {l:List Oper} (S:World→Prop) (ph:List (Bool × Nat)) (n2:Nat) (hm:P.follows .mixedOrders=true) (hB:heldPB .any l.toArray ph n2=true) (hS:S w.drew)
  (h:wpPh P l.toArray S (NormalOnly Q) (fun a'' w''=>wpList P l.toArray (NormalOnly Q) (l.drop n2) a'' w'') ph a w.drew):(Code.region id l.toArray true).wp P Q a w:=
 wp_normalOnly (wp_region_any hm (wpAny_held_ph S ph n2 hB hS h))
end Go.Proofs.YtgohnjdgoglcfaaGreatDoor
namespace Go.Proofs.YtgohnjdgoglcfaaGreatDoor
def Fd (M c:Nat) (q:Rat):Prop:=∃ a:Int,a.natAbs≤M∧q*(c:Rat)=(a:Rat)
theorem Fd.mono {M c M':Nat} {q:Rat} (h:Fd M c q) (h1:M≤M'):Fd M' c q:=by
 obtain ⟨a,h2,h3⟩:=h
 exact ⟨a,Nat.le_trans h2 h1,h3⟩
theorem Fd.wide {M c:Nat} {q:Rat} (h:Fd M c q) {d D:Nat} (hd:d≤D):Fd (M*D) (c*d) q:=by
 obtain ⟨a,h2,h3⟩:=h
 refine ⟨a*d,?_,?_⟩
 ·rw [Int.natAbs_mul,Int.natAbs_natCast]
  exact Nat.mul_le_mul h2 hd
 ·rw [Rat.natCast_mul,Rat.intCast_mul,Rat.intCast_natCast,←h3,Rat.mul_assoc]
theorem Fd.wide' {M c:Nat} {q:Rat} (h:Fd M c q) {d D:Nat} (hd:d≤D):Fd (M*D) (d*c) q:=by rw [Nat.mul_comm d];exact h.wide hd
theorem Fd.add {M c M':Nat} {p q:Rat} (h:Fd M c p) (k:Fd M' c q):Fd (M+M') c (p+q):=by
 obtain ⟨a,h2,h3⟩:=h
 obtain ⟨b,k2,k3⟩:=k
 refine ⟨a+b,?_,?_⟩
 ·have:=Int.natAbs_add_le a b
  omega
 ·rw [Rat.intCast_add,←h3,←k3];grind
theorem Fd.neg {M c:Nat} {q:Rat} (h:Fd M c q):Fd M c (-q):=by
 obtain ⟨a,h2,h3⟩:=h
 exact ⟨-a,by rw [Int.natAbs_neg];exact h2,by rw [Rat.intCast_neg,←h3,Rat.neg_mul]⟩
theorem Fd.sub {M c M':Nat} {p q:Rat} (h:Fd M c p) (k:Fd M' c q):Fd (M+M') c (p-q):=by
 rw [Rat.sub_eq_add_neg]
 exact h.add k.neg
theorem Fd.mul {M c M' c':Nat} {p q:Rat} (h:Fd M c p) (k:Fd M' c' q):Fd (M*M') (c*c') (p*q):=by
 obtain ⟨a,h2,h3⟩:=h
 obtain ⟨b,k2,k3⟩:=k
 refine ⟨a*b,?_,?_⟩
 ·rw [Int.natAbs_mul]
  exact Nat.mul_le_mul h2 k2
 ·rw [Rat.natCast_mul,Rat.intCast_mul,←h3,←k3]
  grind
theorem Fd.own (q:Rat):Fd q.num.natAbs q.den q:=by
 obtain ⟨a,_,h3⟩:=Fc.own q
 have h1:q.num/q.den=q:=by
  have:=Rat.num_divInt_den q
  rw [Rat.divInt_eq_div] at this
  exact this
 refine ⟨q.num,Nat.le_refl _,?_⟩
 conv=>lhs;lhs;rw [←h1]
 exact Rat.div_mul_cancel (fun e=>by rw [Rat.natCast_eq_zero_iff] at e;exact q.den_nz e)
theorem Fd.parts {M c:Nat} {q:Rat} (h:Fd M c q) (hc:0<c):q.num.natAbs≤M∧q.den≤c:=by
 obtain ⟨a,h2,h3⟩:=h
 have hc0:(c:Rat)≠0:=fun e=>by rw [Rat.natCast_eq_zero_iff] at e;omega
 have e:q=mkRat a c:=by rw [Rat.mkRat_eq_div,←h3,Rat.mul_div_cancel hc0]
 rw [e]
 obtain ⟨m1,m2⟩:=mkRat_le a c hc
 exact ⟨Nat.le_trans m1 h2,m2⟩
theorem Fd.quot {M N c:Nat} {p q:Rat} (h:Fd M c p) (k:Fd N c q) (hc:0<c) (hq:q≠0):(p*q⁻¹).num.natAbs≤M∧(p*q⁻¹).den≤N:=by
 obtain ⟨a,h2,h3⟩:=h
 obtain ⟨b,k2,k3⟩:=k
 have hc0:(c:Rat)≠0:=fun e=>by rw [Rat.natCast_eq_zero_iff] at e;omega
 have hb:b≠0:=fun e=>by
  rw [e] at k3
  rcases Rat.mul_eq_zero.1 (k3.trans rfl) with h | h
  ·exact hq h
  ·exact hc0 h
 have hpos:0<b.natAbs:=Int.natAbs_pos.2 hb
 have hN:((b.natAbs:Nat):Rat)≠0:=fun e=>by rw [Rat.natCast_eq_zero_iff] at e;omega
 have hs:((b.sign:Int):Rat)*(b.natAbs:Rat)=(b:Rat):=by
  rw [←Rat.intCast_natCast,←Rat.intCast_mul,Int.sign_mul_natAbs]
 have hss:((b.sign:Int):Rat)*((b.sign:Int):Rat)=1:=by
  rcases Int.lt_or_gt_of_ne hb with h | h
  ·rw [Int.sign_eq_neg_one_of_neg h];decide +kernel
  ·rw [Int.sign_eq_one_of_pos h];decide +kernel
 have e:p*q⁻¹=mkRat (b.sign*a) b.natAbs:=by
  rw [Rat.mkRat_eq_div]
  have h4:p*q⁻¹*((b.natAbs:Nat):Rat)=((b.sign*a:Int):Rat):=by
   have hqi:=Rat.mul_inv_cancel _ hq
   rw [Rat.intCast_mul,←h3]
   have h5:(b.natAbs:Rat)=((b.sign:Int):Rat)*(q*(c:Rat)):=by
    rw [k3,←hs,←Rat.mul_assoc,hss,Rat.one_mul]
   rw [h5]
   grind
  rw [←h4,Rat.mul_div_cancel hN]
 rw [e]
 obtain ⟨m1,m2⟩:=mkRat_le (b.sign*a) b.natAbs hpos
 refine ⟨Nat.le_trans m1 ?_,Nat.le_trans m2 k2⟩
 rw [Int.natAbs_mul]
 have:b.sign.natAbs=1:=Int.natAbs_sign_of_ne_zero hb
 rw [this,Nat.one_mul]
 exact h2
theorem fd_two {A E:Nat} {p q:Rat} (hp:p.num.natAbs≤A) (hq:q.num.natAbs≤A) (kp:p.den≤E) (kq:q.den≤E):∃ c,0<c∧c≤E*E∧Fd (A*E) c p∧Fd (A*E) c q:=
 ⟨p.den*q.den,Nat.mul_pos p.den_pos q.den_pos,Nat.mul_le_mul kp kq,((Fd.own p).mono hp).wide kq,((Fd.own q).mono hq).wide' kp⟩
theorem fd_crs {P E F C ex ey cx cy:Nat} {p q a:Rat × Rat} (hp1:Fd P ex p.1) (hq1:Fd P ex q.1) (hp2:Fd P ey p.2) (hq2:Fd P ey q.2) (ha1:Fd F cx a.1) (ha2:Fd F cy a.2)
  (he1:ex≤E) (he2:ey≤E) (hc1:cx≤C) (hc2:cy≤C) :
  Fd ((P+P)*(F*E+P*C)*(E*(C*E))+(P+P)*(F*E+P*C)*(E*(C*E))) (ex*(cy*ey)*(ey*(cx*ex))) (crs p q a):=by
 have h1:=(hq1.sub hp1).mul ((ha2.wide he2).sub (hp2.wide' hc2))
 have h2:=(hq2.sub hp2).mul ((ha1.wide he1).sub (hp1.wide' hc1))
 unfold crs
 exact (h1.wide (Nat.mul_le_mul he2 (Nat.mul_le_mul hc1 he1))).sub (h2.wide' (Nat.mul_le_mul he1 (Nat.mul_le_mul hc2 he2)))
theorem fd_val {P E F ex ey da db dc:Nat} {p:Rat × Rat} {a b c:Rat} (hp1:Fd P ex p.1) (hp2:Fd P ey p.2) (ha:Fd F da a) (hb:Fd F db b) (hc:Fd F dc c)
  (he1:ex≤E) (he2:ey≤E) (h1:da≤F) (h2:db≤F) (h3:dc≤F) :
  Fd ((F*P*(F*E)+F*P*(F*E))*F+F*(F*E*(F*E))) (da*ex*(db*ey)*dc) (valP a b c p):=by
 have k1:=(ha.mul hp1).wide (Nat.mul_le_mul h2 he2)
 have k2:=(hb.mul hp2).wide' (Nat.mul_le_mul h1 he1)
 have k3:=(k1.add k2).wide h3
 exact k3.sub (hc.wide' (Nat.mul_le_mul (Nat.mul_le_mul h1 he1) (Nat.mul_le_mul h2 he2)))
theorem fd_cut {P E M ex C:Nat} {x y u v:Rat} (hx:Fd P ex x) (hy:Fd P ex y) (hu:Fd M C u) (hv:Fd M C v) (he:ex≤E) (h0:0<ex) (hC:0<C) (hne:u-v≠0) :
  (x+u/(u-v)*(y-x)).num.natAbs≤M*P+M*P∧(x+u/(u-v)*(y-x)).den≤(M+M)*E:=by
 have e:x+u/(u-v)*(y-x)=(u*y-v*x)*(u-v)⁻¹:=by
  rw [Rat.div_def]
  have:=Rat.mul_inv_cancel _ hne
  grind
 rw [e]
 exact ((hu.mul hy).sub (hv.mul hx)).quot ((hu.sub hv).wide he) (Nat.mul_pos hC h0) hne
end Go.Proofs.YtgohnjdgoglcfaaGreatDoor
