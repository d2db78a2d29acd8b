import Derived.Test.YtgohnjdgoglcfaaGreatDoorU2Z
import Derived.RangeFuncBox
set_option maxRecDepth 100000
set_option maxHeartbeats 8000000
namespace Go.Proofs.YtgohnjdgoglcfaaGreatDoor
open Go.RowKit Go.Shelf
open Go.Lib (decDigits itoa nDigits)
attribute [local go_sem] Oper.semAt_some
def AxA (a:Act) (B p1 p2 j1 j2 bo:Nat) (P:List QP) (k:Nat) (a':Act) (W:World):Prop:=
 ∃ B1 B2,B≤B1∧B≤B2∧W.heap[B1]?=some (.cells #[.string (tx (pt P k).1),.string (tx (pt P k).2)] 31 (0,0))∧W.heap[B2]?=some (.cells #[.string (tx (pt P (nxI P.length k)).1),.string (tx (pt P (nxI P.length k)).2)] 31 (0,0)) ∧
  (∀ (ov:Value) (g:Nat),W.heap[bo]?=some (slBox ov)→ov.ownBlock=some g→g≠B1∧g≠B2) ∧
  a'={ tmps:=(((a.tmps.setIfInBounds p1 (ptV (pt P k))).setIfInBounds p2 (ptV (pt P (nxI P.length k)))).setIfInBounds j1 (.pointer (some ⟨B1,0,none⟩))).setIfInBounds j2 (.pointer (some ⟨B2,0,none⟩)),defers:=[] }
theorem AxA.kept {a:Act} {B p1 p2 j1 j2 bo:Nat} {P:List QP} {k:Nat} {a':Act} {W W':World} {row:Option Nat} (h:AxA a B p1 p2 j1 j2 bo P k a' W) (hbo:bo<B) (hg:W.grownBy W' row)
  (hr:∀ r,row=some r→B≤r∧∃ o:Obj,W.heap[r]?=some o∧o.isCells=false):AxA a B p1 p2 j1 j2 bo P k a' W':=by
 obtain ⟨B1,B2,h1,h2,h3,h4,h5,h6⟩:=h
 have hlt:=lt_of_blk h3
 refine ⟨B1,B2,h1,h2,cells_kept hg hr h3,cells_kept hg hr h4,fun ov g hb hv=>h5 ov g ?_ hv,h6⟩
 rw [←hb]
 exact (hg.block _ (by omega) fun e=>by have:=(hr _ e.symm).1;omega).symm
theorem wpIn_rangeFunc_sideA {F:Fence} {n:Nat} {P:Program} {g:Operand} {ps:Array Tmp} {assign body:Code} {Q:Exit→Act→World→Prop} {a:Act} {w:World} (p1 p2 j1 j2 bo:Nat) (hbo:bo<w.heap.size) (P2:List QP)
  (hro:F.round=none) (h1:1≤n) {gf:Nat} {lb:Array Value} (hg:a.eval g=.func (.func gf) #[] lb) (hFg:F.fn gf) (eg:∀ args w,(callFunc gf args).run P w=.ok (.enter gf args) w)
  {Kp:World→World→Prop} {w0:World} {T:TypeId} (hseq:SeqAt T F (n-1) P gf lb (sideE P2) Kp (List.range P2.length) w0)
  (hKt:∀ {A B C:World},Kp A B→Kp B C→Kp A C) (hKb:∀ (W:World) (l:Nat) (o o':Obj),w.heap.size≤l→W.heap[l]?=some o→o.isCells=false→o.isWalk=false→Kp W (W.putObj l o')) (hb0:Below w0.heap.size w0 w) (hps:∀ k,(sideE P2 k).size=ps.size)
  (I:Nat→World→Prop) (Ix:Code→Nat→World→Prop) (hI:OwnT T w.heap.size I) (hIx:∀ c,OwnT T w.heap.size (Ix c)) (h0:I 0 w)
  (hassign:∀ (l k:Nat) (_:k<P2.length) (W:World) (K:Act→World→Prop),I k W→(∀ a' W',KeepsFrom w.heap.size W W'→Kp W W'→I k W'→AxA a w.heap.size p1 p2 j1 j2 bo P2 k a' W'→K a' W') →
   assign.wpIn (F.inRound l) (n-1-1) P (Exit.then K (fun _ _ _=>False)) { tmps:=(ps.zip (sideE P2 k)).foldl (fun t (p,v)=>t.setIfInBounds p v) a.tmps,defers:=[] } W)
  (hbody:∀ (l k:Nat) (_:k<P2.length) (a':Act) (W:World),w.heap.size≤l→I k W→AxA a w.heap.size p1 p2 j1 j2 bo P2 k a' W→body.wpIn (F.inRound l) (n-1-1) P (RoundAt w.heap.size Kp I Ix k W) a' W)
  (hdone:∀ (Dk:Nat) (W:World),w.heap.size≤Dk→I P2.length W→W.heap[Dk]?=some (.deferred (some []))→Q .normal { a with defers:={ target:=.collected Dk,args:=#[] } :: a.defers } W)
  (hstop:∀ (Dk:Nat) (c:Code) (k:Nat) (W:World),w.heap.size≤Dk→k<P2.length→Ix c k W→W.heap[Dk]?=some (.deferred (some []))→c.wpIn F n P Q { a with defers:={ target:=.collected Dk,args:=#[] } :: a.defers } W) :
  (Code.rangeFunc g ps assign body).wpIn F n P Q a w:=by
 have hl:(List.range P2.length).length=P2.length:=List.length_range
 refine wpIn_rangeFunc_at (Q:=Q) hro h1 hg hFg eg hseq hKt hKb hb0 hps I Ix hI hIx h0 (AxA a w.heap.size p1 p2 j1 j2 bo P2)
  (fun k a' _ X Y row hs hg hr=>hs.kept hbo hg hr) ?_ ?_ ?_ ?_
 ·intro l k hk W K hi hK
  rw [List.getElem_range]
  exact hassign l k (by omega) W K hi hK
 ·intro l k hk a' W hl' _ hi hx
  exact hbody l k (by omega) a' W hl' hi hx
 ·intro Dk W hD hi hK
  rw [hl] at hi
  exact hdone Dk W hD hi hK
 ·intro Dk c k W hD hk hi hK
  exact hstop Dk c k W hD (by omega) hi hK
theorem push_all {W w1:World} {s0 s1 k m:Nat} {v v':Value} {xs ys:List Value} {tmp:Obj} (hv:W.heap[s0]?=some (slBox v)) (hrow:W.ownsRow s1 31 2 v k xs) (h01:s0<s1) (hs:s1≤W.heap.size)
  (hown':w1.ownsRow s1 31 2 v' m ys) (hgrow:(W.alloc tmp).grownBy w1 v.ownBlock) :
  w1.heap[s0]?=some (slBox v)∧(w1.setCell ⟨s0,0,none⟩ v').heap[s0]?=some (slBox v')∧(w1.setCell ⟨s0,0,none⟩ v').ownsRow s1 31 2 v' m ys∧KeepsOthers W (w1.setCell ⟨s0,0,none⟩ v')∧Below s0 W (w1.setCell ⟨s0,0,none⟩ v') ∧
  (∀ j,j≠s0→j<W.heap.size→some j≠v.ownBlock→(w1.setCell ⟨s0,0,none⟩ v').heap[j]?=W.heap[j]?):=by
 have one1:∀ k,k<W.heap.size→some k≠v.ownBlock→w1.heap[k]?=W.heap[k]?:=fun k hkl hkr=>by
  rw [hgrow.block k (by simp;omega) hkr]
  exact (alloc_below W tmp).block k hkl
 have hg1:∀ g,v.ownBlock=some g→s1≤g:=fun g hg=>(hrow.lt g hg).1
 have hg2:∀ g,v'.ownBlock=some g→s1≤g:=fun g hg=>(hown'.lt g hg).1
 have h0:w1.heap[s0]?=some (slBox v):=(one1 s0 (by omega) (fun e=>by have:=hg1 _ e.symm;omega)).trans hv
 have one:∀ j,j≠s0→j<W.heap.size→some j≠v.ownBlock→(w1.setCell ⟨s0,0,none⟩ v').heap[j]?=W.heap[j]?:=fun j hj hjl hjr=>by
  rw [Below.heap_setCell _ _ _ j hj]
  exact one1 j hjl hjr
 have hko:KeepsOthers W w1:=(KeepsOthers.alloc W tmp).trans (KeepsOthers.of_grownBy hgrow (fun j o hj ho=>by
  rcases hrow.2 with ⟨rfl,_⟩ | ⟨g',cap,cur,rfl,hb,hgb,_⟩
  ·simp [Value.ownBlock] at hj
  ·obtain rfl:g'=j:=by simpa [Value.ownBlock] using hj
   rw [(alloc_below W tmp).block g' (lt_of_blk hgb),hgb] at ho
   cases ho
   rfl))
 have hbl:Below s0 W w1:=((alloc_below W tmp).mono (by omega)).grown hgrow (by simp;omega) (fun g hg=>by have:=hg1 g hg;omega)
 refine ⟨h0,?_,?_,hko.trans (KeepsOthers.setCell _ _ _),hbl.setCell (p:=⟨s0,0,none⟩) (Nat.le_refl _) _,one⟩
 ·have:=set_block (i:=0) v' h0
  exact this
 ·refine ⟨hown'.1,?_⟩
  rcases hown'.2 with h | ⟨g,cap,cur,e1,e2,e3,r⟩
  ·exact .inl h
  ·exact .inr ⟨g,cap,cur,e1,e2,by rw [Below.heap_setCell _ _ _ g (by show g≠s0;omega)];exact e3,r⟩
def someB (f:QP→Rat) (P:List QP):Nat→Bool
 | 0=>false
 | k+1=>someB f P k || decide (0<f (pt P k))
theorem someB_iff (f:QP→Rat) (P:List QP):∀ k,someB f P k=true↔∃ i,i<k∧0<f (pt P i)
 | 0=>⟨fun h=>Bool.noConfusion h,fun ⟨_,h,_⟩=>absurd h (Nat.not_lt_zero _)⟩
 | k+1=>by
  show (someB f P k || decide (0<f (pt P k)))=true↔_
  rw [Bool.or_eq_true,someB_iff f P k,decide_eq_true_iff]
  constructor
  ·rintro (⟨i,h1,h2⟩ | h)
   ·exact ⟨i,by omega,h2⟩
   ·exact ⟨k,by omega,h⟩
  ·rintro ⟨i,h1,h2⟩
   rcases (show i<k∨i=k by omega) with e | e
   ·exact .inl ⟨i,e,h2⟩
   ·rw [e] at h2;exact .inr h2
structure KpInv (wS:World) (b5:Nat) (f:QP→Rat) (P:List QP) (k:Nat) (W:World):Prop where
 low:Below b5 wS W
 box:W.heap[b5+1+1]?=wS.heap[b5+1+1]?
 out:∃ ov,W.heap[b5]?=some (slBox ov)∧W.ownsRow wS.heap.size 31 2 ov (cycTo (emit f) P k).length (cellsS ((cycTo (emit f) P k).map textP))
 flg:W.heap[b5+1]?=some (.cells #[.bool (someB f P k)] 4 (0,0))
 sz:wS.heap.size≤W.heap.size
theorem KpInv.own {wS:World} {b5:Nat} {f:QP→Rat} {P:List QP} (hp:b5+1+1<wS.heap.size):OwnT 64 wS.heap.size (KpInv wS b5 f P):=by
 intro k X Y row ⟨h1,h2,⟨ov,h3,h4⟩,h5,h6⟩ hg hr
 have keep:∀ j,j<wS.heap.size→Y.heap[j]?=X.heap[j]?:=fun j hj=>hg.block _ (by omega) fun e=>by have:=(hr _ e.symm).1;omega
 exact ⟨below_keptT h1 (by omega) (by omega) hg hr,(keep _ hp).trans h2,⟨ov,(keep _ (by omega)).trans h3,ownsRow_keptT hg hr h4 (by decide)⟩,(keep _ (by omega)).trans h5,Nat.le_trans h6 hg.size⟩
theorem KpInv.below {wS W W':World} {b5:Nat} {f:QP→Rat} {P:List QP} {k:Nat} (h:KpInv wS b5 f P k W) (hp:b5+1+1<wS.heap.size) (hb:Below W.heap.size W W'):KpInv wS b5 f P k W':=by
 obtain ⟨h1,h2,⟨ov,h3,h4⟩,h5,h6⟩:=h
 exact ⟨h1.trans (hb.mono (by omega)),(hb.block _ (by omega)).trans h2,⟨ov,(hb.block _ (by omega)).trans h3,owns_below h4 hb⟩,(hb.block _ (by omega)).trans h5,Nat.le_trans h6 hb.size⟩
structure KpMid (wS W:World) (b5:Nat) (L:List QP) (sb:Bool) (Y:World):Prop where
 low:Below b5 W Y
 ko:KeepsOthers W Y
 bp:Y.heap[b5+1+1]?=W.heap[b5+1+1]?
 out:∃ ov,Y.heap[b5]?=some (slBox ov)∧Y.ownsRow wS.heap.size 31 2 ov L.length (cellsS (L.map textP))
 flg:Y.heap[b5+1]?=some (.cells #[.bool sb] 4 (0,0))
 sz:wS.heap.size≤Y.heap.size
theorem KpInv.mid {wS W:World} {b5:Nat} {f:QP→Rat} {P:List QP} {k:Nat} (h:KpInv wS b5 f P k W):KpMid wS W b5 (cycTo (emit f) P k) (someB f P k) W:=
 ⟨Below.refl _ _,KeepsOthers.refl _,rfl,h.out,h.flg,h.sz⟩
theorem KpMid.below {wS W Y Y':World} {b5:Nat} {L:List QP} {sb:Bool} (h:KpMid wS W b5 L sb Y) (hp:b5+1+1<wS.heap.size) (hb:Below Y.heap.size Y Y'):KpMid wS W b5 L sb Y':=by
 obtain ⟨h1,h2,h3,⟨ov,h4,h5⟩,h6,h7⟩:=h
 exact ⟨h1.trans (hb.mono (by omega)),h2.trans ⟨hb.size,fun j o ho _=>(hb.block j (lt_of_some ho)).trans ho⟩,(hb.block _ (by omega)).trans h3,⟨ov,(hb.block _ (by omega)).trans h4,owns_below h5 hb⟩,(hb.block _ (by omega)).trans h6,Nat.le_trans h7 hb.size⟩
theorem KpMid.push {wS W Y w1:World} {b5:Nat} {L:List QP} {sb:Bool} {ov v':Value} {xs:List Value} {tmp:Obj} (h:KpMid wS W b5 L sb Y) (hp:b5+1+1<wS.heap.size) (hov:Y.heap[b5]?=some (slBox ov)) (hrow:Y.ownsRow wS.heap.size 31 2 ov L.length (cellsS (L.map textP)))
  (p:QP) (hown':w1.ownsRow wS.heap.size 31 2 v' (L.length+1) xs) (hxs:xs=cellsS ((L ++ [p]).map textP)) (hgrow:(Y.alloc tmp).grownBy w1 ov.ownBlock):KpMid wS W b5 (L ++ [p]) sb (w1.setCell ⟨b5,0,none⟩ v'):=by
 obtain ⟨h1,h2,h3,_,h6,h7⟩:=h
 have hg1:∀ g,ov.ownBlock=some g→wS.heap.size≤g:=fun g hg=>(hrow.lt g hg).1
 obtain ⟨k1,k2,k3,k4,k5,k6⟩:=push_all hov hrow (by omega) h7 hown' hgrow
 subst hxs
 refine ⟨h1.trans k5,h2.trans k4,(k6 _ (by omega) (by omega) (fun e=>by have:=hg1 _ e.symm;omega)).trans h3,⟨v',k2,by rw [List.length_append,List.length_singleton];exact k3⟩,(k6 _ (by omega) (by omega) (fun e=>by have:=hg1 _ e.symm;omega)).trans h6,Nat.le_trans h7 k4.size |> fun h=>by have:=k5.size;omega⟩
theorem KpMid.flag {wS W Y:World} {b5:Nat} {L:List QP} {sb:Bool} (h:KpMid wS W b5 L sb Y) (hp:b5+1+1<wS.heap.size) (b:Bool):KpMid wS W b5 L b (Y.setCell ⟨b5+1,0,none⟩ (.bool b)):=by
 obtain ⟨h1,h2,h3,⟨ov,h4,h5⟩,h6,h7⟩:=h
 have one:∀ j,j≠b5+1→(Y.setCell ⟨b5+1,0,none⟩ (.bool b)).heap[j]?=Y.heap[j]?:=fun j hj=>Below.heap_setCell _ _ _ j hj
 refine ⟨h1.setCell (p:=⟨b5+1,0,none⟩) (by show b5≤b5+1;omega) _,h2.trans (KeepsOthers.setCell _ _ _),(one _ (by omega)).trans h3,⟨ov,(one _ (by omega)).trans h4,?_⟩,set_block (.bool b) h6,by simpa [World.setCell] using h7⟩
 refine ⟨h5.1,?_⟩
 rcases h5.2 with e | ⟨g,cap,cur,e1,e2,e3,r⟩
 ·exact .inl e
 ·exact .inr ⟨g,cap,cur,e1,e2,(one g (by omega)).trans e3,r⟩
theorem KpMid.round {wS W Y:World} {b5 n₀:Nat} {f:QP→Rat} {P:List QP} {k:Nat} {a:Act} {Ix:Code→Nat→World→Prop} (h:KpMid wS W b5 (cycTo (emit f) P (k+1)) (someB f P (k+1)) Y) (hi:KpInv wS b5 f P k W) (hn:n₀≤b5):RoundAt wS.heap.size (KeepQ n₀ (b5+1+1)) (KpInv wS b5 f P) Ix k W .normal a Y:=
 ⟨h.ko.from _,⟨h.low.mono hn,h.bp⟩,⟨hi.low.trans h.low,h.bp.trans hi.box,h.out,h.flg,h.sz⟩⟩
theorem cycTo_len (f:QP→Rat) (P:List QP):∀ k,(cycTo (emit f) P k).length≤2*k
 | 0=>Nat.le_refl _
 | k+1=>by
  have:=cycTo_len f P k
  show (cycTo (emit f) P k++emit f (pt P k) (pt P (nxI P.length k))).length≤_
  rw [List.length_append]
  have h2:(emit f (pt P k) (pt P (nxI P.length k))).length≤2:=by
   unfold emit
   rw [List.length_append]
   split <;> split <;> simp
  omega
theorem emit_cases (f:QP→Rat) (P:List QP) (k:Nat):cycTo (emit f) P (k+1)=cycTo (emit f) P k++((if 0≤f (pt P k) then [pt P k] else [])++(if f (pt P k)*f (pt P (nxI P.length k))<0 then [towP (pt P k) (pt P (nxI P.length k)) (f (pt P k)/(f (pt P k)-f (pt P (nxI P.length k))))] else [])):=rfl
theorem cell_two_new (w:World) (a b:Value) (t:TypeId):∀ (j:Nat) (u:Value),[a,b][j]?=some u→(w.alloc (.cells #[a,b] t)).cell? ((⟨w.heap.size,0,none⟩ : Addr).add j)=some u:=by
 intro j u hj
 rw [addr_add,World.cell?_alloc_new]
 simpa using hj
end Go.Proofs.YtgohnjdgoglcfaaGreatDoor
namespace Go.Proofs.YtgohnjdgoglcfaaGreatDoor
open Go.RowKit Go.Shelf
open Go.Lib (decDigits itoa nDigits)
open Go.Lib (hid)
attribute [local go_sem] Oper.semAt_some
def KeepPost (f:QP→Rat) (P:List QP) (w:World) (e:Ending) (w':World):Prop:=
 ∃ r,e=.returned r∧Below w.heap.size w w'∧((someB f P P.length=true∧Pts w' r (clipL f P))∨(someB f P P.length=false∧r=.slice none 0 0))
def KeepPostT (f:QP→Rat) (P:List QP) (w:World) (e:Ending) (w':World):Prop:=
 ∃ r,e=.returned r∧Below w.heap.size w w'∧((someB f P P.length=true∧Pts w' r (clipL f P)∧w'.ownsRow w.heap.size 31 2 r (clipL f P).length (cellsS ((clipL f P).map textP)))∨(someB f P P.length=false∧r=.slice none 0 0))
theorem boxes_keep {w wA:World} {fv:Value} {tf:TypeId} (hwA:wA=((w.alloc (Obj.cells #[fv] tf)).alloc (Obj.cells #[.slice none 0 0] 22)).alloc (Obj.cells #[.bool false] 4)) :
  Below w.heap.size w wA∧wA.heap.size=w.heap.size+1+1+1∧wA.heap[w.heap.size]?=some (.cells #[fv] tf (0,0))∧wA.heap[w.heap.size+1]?=some (slBox (.slice none 0 0))∧wA.heap[w.heap.size+1+1]?=some (.cells #[.bool false] 4 (0,0)):=by
 have e1:=World.alloc_heap_new w (Obj.cells #[fv] tf)
 have e2:=World.alloc_heap_new (w.alloc (Obj.cells #[fv] tf)) (Obj.cells #[.slice none 0 0] 22)
 have e3:=World.alloc_heap_new ((w.alloc (Obj.cells #[fv] tf)).alloc (Obj.cells #[.slice none 0 0] 22)) (Obj.cells #[.bool false] 4)
 have b1:=alloc_below w (Obj.cells #[fv] tf)
 have b2:=alloc_below (w.alloc (Obj.cells #[fv] tf)) (Obj.cells #[.slice none 0 0] 22)
 have b3:=alloc_below ((w.alloc (Obj.cells #[fv] tf)).alloc (Obj.cells #[.slice none 0 0] 22)) (Obj.cells #[.bool false] 4)
 rw [hwA]
 refine ⟨b1.trans ((b2.trans (b3.mono b2.size)).mono b1.size),by simp,?_,?_,by simpa using e3⟩
 ·rw [b3.block _ (by simp;omega),b2.block _ (by simp)];exact e1
 ·rw [b3.block _ (by simp)];simpa [slBox] using e2
theorem pg_keep_inT (ff:Nat) (lb:Array Value) (heg:∀ args w,(callFunc ff args).run Tryz.prog w=.ok (.enter ff args) w) (f:QP→Rat) (P:List QP) (hP0:0<P.length) (h60:P.length≤60) (hz:∀ p∈P,Sz2 100000 p) (hf:∀ p∈P,Sz 100000 (f p))
  (v:Value) (w:World) (hw:Good w) (hv:Pts w v P) (hex:∀ p∈P,∀ W',Good W'→Below w.heap.size w W'→Calls Tryz.prog ff (#[ptV p]++lb) W' (RV (.string (tx (f p))) W')) :
  CallsIn Fence.wide 9 Tryz.prog 86 #[v,.func (.func ff) #[] lb] w (KeepPostT f P w):=by
 have HEX:=hid hex
 have HZ:=hid hz
 have HFZ:=hid hf
 have HSD:=hid (fun p m c W=>pg_sides 8 p m c W)
 have HV:=hid hv
 obtain ⟨p,c,rfl,hcl,hcm⟩:=hv.slice
 clear hz hf hv hex
 obtain ⟨wA,hwA⟩ : ∃ wA,wA=((w.alloc (Obj.cells #[.func (.func ff) #[] lb] 109)).alloc (Obj.cells #[.slice none 0 0] 22)).alloc (Obj.cells #[.bool false] 4):=⟨_,rfl⟩
 have HWA:=hid hwA
 obtain ⟨hbA,hsA,x3,x5,x6⟩:=boxes_keep hwA
 have HX:=hid (And.intro x3 (And.intro x5 x6))
 refine callsIn_of_wp_marks Tryz.func86 rfl trivial ?_ rfl
 simp only [Tryz.ntmps86,List.size_toArray,List.length_cons,List.length_nil,Nat.reduceAdd,Nat.reduceSub,Array.replicate_succ,Array.replicate_zero,List.push_toArray,List.append_toArray,List.nil_append,List.cons_append]
 have HSA:=hid hsA
 clear hwA x3 x5 x6 hsA
 gi_wp2
 rw [←HWA.out]
 refine ⟨trivial,?_⟩
 refine (HSD.out p P.length c wA).mono ?_
 rintro e wS ⟨rfl,hwS⟩
 have hbS:Below wA.heap.size wA wS:=by rw [hwS];exact alloc_below _ _
 have hsS:wS.heap.size=wA.heap.size+1:=by rw [hwS];simp
 have hxS:wS.heap[wA.heap.size]?=some (slBox (.slice p P.length c)):=by rw [hwS];exact World.alloc_heap_new _ _
 have hsA:=HSA.out
 rw [hsA] at hxS hsS
 have HXS:=hid hxS
 have hbwS:=hbA.trans (hbS.mono hbA.size)
 have hAS:w.heap.size+1+1+1<wS.heap.size:=by omega
 have y3:=(hbS.block _ (by omega)).trans HX.out.1
 have y5:=(hbS.block _ (by omega)).trans HX.out.2.1
 have y6:=(hbS.block _ (by omega)).trans HX.out.2.2
 have HY:=hid (And.intro y3 (And.intro y5 y6))
 clear hwS hxS hsS hsA HX HWA y3 y5 y6
 gi_wp2
 rw [HSA.out]
 refine wpIn_rangeFunc_sideA (n:=9) 15 16 7 8 (w.heap.size+1) (by omega) P rfl (by decide) (gf:=112) (lb:=#[.pointer (some ⟨w.heap.size+1+1+1,0,none⟩)]) rfl trivial (enters_of Tryz.func112 (by kernel_rfl) rfl)
  (sides_at 64 8 (by decide) (w.heap.size+1+1+1) w P _ HV.out hP0 (by omega) wS hbwS HXS.out)
  KeepQ.trans (KeepQ.put (by omega) hAS) (Below.refl _ _) (fun _=>rfl)
  (KpInv wS (w.heap.size+1) f P) (fun _ _ _=>False) (KpInv.own hAS) (fun _ _ _ _ _ hs _ _=>hs)
  ⟨Below.refl _ _,rfl,⟨_,HY.out.2.1,World.ownsRow_nil _ _ _ _⟩,HY.out.2.2,Nat.le_refl _⟩ ?assign ?body ?done ?stop
 case assign =>
  intro l k hk W K hi hK
  have hsz:=hi.sz
  simp only [sideE,ptV]
  obtain ⟨hbb,b1,b2⟩:=boxes2 (w:=W) (a:=.string (tx (pt P k).1)) (b:=.string (tx (pt P k).2)) (c:=.string (tx (pt P (nxI P.length k)).1)) (d:=.string (tx (pt P (nxI P.length k)).2)) (t:=31) rfl
  have hin:=hi.below hAS hbb
  have hap:∀ (ov:Value) (g:Nat),((W.alloc (Obj.cells #[.string (tx (pt P k).1),.string (tx (pt P k).2)] 31)).alloc (Obj.cells #[.string (tx (pt P (nxI P.length k)).1),.string (tx (pt P (nxI P.length k)).2)] 31)).heap[w.heap.size+1]?=some (slBox ov)→ov.ownBlock=some g→g≠W.heap.size∧g≠W.heap.size+1:=by
   intro ov g hov hg
   obtain ⟨ov',h1,h2⟩:=hi.out
   rw [hbb.block _ (by omega),h1] at hov
   unfold slBox at hov
   simp only [Option.some.injEq,Obj.cells.injEq] at hov
   have he:ov'=ov:=by simpa using hov.1
   rw [←he] at hg
   have:=(h2.lt g hg).2
   omega
  have HBB:=hid hbb
  have HB1:=hid b1
  have HB2:=hid b2
  have HIN:=hid hin
  have HAP:=hid hap
  clear hbb b1 b2 hin hap
  generalize hp1:tx (pt P k).1=p1 at *
  generalize hp2:tx (pt P k).2=p2 at *
  generalize hq1:tx (pt P (nxI P.length k)).1=q1 at *
  generalize hq2:tx (pt P (nxI P.length k)).2=q2 at *
  have HPQ:=hid (And.intro hp1 (And.intro hp2 (And.intro hq1 hq2)))
  clear hp1 hp2 hq1 hq2
  gi_wp2
  obtain ⟨hp1,hp2,hq1,hq2⟩:=HPQ.out
  subst hp1 hp2 hq1 hq2
  exact hK _ _ (keepsFrom_below HBB.out) (KeepQ.of_below HBB.out (by omega) (by omega)) HIN.out ⟨W.heap.size,W.heap.size+1,hsz,by omega,HB1.out,HB2.out,HAP.out,rfl⟩
 case body =>
  rintro l k hk a' W hl hinv ⟨B1,B2,hB1,hB2,hd1,hd2,hap,rfl⟩
  simp only [List.setIfInBounds_toArray,List.set_cons_zero,List.set_cons_succ,ptV]
  have hsW:=hinv.sz
  have hlow:=hinv.low
  have hb0W:Below w.heap.size w W:=hbwS.trans (hlow.mono (by omega))
  have hgW:Good W:=hw.below hb0W
  have HINV:=hid hinv
  have HGW:=hid (fun Y (h:Below (w.heap.size+1) W Y)=>show Good Y from hw.below (hb0W.trans (h.mono (Nat.le_succ _))))
  have y3:W.heap[w.heap.size]?=some (.cells #[.func (.func ff) #[] lb] 109 (0,0)):=(hlow.block _ (by omega)).trans HY.out.1
  obtain ⟨e0,_⟩:=one_cell y3
  have l3:=lt_of_blk y3
  have lb1:=lt_of_blk hd1
  have lb2:=lt_of_blk hd2
  obtain ⟨x0,x1',_,_⟩:=two_cells hd1
  obtain ⟨y0,y1',_,_⟩:=two_cells hd2
  have H1:=hid (fun W' (hb:Below W.heap.size W W')=>HEX.out (pt P k) (pt_mem hk) W' (hgW.below hb) (hb0W.trans (hb.mono hb0W.size)))
  have H2:=hid (fun W' (hb:Below W.heap.size W W')=>HEX.out (pt P (nxI P.length k)) (pt_mem (nxI_lt (by omega))) W' (hgW.below hb) (hb0W.trans (hb.mono hb0W.size)))
  unfold RV at H1 H2
  unfold ptV at H1 H2
  have HAP:=hid hap
  have HD0:=hid (And.intro hd1 hd2)
  have hnl:=nxI_lt (i:=k) (show 0<P.length by omega)
  have fzp:=HFZ.out _ (pt_mem hk)
  have fzq:=HFZ.out _ (pt_mem hnl)
  have HSU:=hid (fun W'=>k_sign (f (pt P k)) (fzp.mono (by decide)) W')
  have HSV:=hid (fun W'=>k_sign (f (pt P (nxI P.length k))) (fzq.mono (by decide)) W')
  have HSB:=hid (fun W' (hg:Good W')=>k_sub (f (pt P k)) (f (pt P (nxI P.length k))) (fzp.mono (by decide)) (fzq.mono (by decide)) W' hg)
  have HDV:=hid (fun (hne:f (pt P k)-f (pt P (nxI P.length k))≠0) W' (hg:Good W')=>k_div (f (pt P k)) (f (pt P k)-f (pt P (nxI P.length k))) hne (fzp.mono (by decide)) ((fzp.sub fzq).mono (by decide)) W' hg)
  have kz:Sz 1000000 (f (pt P k)*(f (pt P k)-f (pt P (nxI P.length k)))⁻¹):=(fzp.div (fzp.sub fzq)).mono (by decide)
  rw [←Rat.div_def] at HDV kz
  have zp:=HZ.out _ (pt_mem hk)
  have zq:=HZ.out _ (pt_mem hnl)
  have HT1:=hid (fun W' (hg:Good W')=>show Calls Tryz.prog 126 _ W' (RV (.string (tx (towP (pt P k) (pt P (nxI P.length k)) (f (pt P k)/(f (pt P k)-f (pt P (nxI P.length k))))).1)) W') from pg_toward (pt P k).1 (pt P (nxI P.length k)).1 _ (zp.1.mono (by decide)) (zq.1.mono (by decide)) kz W' hg)
  have HT2:=hid (fun W' (hg:Good W')=>show Calls Tryz.prog 126 _ W' (RV (.string (tx (towP (pt P k) (pt P (nxI P.length k)) (f (pt P k)/(f (pt P k)-f (pt P (nxI P.length k))))).2)) W') from pg_toward (pt P k).2 (pt P (nxI P.length k)).2 _ (zp.2.mono (by decide)) (zq.2.mono (by decide)) kz W' hg)
  unfold RV at HSU HSV HSB HDV HT1 HT2
  have ht0:((tx (f (pt P k))).toList == [48])=decide (f (pt P k)=0):=(isR_mk (f (pt P k))).zero
  have HEM:=hid (emit_cases f P k)
  have HSO:=hid (show someB f P (k+1)=(someB f P k || decide (0<f (pt P k))) from rfl)
  have HCU:=hid (sgnR_cases (f (pt P k)))
  have HCV:=hid (sgnR_cases (f (pt P (nxI P.length k))))
  have hcyl:=cycTo_len f P k
  clear fzp fzq kz zp zq
  generalize hzt:towP (pt P k) (pt P (nxI P.length k)) (f (pt P k)/(f (pt P k)-f (pt P (nxI P.length k))))=z at *
  generalize tx (f (pt P k)/(f (pt P k)-f (pt P (nxI P.length k))))=tk at *
  generalize tx (f (pt P k)-f (pt P (nxI P.length k)))=ts at *
  generalize hz1:tx z.1=zx at *
  generalize hz2:tx z.2=zy at *
  have HZZ:=hid (And.intro hz1 hz2)
  clear hz1 hz2 hzt
  generalize sgnR (f (pt P k))=su at *
  generalize sgnR (f (pt P (nxI P.length k)))=sv at *
  clear hinv hd1 hd2 hap y3
  generalize hp1:tx (pt P k).1=p1 at *
  generalize hp2:tx (pt P k).2=p2 at *
  generalize hq1:tx (pt P (nxI P.length k)).1=q1 at *
  generalize hq2:tx (pt P (nxI P.length k)).2=q2 at *
  have HPQ:=hid (And.intro hp1 (And.intro hp2 (And.intro hq1 hq2)))
  clear hp1 hp2 hq1 hq2
  generalize hu:tx (f (pt P k))=tu at *
  generalize hvv:tx (f (pt P (nxI P.length k)))=tv at *
  have HUV:=hid (And.intro hu hvv)
  clear hu hvv
  gi_wp2
  refine wpIn_held_list lifts_round (fun W'=>Below W.heap.size W W') [0,1,3,4] [2,5] 6 (by kernel_rfl) (by kernel_rfl) (by kernel_rfl) ⟨rfl,rfl,rfl,Nat.le_refl _,fun _ _=>rfl⟩ ?_
  iterate 4
   refine wpTakeL_step rfl ?_ rfl ?_ ?_
   rotate_left
   ·intro W' hS'
    have s0:=(hS'.cell (p:=⟨B1,0,none⟩) lb1).trans x0
    have s1:=(hS'.cell (p:=⟨B1,1,none⟩) lb1).trans x1'
    have s2:=(hS'.cell (p:=⟨B2,0,none⟩) lb2).trans y0
    have s3:=(hS'.cell (p:=⟨B2,1,none⟩) lb2).trans y1'
    have s4:=(hS'.cell (p:=⟨w.heap.size,0,none⟩) l3).trans e0
    go_simp
    try with_reducible rfl
   try simp only [zA,zB,zC,Act.put,zD,zE,zF]
  have hH0:Below W.heap.size W W.drew:=⟨rfl,rfl,rfl,Nat.le_refl _,fun _ _=>rfl⟩
  refine wpKeepL_step rfl rfl (fun K hK=>?_)
  go_simp
  refine (H1.out _ hH0).mono ?_
  rintro e v1 ⟨rfl,hv1⟩
  have hH1:=hH0.trans (hv1.mono hH0.size)
  refine hK _ _ ⟨hH1,?_⟩
  clear hK K
  try simp only [zA,zB,zC,Act.put,zD,zE,zF]
  refine wpKeepL_step rfl rfl (fun K hK=>?_)
  go_simp
  refine (H2.out _ hH1).mono ?_
  rintro e v2 ⟨rfl,hv2⟩
  have hH2:=hH1.trans (hv2.mono hH1.size)
  refine hK _ _ ⟨hH2,?_⟩
  clear hK K
  try simp only [zA,zB,zC,Act.put,zD,zE,zF]
  unfold wpKeepL
  simp only [List.drop_succ_cons,List.drop_zero]
  have HM2:=hid (HINV.out.mid.below hAS hH2)
  have HD2:=hid (And.intro ((hH2.block _ lb1).trans HD0.out.1) ((hH2.block _ lb2).trans HD0.out.2))
  clear e0 x0 x1' y0 y1' H1 H2
  obtain ⟨i0,hi,hz0,hz1,hz2⟩:=info_parts slPt.info
  have hsu:su = -1∨su=0∨su=1:=by rcases HCU.out with ⟨_,b⟩ | ⟨_,b⟩ | ⟨_,b⟩ <;> omega
  have hsv:sv = -1∨sv=0∨sv=1:=by rcases HCV.out with ⟨_,b⟩ | ⟨_,b⟩ | ⟨_,b⟩ <;> omega
  have hmw:IntKind.i64.wrap (su*sv)=su*sv:=IntWalk.i64_in _ (by
   rcases hsu with h | h | h <;> rcases hsv with h' | h' | h' <;> subst h <;> subst h' <;> decide)
  have HCX:=hid (show f (pt P k)*f (pt P (nxI P.length k))<0↔su*sv<0 by
   rcases HCU.out with ⟨a,b⟩ | ⟨a,b⟩ | ⟨a,b⟩ <;> rcases HCV.out with ⟨a',b'⟩ | ⟨a',b'⟩ | ⟨a',b'⟩ <;> rw [b,b']
   ·have:=Rat.mul_pos (show 0 < -f (pt P k) by grind) (show 0 < -f (pt P (nxI P.length k)) by grind)
    exact ⟨fun h=>by grind,fun h=>absurd h (by decide)⟩
   ·rw [a'];simp
   ·have:=Rat.mul_pos (show 0 < -f (pt P k) by grind) a'
    exact ⟨fun _=>by decide,fun _=>by grind⟩
   ·rw [a];simp
   ·rw [a];simp
   ·rw [a];simp
   ·have:=Rat.mul_pos a (show 0 < -f (pt P (nxI P.length k)) by grind)
    exact ⟨fun _=>by decide,fun _=>by grind⟩
   ·rw [a'];simp
   ·have:=Rat.mul_pos a a'
    exact ⟨fun h=>by grind,fun h=>absurd h (by decide)⟩)
  have HNE:=hid (show su*sv<0→f (pt P k)-f (pt P (nxI P.length k))≠0 from fun h e=>by
   have h2:=HCX.out.2 h
   rw [show f (pt P k)=f (pt P (nxI P.length k)) by grind] at h2
   have:=sq_nn (f (pt P (nxI P.length k)))
   grind)
  clear hsu hsv
  have h60k:k<60:=by omega
  by_cases hu0:su<0
  ·have n1:decide (su≥0)=false:=decide_eq_false (by omega)
   have n2:decide (0≤su)=false:=decide_eq_false (by omega)
   have HE:=hid (show ¬ 0≤f (pt P k) by
    rcases HCU.out with ⟨a,b⟩ | ⟨a,b⟩ | ⟨a,b⟩
    ·grind
    ·omega
    ·omega)
   by_cases hx:su*sv<0
   ·have n3:decide (su*sv<0)=true:=decide_eq_true hx
    have HFIN:=hid (show cycTo (emit f) P (k+1)=cycTo (emit f) P k ++ [z] by rw [HEM.out,if_neg HE.out,if_pos (HCX.out.2 hx)];rfl)
    have HSF:=hid (show someB f P (k+1)=someB f P k by rw [HSO.out,decide_eq_false (fun h=>HE.out (Rat.le_of_lt h)),Bool.or_false])
    have HDV2:=hid (HDV.out (HNE.out hx))
    clear hu0 hx
    gi_wp2
    refine ⟨trivial,?_⟩
    refine (CallsIn.inRound l (callsIn_wide.2 (HSU.out v2))).mono ?_
    rintro e v3 ⟨rfl,hv3⟩
    have HM3:=hid (HM2.out.below hAS hv3)
    have HD3:=hid (And.intro ((hv3.block _ (lt_of_blk HD2.out.1)).trans HD2.out.1) ((hv3.block _ (lt_of_blk HD2.out.2)).trans HD2.out.2))
    gi_wp2
    refine ⟨trivial,?_⟩
    refine (CallsIn.inRound l (callsIn_wide.2 (HSU.out v3))).mono ?_
    rintro e v4 ⟨rfl,hv4⟩
    have HM4:=hid (HM3.out.below hAS hv4)
    have HD4:=hid (And.intro ((hv4.block _ (lt_of_blk HD3.out.1)).trans HD3.out.1) ((hv4.block _ (lt_of_blk HD3.out.2)).trans HD3.out.2))
    gi_wp2
    refine ⟨trivial,?_⟩
    refine (CallsIn.inRound l (callsIn_wide.2 (HSV.out v4))).mono ?_
    rintro e v5 ⟨rfl,hv5⟩
    have HM5:=hid (HM4.out.below hAS hv5)
    have HD5:=hid (And.intro ((hv5.block _ (lt_of_blk HD4.out.1)).trans HD4.out.1) ((hv5.block _ (lt_of_blk HD4.out.2)).trans HD4.out.2))
    gi_wp2
    refine ⟨trivial,?_⟩
    refine (CallsIn.inRound l (callsIn_wide.2 (HSB.out v5 (HGW.out v5 HM5.out.low)))).mono ?_
    rintro e va ⟨rfl,hva⟩
    have HMa:=hid (HM5.out.below hAS hva)
    have HDa:=hid (And.intro ((hva.block _ (lt_of_blk HD5.out.1)).trans HD5.out.1) ((hva.block _ (lt_of_blk HD5.out.2)).trans HD5.out.2))
    gi_wp2
    refine ⟨trivial,?_⟩
    refine (CallsIn.inRound l (callsIn_wide.2 (HDV2.out va (HGW.out va HMa.out.low)))).mono ?_
    rintro e vb ⟨rfl,hvb⟩
    have HMb:=hid (HMa.out.below hAS hvb)
    have HDb:=hid (And.intro ((hvb.block _ (lt_of_blk HDa.out.1)).trans HDa.out.1) ((hvb.block _ (lt_of_blk HDa.out.2)).trans HDa.out.2))
    obtain ⟨ov,hov,hrow⟩:=HMb.out.out
    have hq5:=slBox_cell hov
    have hszc:=HMb.out.sz
    obtain ⟨x0,x1',_,_⟩:=two_cells HDb.out.1
    obtain ⟨y0,y1',_,_⟩:=two_cells HDb.out.2
    have lqb:=lt_of_blk hov
    have lqb1:=lt_of_blk HDb.out.1
    have lqb2:=lt_of_blk HDb.out.2
    gi_wp2
    refine wpIn_held_list lifts_round (fun W'=>Below vb.heap.size vb W') [0,1,2,3,4,5,7,8,9,10,11] [6,12,13,14] 15 (by kernel_rfl) (by kernel_rfl) (by kernel_rfl) ⟨rfl,rfl,rfl,Nat.le_refl _,fun _ _=>rfl⟩ ?_
    iterate 11
     refine wpTakeL_step rfl ?_ rfl ?_ ?_
     rotate_left
     ·intro W' hS'
      have s0:=(hS'.cell (p:=⟨B1,0,none⟩) lqb1).trans x0
      have s1:=(hS'.cell (p:=⟨B1,1,none⟩) lqb1).trans x1'
      have s2:=(hS'.cell (p:=⟨B2,0,none⟩) lqb2).trans y0
      have s3:=(hS'.cell (p:=⟨B2,1,none⟩) lqb2).trans y1'
      have s4:=(hS'.cell (p:=⟨w.heap.size+1,0,none⟩) lqb).trans hq5
      go_simp
      try with_reducible rfl
     try simp only [zA,zB,zC,Act.put,zD,zE,zF]
    have hN0:Below vb.heap.size vb vb.drew:=⟨rfl,rfl,rfl,Nat.le_refl _,fun _ _=>rfl⟩
    refine wpKeepL_step rfl rfl (fun K hK=>?_)
    go_simp
    refine (HT1.out _ ((HGW.out vb HMb.out.low).below hN0)).mono ?_
    rintro e u1 ⟨rfl,hu1⟩
    have hN1:=hN0.trans (hu1.mono hN0.size)
    refine hK _ _ ⟨hN1,?_⟩
    clear hK K
    try simp only [zA,zB,zC,Act.put,zD,zE,zF]
    refine wpKeepL_step rfl rfl (fun K hK=>?_)
    go_simp
    refine (HT2.out _ ((HGW.out vb HMb.out.low).below hN1)).mono ?_
    rintro e u2 ⟨rfl,hu2⟩
    have hN2:=hN1.trans (hu2.mono hN1.size)
    refine hK _ _ ⟨hN2,?_⟩
    clear hK K
    try simp only [zA,zB,zC,Act.put,zD,zE,zF]
    refine wpKeepL_step rfl rfl (fun K hK=>?_)
    go_simp
    refine hK _ _ ⟨hN2,?_⟩
    clear hK K
    try simp only [zA,zB,zC,Act.put,zD,zE,zF]
    refine wpKeepL_step rfl rfl (fun K hK=>?_)
    go_simp
    refine hK _ _ ⟨hN2.trans ((alloc_below _ _).mono hN2.size),?_⟩
    clear hK K
    try simp only [zA,zB,zC,Act.put,zD,zE,zF]
    unfold wpKeepL
    simp only [List.drop_succ_cons,List.drop_zero]
    obtain ⟨vc,hvce⟩ : ∃ vc,vc=u2:=⟨_,rfl⟩
    subst hvce
    have HMc:=hid (HMb.out.below hAS hN2)
    clear x0 x1' y0 y1' hq5 hszc
    replace hrow:=owns_below hrow hN2
    replace hov:=(hN2.block _ lqb).trans hov
    have hszc:=HMc.out.sz
    have HXE:=hid (show cellsS ((cycTo (emit f) P k).map textP) ++ [Value.string zx,.string zy]=cellsS ((cycTo (emit f) P k ++ [z]).map textP) by
     have:=cells_last (cycTo (emit f) P k) z
     rw [HZZ.out.1,HZZ.out.2] at this
     exact this)
    have hLl:(cycTo (emit f) P k).length≤121:=by omega
    refine wpListIn_append_own _ rfl _ _ 22 rfl wS.heap.size 31 i0 (.agg #[.string ⟨#[]⟩,.string ⟨#[]⟩]) 2 32 slPt.ht hi hz0 hz1 hz2 slPt.hzs slPt.hsz _ (cycTo (emit f) P k).length _ rfl (hrow.alloc _) ⟨vc.heap.size,0,none⟩ 1 1 [.string zx,.string zy] rfl rfl (cell_two_new _ _ _ _) (by simp [Value.oneCell']) (by unfold maxLen;omega) (by omega) (by simp;omega) ?_
    intro vz w21 hown21 hgrow _
    obtain ⟨g9,cap9,rfl⟩:=ownsRow_succ hown21
    have hMZ:=HMc.out.push hAS hov hrow z hown21 HXE.out hgrow
    obtain ⟨k1,_,_,_,_,k6⟩:=push_all hov hrow (by omega) hszc hown21 hgrow
    obtain ⟨hc1,hf1⟩:=one_cell (show w21.heap[w.heap.size+1]?=some (.cells #[_] 22 (0,0)) from k1)
    obtain ⟨hfl0,hfl1⟩:=one_cell hMZ.flg
    gi_wp2
    rw [←HFIN.out,←HSF.out] at hMZ
    exact hMZ.round HINV.out (by omega)
   ·have n3:decide (su*sv<0)=false:=decide_eq_false hx
    have HFIN:=hid (show cycTo (emit f) P (k+1)=cycTo (emit f) P k by rw [HEM.out,if_neg HE.out,if_neg (fun h=>hx (HCX.out.1 h))];simp)
    have HSF:=hid (show someB f P (k+1)=someB f P k by rw [HSO.out,decide_eq_false (fun h=>HE.out (Rat.le_of_lt h)),Bool.or_false])
    clear hu0 hx
    gi_wp2
    refine ⟨trivial,?_⟩
    refine (CallsIn.inRound l (callsIn_wide.2 (HSU.out v2))).mono ?_
    rintro e v3 ⟨rfl,hv3⟩
    have HM3:=hid (HM2.out.below hAS hv3)
    have HD3:=hid (And.intro ((hv3.block _ (lt_of_blk HD2.out.1)).trans HD2.out.1) ((hv3.block _ (lt_of_blk HD2.out.2)).trans HD2.out.2))
    gi_wp2
    refine ⟨trivial,?_⟩
    refine (CallsIn.inRound l (callsIn_wide.2 (HSU.out v3))).mono ?_
    rintro e v4 ⟨rfl,hv4⟩
    have HM4:=hid (HM3.out.below hAS hv4)
    have HD4:=hid (And.intro ((hv4.block _ (lt_of_blk HD3.out.1)).trans HD3.out.1) ((hv4.block _ (lt_of_blk HD3.out.2)).trans HD3.out.2))
    gi_wp2
    refine ⟨trivial,?_⟩
    refine (CallsIn.inRound l (callsIn_wide.2 (HSV.out v4))).mono ?_
    rintro e v5 ⟨rfl,hv5⟩
    have HM5:=hid (HM4.out.below hAS hv5)
    have HD5:=hid (And.intro ((hv5.block _ (lt_of_blk HD4.out.1)).trans HD4.out.1) ((hv5.block _ (lt_of_blk HD4.out.2)).trans HD4.out.2))
    gi_wp2
    have hMZ:=HM5.out
    rw [←HFIN.out,←HSF.out] at hMZ
    exact hMZ.round HINV.out (by omega)
  ·have n1:decide (su≥0)=true:=decide_eq_true (by omega)
   have n2:decide (0≤su)=true:=decide_eq_true (by omega)
   have HE:=hid (show 0≤f (pt P k) by
    rcases HCU.out with ⟨a,b⟩ | ⟨a,b⟩ | ⟨a,b⟩
    ·omega
    ·rw [a];exact Rat.le_refl
    ·exact Rat.le_of_lt a)
   have hHW2:=hH2
   by_cases hzr:su=0
   ·have n3:decide (su*sv<0)=false:=decide_eq_false (by rw [hzr];simp)
    have hf0:f (pt P k)=0:=by
     rcases HCU.out with ⟨a,b⟩ | ⟨a,b⟩ | ⟨a,b⟩
     ·omega
     ·exact a
     ·omega
    have hx:¬ su*sv<0:=by rw [hzr];simp
    have HFIN:=hid (show cycTo (emit f) P (k+1)=cycTo (emit f) P k ++ [pt P k] by rw [HEM.out,if_pos HE.out,if_neg (fun h=>hx (HCX.out.1 h)),List.append_nil])
    have HSF:=hid (show someB f P (k+1)=someB f P k by rw [HSO.out,hf0];simp)
    rw [decide_eq_true hf0] at ht0
    clear hu0 hx hf0 hzr
    generalize someB f P k=sb at *
    cases sb
    ·skip
     gi_wp2
     refine ⟨trivial,?_⟩
     refine (CallsIn.inRound l (callsIn_wide.2 (HSU.out v2))).mono ?_
     rintro e v3 ⟨rfl,hv3⟩
     have HM3:=hid (HM2.out.below hAS hv3)
     have HD3:=hid (And.intro ((hv3.block _ (lt_of_blk HD2.out.1)).trans HD2.out.1) ((hv3.block _ (lt_of_blk HD2.out.2)).trans HD2.out.2))
     have hHW3:=hHW2.trans (hv3.mono hHW2.size)
     obtain ⟨ov,hov,hrow⟩:=HM3.out.out
     have hq5:=slBox_cell hov
     have hszc:=HM3.out.sz
     obtain ⟨x0,x1',_,_⟩:=two_cells HD3.out.1
     obtain ⟨y0,y1',_,_⟩:=two_cells HD3.out.2
     have HOVW:=hid ((hHW3.block (w.heap.size+1) (by omega)).symm.trans hov)
     have HXE:=hid (show cellsS ((cycTo (emit f) P k).map textP) ++ [Value.string p1,.string p2]=cellsS ((cycTo (emit f) P k ++ [pt P k]).map textP) by
      have:=cells_last (cycTo (emit f) P k) (pt P k)
      rw [HPQ.out.1,HPQ.out.2.1] at this
      exact this)
     have hLl:(cycTo (emit f) P k).length≤121:=by omega
     gi_wp2_with (gi_at_builtin;refine wpListIn_append_own _ rfl _ _ 22 rfl wS.heap.size 31 i0 (.agg #[.string ⟨#[]⟩,.string ⟨#[]⟩]) 2 32 slPt.ht hi hz0 hz1 hz2 slPt.hzs slPt.hsz _ (cycTo (emit f) P k).length _ rfl (hrow.alloc _) ⟨v3.heap.size,0,none⟩ 1 1 [.string p1,.string p2] rfl rfl (cell_two_new _ _ _ _) (by simp [Value.oneCell']) (by unfold maxLen;omega) (by omega) (by simp;omega) ?_;intro vz w21 hown21 hgrow _;obtain ⟨g9,cap9,rfl⟩:=ownsRow_succ hown21;have hMZ:=HM3.out.push hAS hov hrow (pt P k) hown21 HXE.out hgrow;obtain ⟨k1,_,_,_,_,k6⟩:=push_all hov hrow (by omega) hszc hown21 hgrow;obtain ⟨hc1,hf1⟩:=one_cell (show w21.heap[w.heap.size+1]?=some (.cells #[_] 22 (0,0)) from k1);obtain ⟨hfl0,hfl1⟩:=one_cell hMZ.flg)
     try simp only [ht0,Bool.not_true,Bool.not_false]
     obtain ⟨v6,hv6e⟩ : ∃ v6,v6=((w21.setCell ⟨w.heap.size+1,0,none⟩ (.slice (some ⟨g9,0,none⟩) ((cycTo (emit f) P k).length+1) cap9)).setCell ⟨w.heap.size+1+1,0,none⟩ (.bool false)):=⟨_,rfl⟩
     rw [←hv6e]
     have HM6:=hid (show KpMid wS W (w.heap.size+1) (cycTo (emit f) P k ++ [pt P k]) false v6 by rw [hv6e];exact hMZ.flag hAS false)
     have hd61:v6.heap[B1]?=v3.heap[B1]?:=by
      rw [hv6e,Below.heap_setCell _ _ _ B1 (by show B1≠w.heap.size+1+1;omega)]
      exact k6 B1 (by omega) (lt_of_blk HD3.out.1) (fun e=>(HAP.out _ _ HOVW.out e.symm).1 rfl)
     have hd62:v6.heap[B2]?=v3.heap[B2]?:=by
      rw [hv6e,Below.heap_setCell _ _ _ B2 (by show B2≠w.heap.size+1+1;omega)]
      exact k6 B2 (by omega) (lt_of_blk HD3.out.2) (fun e=>(HAP.out _ _ HOVW.out e.symm).2 rfl)
     have HD6:=hid (And.intro (hd61.trans HD3.out.1) (hd62.trans HD3.out.2))
     clear hv6e hMZ k1 k6 hc1 hf1 hfl0 hfl1 hd61 hd62 hov hrow hq5 x0 x1' y0 y1' hown21 hgrow
     refine ⟨trivial,?_⟩
     refine (CallsIn.inRound l (callsIn_wide.2 (HSU.out v6))).mono ?_
     rintro e v7 ⟨rfl,hv7⟩
     have HM7:=hid (HM6.out.below hAS hv7)
     have HD7:=hid (And.intro ((hv7.block _ (lt_of_blk HD6.out.1)).trans HD6.out.1) ((hv7.block _ (lt_of_blk HD6.out.2)).trans HD6.out.2))
     gi_wp2
     refine ⟨trivial,?_⟩
     refine (CallsIn.inRound l (callsIn_wide.2 (HSV.out v7))).mono ?_
     rintro e v8 ⟨rfl,hv8⟩
     have HM8:=hid (HM7.out.below hAS hv8)
     have HD8:=hid (And.intro ((hv8.block _ (lt_of_blk HD7.out.1)).trans HD7.out.1) ((hv8.block _ (lt_of_blk HD7.out.2)).trans HD7.out.2))
     gi_wp2
     have hMZ:=HM8.out
     rw [←HFIN.out,←HSF.out] at hMZ
     exact hMZ.round HINV.out (Nat.le_succ _)
    ·skip
     gi_wp2
     refine ⟨trivial,?_⟩
     refine (CallsIn.inRound l (callsIn_wide.2 (HSU.out v2))).mono ?_
     rintro e v3 ⟨rfl,hv3⟩
     have HM3:=hid (HM2.out.below hAS hv3)
     have HD3:=hid (And.intro ((hv3.block _ (lt_of_blk HD2.out.1)).trans HD2.out.1) ((hv3.block _ (lt_of_blk HD2.out.2)).trans HD2.out.2))
     have hHW3:=hHW2.trans (hv3.mono hHW2.size)
     obtain ⟨ov,hov,hrow⟩:=HM3.out.out
     have hq5:=slBox_cell hov
     have hszc:=HM3.out.sz
     obtain ⟨x0,x1',_,_⟩:=two_cells HD3.out.1
     obtain ⟨y0,y1',_,_⟩:=two_cells HD3.out.2
     have HOVW:=hid ((hHW3.block (w.heap.size+1) (by omega)).symm.trans hov)
     have HXE:=hid (show cellsS ((cycTo (emit f) P k).map textP) ++ [Value.string p1,.string p2]=cellsS ((cycTo (emit f) P k ++ [pt P k]).map textP) by
      have:=cells_last (cycTo (emit f) P k) (pt P k)
      rw [HPQ.out.1,HPQ.out.2.1] at this
      exact this)
     have hLl:(cycTo (emit f) P k).length≤121:=by omega
     gi_wp2_with (gi_at_builtin;refine wpListIn_append_own _ rfl _ _ 22 rfl wS.heap.size 31 i0 (.agg #[.string ⟨#[]⟩,.string ⟨#[]⟩]) 2 32 slPt.ht hi hz0 hz1 hz2 slPt.hzs slPt.hsz _ (cycTo (emit f) P k).length _ rfl (hrow.alloc _) ⟨v3.heap.size,0,none⟩ 1 1 [.string p1,.string p2] rfl rfl (cell_two_new _ _ _ _) (by simp [Value.oneCell']) (by unfold maxLen;omega) (by omega) (by simp;omega) ?_;intro vz w21 hown21 hgrow _;obtain ⟨g9,cap9,rfl⟩:=ownsRow_succ hown21;have hMZ:=HM3.out.push hAS hov hrow (pt P k) hown21 HXE.out hgrow;obtain ⟨k1,_,_,_,_,k6⟩:=push_all hov hrow (by omega) hszc hown21 hgrow;obtain ⟨hc1,hf1⟩:=one_cell (show w21.heap[w.heap.size+1]?=some (.cells #[_] 22 (0,0)) from k1);obtain ⟨hfl0,hfl1⟩:=one_cell hMZ.flg)
     obtain ⟨v6,hv6e⟩ : ∃ v6,v6=((w21.setCell ⟨w.heap.size+1,0,none⟩ (.slice (some ⟨g9,0,none⟩) ((cycTo (emit f) P k).length+1) cap9)).setCell ⟨w.heap.size+1+1,0,none⟩ (.bool true)):=⟨_,rfl⟩
     rw [←hv6e]
     have HM6:=hid (show KpMid wS W (w.heap.size+1) (cycTo (emit f) P k ++ [pt P k]) true v6 by rw [hv6e];exact hMZ.flag hAS true)
     have hd61:v6.heap[B1]?=v3.heap[B1]?:=by
      rw [hv6e,Below.heap_setCell _ _ _ B1 (by show B1≠w.heap.size+1+1;omega)]
      exact k6 B1 (by omega) (lt_of_blk HD3.out.1) (fun e=>(HAP.out _ _ HOVW.out e.symm).1 rfl)
     have hd62:v6.heap[B2]?=v3.heap[B2]?:=by
      rw [hv6e,Below.heap_setCell _ _ _ B2 (by show B2≠w.heap.size+1+1;omega)]
      exact k6 B2 (by omega) (lt_of_blk HD3.out.2) (fun e=>(HAP.out _ _ HOVW.out e.symm).2 rfl)
     have HD6:=hid (And.intro (hd61.trans HD3.out.1) (hd62.trans HD3.out.2))
     clear hv6e hMZ k1 k6 hc1 hf1 hfl0 hfl1 hd61 hd62 hov hrow hq5 x0 x1' y0 y1' hown21 hgrow
     refine ⟨trivial,?_⟩
     refine (CallsIn.inRound l (callsIn_wide.2 (HSU.out v6))).mono ?_
     rintro e v7 ⟨rfl,hv7⟩
     have HM7:=hid (HM6.out.below hAS hv7)
     have HD7:=hid (And.intro ((hv7.block _ (lt_of_blk HD6.out.1)).trans HD6.out.1) ((hv7.block _ (lt_of_blk HD6.out.2)).trans HD6.out.2))
     gi_wp2
     refine ⟨trivial,?_⟩
     refine (CallsIn.inRound l (callsIn_wide.2 (HSV.out v7))).mono ?_
     rintro e v8 ⟨rfl,hv8⟩
     have HM8:=hid (HM7.out.below hAS hv8)
     have HD8:=hid (And.intro ((hv8.block _ (lt_of_blk HD7.out.1)).trans HD7.out.1) ((hv8.block _ (lt_of_blk HD7.out.2)).trans HD7.out.2))
     gi_wp2
     have hMZ:=HM8.out
     rw [←HFIN.out,←HSF.out] at hMZ
     exact hMZ.round HINV.out (Nat.le_succ _)
   ·have hfp:0<f (pt P k):=by
     rcases HCU.out with ⟨a,b⟩ | ⟨a,b⟩ | ⟨a,b⟩
     ·omega
     ·omega
     ·exact a
    rw [decide_eq_false (show ¬ f (pt P k)=0 by grind)] at ht0
    have HSF:=hid (show someB f P (k+1)=true by rw [HSO.out,decide_eq_true hfp];simp)
    clear hfp hzr hu0
    by_cases hx:su*sv<0
    ·have n3:decide (su*sv<0)=true:=decide_eq_true hx
     have HFIN:=hid (show cycTo (emit f) P (k+1)=(cycTo (emit f) P k ++ [pt P k]) ++ [z] by rw [HEM.out,if_pos HE.out,if_pos (HCX.out.2 hx),List.append_assoc])
     have HDV2:=hid (HDV.out (HNE.out hx))
     clear hx
     generalize someB f P k=sb at *
     cases sb
     ·skip
      gi_wp2
      refine ⟨trivial,?_⟩
      refine (CallsIn.inRound l (callsIn_wide.2 (HSU.out v2))).mono ?_
      rintro e v3 ⟨rfl,hv3⟩
      have HM3:=hid (HM2.out.below hAS hv3)
      have HD3:=hid (And.intro ((hv3.block _ (lt_of_blk HD2.out.1)).trans HD2.out.1) ((hv3.block _ (lt_of_blk HD2.out.2)).trans HD2.out.2))
      have hHW3:=hHW2.trans (hv3.mono hHW2.size)
      obtain ⟨ov,hov,hrow⟩:=HM3.out.out
      have hq5:=slBox_cell hov
      have hszc:=HM3.out.sz
      obtain ⟨x0,x1',_,_⟩:=two_cells HD3.out.1
      obtain ⟨y0,y1',_,_⟩:=two_cells HD3.out.2
      have HOVW:=hid ((hHW3.block (w.heap.size+1) (by omega)).symm.trans hov)
      have HXE:=hid (show cellsS ((cycTo (emit f) P k).map textP) ++ [Value.string p1,.string p2]=cellsS ((cycTo (emit f) P k ++ [pt P k]).map textP) by
       have:=cells_last (cycTo (emit f) P k) (pt P k)
       rw [HPQ.out.1,HPQ.out.2.1] at this
       exact this)
      have hLl:(cycTo (emit f) P k).length≤121:=by omega
      gi_wp2_with (gi_at_builtin;refine wpListIn_append_own _ rfl _ _ 22 rfl wS.heap.size 31 i0 (.agg #[.string ⟨#[]⟩,.string ⟨#[]⟩]) 2 32 slPt.ht hi hz0 hz1 hz2 slPt.hzs slPt.hsz _ (cycTo (emit f) P k).length _ rfl (hrow.alloc _) ⟨v3.heap.size,0,none⟩ 1 1 [.string p1,.string p2] rfl rfl (cell_two_new _ _ _ _) (by simp [Value.oneCell']) (by unfold maxLen;omega) (by omega) (by simp;omega) ?_;intro vz w21 hown21 hgrow _;obtain ⟨g9,cap9,rfl⟩:=ownsRow_succ hown21;have hMZ:=HM3.out.push hAS hov hrow (pt P k) hown21 HXE.out hgrow;obtain ⟨k1,_,_,_,_,k6⟩:=push_all hov hrow (by omega) hszc hown21 hgrow;obtain ⟨hc1,hf1⟩:=one_cell (show w21.heap[w.heap.size+1]?=some (.cells #[_] 22 (0,0)) from k1);obtain ⟨hfl0,hfl1⟩:=one_cell hMZ.flg)
      try simp only [ht0,Bool.not_true,Bool.not_false]
      obtain ⟨v6,hv6e⟩ : ∃ v6,v6=((w21.setCell ⟨w.heap.size+1,0,none⟩ (.slice (some ⟨g9,0,none⟩) ((cycTo (emit f) P k).length+1) cap9)).setCell ⟨w.heap.size+1+1,0,none⟩ (.bool true)):=⟨_,rfl⟩
      rw [←hv6e]
      have HM6:=hid (show KpMid wS W (w.heap.size+1) (cycTo (emit f) P k ++ [pt P k]) true v6 by rw [hv6e];exact hMZ.flag hAS true)
      have hd61:v6.heap[B1]?=v3.heap[B1]?:=by
       rw [hv6e,Below.heap_setCell _ _ _ B1 (by show B1≠w.heap.size+1+1;omega)]
       exact k6 B1 (by omega) (lt_of_blk HD3.out.1) (fun e=>(HAP.out _ _ HOVW.out e.symm).1 rfl)
      have hd62:v6.heap[B2]?=v3.heap[B2]?:=by
       rw [hv6e,Below.heap_setCell _ _ _ B2 (by show B2≠w.heap.size+1+1;omega)]
       exact k6 B2 (by omega) (lt_of_blk HD3.out.2) (fun e=>(HAP.out _ _ HOVW.out e.symm).2 rfl)
      have HD6:=hid (And.intro (hd61.trans HD3.out.1) (hd62.trans HD3.out.2))
      clear hv6e hMZ k1 k6 hc1 hf1 hfl0 hfl1 hd61 hd62 hov hrow hq5 x0 x1' y0 y1' hown21 hgrow
      refine ⟨trivial,?_⟩
      refine (CallsIn.inRound l (callsIn_wide.2 (HSU.out v6))).mono ?_
      rintro e v7 ⟨rfl,hv7⟩
      have HM7:=hid (HM6.out.below hAS hv7)
      have HD7:=hid (And.intro ((hv7.block _ (lt_of_blk HD6.out.1)).trans HD6.out.1) ((hv7.block _ (lt_of_blk HD6.out.2)).trans HD6.out.2))
      gi_wp2
      refine ⟨trivial,?_⟩
      refine (CallsIn.inRound l (callsIn_wide.2 (HSV.out v7))).mono ?_
      rintro e v8 ⟨rfl,hv8⟩
      have HM8:=hid (HM7.out.below hAS hv8)
      have HD8:=hid (And.intro ((hv8.block _ (lt_of_blk HD7.out.1)).trans HD7.out.1) ((hv8.block _ (lt_of_blk HD7.out.2)).trans HD7.out.2))
      generalize hLL:cycTo (emit f) P k ++ [pt P k]=LL at *
      have hLl0:LL.length≤121:=by rw [←hLL,List.length_append,List.length_singleton];omega
      clear hLL
      gi_wp2
      refine ⟨trivial,?_⟩
      refine (CallsIn.inRound l (callsIn_wide.2 (HSB.out v8 (HGW.out v8 HM8.out.low)))).mono ?_
      rintro e va ⟨rfl,hva⟩
      have HMa:=hid (HM8.out.below hAS hva)
      have HDa:=hid (And.intro ((hva.block _ (lt_of_blk HD8.out.1)).trans HD8.out.1) ((hva.block _ (lt_of_blk HD8.out.2)).trans HD8.out.2))
      gi_wp2
      refine ⟨trivial,?_⟩
      refine (CallsIn.inRound l (callsIn_wide.2 (HDV2.out va (HGW.out va HMa.out.low)))).mono ?_
      rintro e vb ⟨rfl,hvb⟩
      have HMb:=hid (HMa.out.below hAS hvb)
      have HDb:=hid (And.intro ((hvb.block _ (lt_of_blk HDa.out.1)).trans HDa.out.1) ((hvb.block _ (lt_of_blk HDa.out.2)).trans HDa.out.2))
      obtain ⟨ov,hov,hrow⟩:=HMb.out.out
      have hq5:=slBox_cell hov
      have hszc:=HMb.out.sz
      obtain ⟨x0,x1',_,_⟩:=two_cells HDb.out.1
      obtain ⟨y0,y1',_,_⟩:=two_cells HDb.out.2
      have lqb:=lt_of_blk hov
      have lqb1:=lt_of_blk HDb.out.1
      have lqb2:=lt_of_blk HDb.out.2
      gi_wp2
      refine wpIn_held_list lifts_round (fun W'=>Below vb.heap.size vb W') [0,1,2,3,4,5,7,8,9,10,11] [6,12,13,14] 15 (by kernel_rfl) (by kernel_rfl) (by kernel_rfl) ⟨rfl,rfl,rfl,Nat.le_refl _,fun _ _=>rfl⟩ ?_
      iterate 11
       refine wpTakeL_step rfl ?_ rfl ?_ ?_
       rotate_left
       ·intro W' hS'
        have s0:=(hS'.cell (p:=⟨B1,0,none⟩) lqb1).trans x0
        have s1:=(hS'.cell (p:=⟨B1,1,none⟩) lqb1).trans x1'
        have s2:=(hS'.cell (p:=⟨B2,0,none⟩) lqb2).trans y0
        have s3:=(hS'.cell (p:=⟨B2,1,none⟩) lqb2).trans y1'
        have s4:=(hS'.cell (p:=⟨w.heap.size+1,0,none⟩) lqb).trans hq5
        go_simp
        try with_reducible rfl
       try simp only [zA,zB,zC,Act.put,zD,zE,zF]
      have hN0:Below vb.heap.size vb vb.drew:=⟨rfl,rfl,rfl,Nat.le_refl _,fun _ _=>rfl⟩
      refine wpKeepL_step rfl rfl (fun K hK=>?_)
      go_simp
      refine (HT1.out _ ((HGW.out vb HMb.out.low).below hN0)).mono ?_
      rintro e u1 ⟨rfl,hu1⟩
      have hN1:=hN0.trans (hu1.mono hN0.size)
      refine hK _ _ ⟨hN1,?_⟩
      clear hK K
      try simp only [zA,zB,zC,Act.put,zD,zE,zF]
      refine wpKeepL_step rfl rfl (fun K hK=>?_)
      go_simp
      refine (HT2.out _ ((HGW.out vb HMb.out.low).below hN1)).mono ?_
      rintro e u2 ⟨rfl,hu2⟩
      have hN2:=hN1.trans (hu2.mono hN1.size)
      refine hK _ _ ⟨hN2,?_⟩
      clear hK K
      try simp only [zA,zB,zC,Act.put,zD,zE,zF]
      refine wpKeepL_step rfl rfl (fun K hK=>?_)
      go_simp
      refine hK _ _ ⟨hN2,?_⟩
      clear hK K
      try simp only [zA,zB,zC,Act.put,zD,zE,zF]
      refine wpKeepL_step rfl rfl (fun K hK=>?_)
      go_simp
      refine hK _ _ ⟨hN2.trans ((alloc_below _ _).mono hN2.size),?_⟩
      clear hK K
      try simp only [zA,zB,zC,Act.put,zD,zE,zF]
      unfold wpKeepL
      simp only [List.drop_succ_cons,List.drop_zero]
      obtain ⟨vc,hvce⟩ : ∃ vc,vc=u2:=⟨_,rfl⟩
      subst hvce
      have HMc:=hid (HMb.out.below hAS hN2)
      clear x0 x1' y0 y1' hq5 hszc
      replace hrow:=owns_below hrow hN2
      replace hov:=(hN2.block _ lqb).trans hov
      have hszc:=HMc.out.sz
      have HXE:=hid (show cellsS ((LL).map textP) ++ [Value.string zx,.string zy]=cellsS ((LL ++ [z]).map textP) by
       have:=cells_last (LL) z
       rw [HZZ.out.1,HZZ.out.2] at this
       exact this)
      have hLl:(LL).length≤121:=by omega
      refine wpListIn_append_own _ rfl _ _ 22 rfl wS.heap.size 31 i0 (.agg #[.string ⟨#[]⟩,.string ⟨#[]⟩]) 2 32 slPt.ht hi hz0 hz1 hz2 slPt.hzs slPt.hsz _ (LL).length _ rfl (hrow.alloc _) ⟨vc.heap.size,0,none⟩ 1 1 [.string zx,.string zy] rfl rfl (cell_two_new _ _ _ _) (by simp [Value.oneCell']) (by unfold maxLen;omega) (by omega) (by simp;omega) ?_
      intro vz w21 hown21 hgrow _
      obtain ⟨g9,cap9,rfl⟩:=ownsRow_succ hown21
      have hMZ:=HMc.out.push hAS hov hrow z hown21 HXE.out hgrow
      obtain ⟨k1,_,_,_,_,k6⟩:=push_all hov hrow (by omega) hszc hown21 hgrow
      obtain ⟨hc1,hf1⟩:=one_cell (show w21.heap[w.heap.size+1]?=some (.cells #[_] 22 (0,0)) from k1)
      obtain ⟨hfl0,hfl1⟩:=one_cell hMZ.flg
      gi_wp2
      rw [←HFIN.out,←HSF.out] at hMZ
      exact hMZ.round HINV.out (Nat.le_succ _)
     ·skip
      gi_wp2
      refine ⟨trivial,?_⟩
      refine (CallsIn.inRound l (callsIn_wide.2 (HSU.out v2))).mono ?_
      rintro e v3 ⟨rfl,hv3⟩
      have HM3:=hid (HM2.out.below hAS hv3)
      have HD3:=hid (And.intro ((hv3.block _ (lt_of_blk HD2.out.1)).trans HD2.out.1) ((hv3.block _ (lt_of_blk HD2.out.2)).trans HD2.out.2))
      have hHW3:=hHW2.trans (hv3.mono hHW2.size)
      obtain ⟨ov,hov,hrow⟩:=HM3.out.out
      have hq5:=slBox_cell hov
      have hszc:=HM3.out.sz
      obtain ⟨x0,x1',_,_⟩:=two_cells HD3.out.1
      obtain ⟨y0,y1',_,_⟩:=two_cells HD3.out.2
      have HOVW:=hid ((hHW3.block (w.heap.size+1) (by omega)).symm.trans hov)
      have HXE:=hid (show cellsS ((cycTo (emit f) P k).map textP) ++ [Value.string p1,.string p2]=cellsS ((cycTo (emit f) P k ++ [pt P k]).map textP) by
       have:=cells_last (cycTo (emit f) P k) (pt P k)
       rw [HPQ.out.1,HPQ.out.2.1] at this
       exact this)
      have hLl:(cycTo (emit f) P k).length≤121:=by omega
      gi_wp2_with (gi_at_builtin;refine wpListIn_append_own _ rfl _ _ 22 rfl wS.heap.size 31 i0 (.agg #[.string ⟨#[]⟩,.string ⟨#[]⟩]) 2 32 slPt.ht hi hz0 hz1 hz2 slPt.hzs slPt.hsz _ (cycTo (emit f) P k).length _ rfl (hrow.alloc _) ⟨v3.heap.size,0,none⟩ 1 1 [.string p1,.string p2] rfl rfl (cell_two_new _ _ _ _) (by simp [Value.oneCell']) (by unfold maxLen;omega) (by omega) (by simp;omega) ?_;intro vz w21 hown21 hgrow _;obtain ⟨g9,cap9,rfl⟩:=ownsRow_succ hown21;have hMZ:=HM3.out.push hAS hov hrow (pt P k) hown21 HXE.out hgrow;obtain ⟨k1,_,_,_,_,k6⟩:=push_all hov hrow (by omega) hszc hown21 hgrow;obtain ⟨hc1,hf1⟩:=one_cell (show w21.heap[w.heap.size+1]?=some (.cells #[_] 22 (0,0)) from k1);obtain ⟨hfl0,hfl1⟩:=one_cell hMZ.flg)
      obtain ⟨v6,hv6e⟩ : ∃ v6,v6=((w21.setCell ⟨w.heap.size+1,0,none⟩ (.slice (some ⟨g9,0,none⟩) ((cycTo (emit f) P k).length+1) cap9)).setCell ⟨w.heap.size+1+1,0,none⟩ (.bool true)):=⟨_,rfl⟩
      rw [←hv6e]
      have HM6:=hid (show KpMid wS W (w.heap.size+1) (cycTo (emit f) P k ++ [pt P k]) true v6 by rw [hv6e];exact hMZ.flag hAS true)
      have hd61:v6.heap[B1]?=v3.heap[B1]?:=by
       rw [hv6e,Below.heap_setCell _ _ _ B1 (by show B1≠w.heap.size+1+1;omega)]
       exact k6 B1 (by omega) (lt_of_blk HD3.out.1) (fun e=>(HAP.out _ _ HOVW.out e.symm).1 rfl)
      have hd62:v6.heap[B2]?=v3.heap[B2]?:=by
       rw [hv6e,Below.heap_setCell _ _ _ B2 (by show B2≠w.heap.size+1+1;omega)]
       exact k6 B2 (by omega) (lt_of_blk HD3.out.2) (fun e=>(HAP.out _ _ HOVW.out e.symm).2 rfl)
      have HD6:=hid (And.intro (hd61.trans HD3.out.1) (hd62.trans HD3.out.2))
      clear hv6e hMZ k1 k6 hc1 hf1 hfl0 hfl1 hd61 hd62 hov hrow hq5 x0 x1' y0 y1' hown21 hgrow
      refine ⟨trivial,?_⟩
      refine (CallsIn.inRound l (callsIn_wide.2 (HSU.out v6))).mono ?_
      rintro e v7 ⟨rfl,hv7⟩
      have HM7:=hid (HM6.out.below hAS hv7)
      have HD7:=hid (And.intro ((hv7.block _ (lt_of_blk HD6.out.1)).trans HD6.out.1) ((hv7.block _ (lt_of_blk HD6.out.2)).trans HD6.out.2))
      gi_wp2
      refine ⟨trivial,?_⟩
      refine (CallsIn.inRound l (callsIn_wide.2 (HSV.out v7))).mono ?_
      rintro e v8 ⟨rfl,hv8⟩
      have HM8:=hid (HM7.out.below hAS hv8)
      have HD8:=hid (And.intro ((hv8.block _ (lt_of_blk HD7.out.1)).trans HD7.out.1) ((hv8.block _ (lt_of_blk HD7.out.2)).trans HD7.out.2))
      generalize hLL:cycTo (emit f) P k ++ [pt P k]=LL at *
      have hLl0:LL.length≤121:=by rw [←hLL,List.length_append,List.length_singleton];omega
      clear hLL
      gi_wp2
      refine ⟨trivial,?_⟩
      refine (CallsIn.inRound l (callsIn_wide.2 (HSB.out v8 (HGW.out v8 HM8.out.low)))).mono ?_
      rintro e va ⟨rfl,hva⟩
      have HMa:=hid (HM8.out.below hAS hva)
      have HDa:=hid (And.intro ((hva.block _ (lt_of_blk HD8.out.1)).trans HD8.out.1) ((hva.block _ (lt_of_blk HD8.out.2)).trans HD8.out.2))
      gi_wp2
      refine ⟨trivial,?_⟩
      refine (CallsIn.inRound l (callsIn_wide.2 (HDV2.out va (HGW.out va HMa.out.low)))).mono ?_
      rintro e vb ⟨rfl,hvb⟩
      have HMb:=hid (HMa.out.below hAS hvb)
      have HDb:=hid (And.intro ((hvb.block _ (lt_of_blk HDa.out.1)).trans HDa.out.1) ((hvb.block _ (lt_of_blk HDa.out.2)).trans HDa.out.2))
      obtain ⟨ov,hov,hrow⟩:=HMb.out.out
      have hq5:=slBox_cell hov
      have hszc:=HMb.out.sz
      obtain ⟨x0,x1',_,_⟩:=two_cells HDb.out.1
      obtain ⟨y0,y1',_,_⟩:=two_cells HDb.out.2
      have lqb:=lt_of_blk hov
      have lqb1:=lt_of_blk HDb.out.1
      have lqb2:=lt_of_blk HDb.out.2
      gi_wp2
      refine wpIn_held_list lifts_round (fun W'=>Below vb.heap.size vb W') [0,1,2,3,4,5,7,8,9,10,11] [6,12,13,14] 15 (by kernel_rfl) (by kernel_rfl) (by kernel_rfl) ⟨rfl,rfl,rfl,Nat.le_refl _,fun _ _=>rfl⟩ ?_
      iterate 11
       refine wpTakeL_step rfl ?_ rfl ?_ ?_
       rotate_left
       ·intro W' hS'
        have s0:=(hS'.cell (p:=⟨B1,0,none⟩) lqb1).trans x0
        have s1:=(hS'.cell (p:=⟨B1,1,none⟩) lqb1).trans x1'
        have s2:=(hS'.cell (p:=⟨B2,0,none⟩) lqb2).trans y0
        have s3:=(hS'.cell (p:=⟨B2,1,none⟩) lqb2).trans y1'
        have s4:=(hS'.cell (p:=⟨w.heap.size+1,0,none⟩) lqb).trans hq5
        go_simp
        try with_reducible rfl
       try simp only [zA,zB,zC,Act.put,zD,zE,zF]
      have hN0:Below vb.heap.size vb vb.drew:=⟨rfl,rfl,rfl,Nat.le_refl _,fun _ _=>rfl⟩
      refine wpKeepL_step rfl rfl (fun K hK=>?_)
      go_simp
      refine (HT1.out _ ((HGW.out vb HMb.out.low).below hN0)).mono ?_
      rintro e u1 ⟨rfl,hu1⟩
      have hN1:=hN0.trans (hu1.mono hN0.size)
      refine hK _ _ ⟨hN1,?_⟩
      clear hK K
      try simp only [zA,zB,zC,Act.put,zD,zE,zF]
      refine wpKeepL_step rfl rfl (fun K hK=>?_)
      go_simp
      refine (HT2.out _ ((HGW.out vb HMb.out.low).below hN1)).mono ?_
      rintro e u2 ⟨rfl,hu2⟩
      have hN2:=hN1.trans (hu2.mono hN1.size)
      refine hK _ _ ⟨hN2,?_⟩
      clear hK K
      try simp only [zA,zB,zC,Act.put,zD,zE,zF]
      refine wpKeepL_step rfl rfl (fun K hK=>?_)
      go_simp
      refine hK _ _ ⟨hN2,?_⟩
      clear hK K
      try simp only [zA,zB,zC,Act.put,zD,zE,zF]
      refine wpKeepL_step rfl rfl (fun K hK=>?_)
      go_simp
      refine hK _ _ ⟨hN2.trans ((alloc_below _ _).mono hN2.size),?_⟩
      clear hK K
      try simp only [zA,zB,zC,Act.put,zD,zE,zF]
      unfold wpKeepL
      simp only [List.drop_succ_cons,List.drop_zero]
      obtain ⟨vc,hvce⟩ : ∃ vc,vc=u2:=⟨_,rfl⟩
      subst hvce
      have HMc:=hid (HMb.out.below hAS hN2)
      clear x0 x1' y0 y1' hq5 hszc
      replace hrow:=owns_below hrow hN2
      replace hov:=(hN2.block _ lqb).trans hov
      have hszc:=HMc.out.sz
      have HXE:=hid (show cellsS ((LL).map textP) ++ [Value.string zx,.string zy]=cellsS ((LL ++ [z]).map textP) by
       have:=cells_last (LL) z
       rw [HZZ.out.1,HZZ.out.2] at this
       exact this)
      have hLl:(LL).length≤121:=by omega
      refine wpListIn_append_own _ rfl _ _ 22 rfl wS.heap.size 31 i0 (.agg #[.string ⟨#[]⟩,.string ⟨#[]⟩]) 2 32 slPt.ht hi hz0 hz1 hz2 slPt.hzs slPt.hsz _ (LL).length _ rfl (hrow.alloc _) ⟨vc.heap.size,0,none⟩ 1 1 [.string zx,.string zy] rfl rfl (cell_two_new _ _ _ _) (by simp [Value.oneCell']) (by unfold maxLen;omega) (by omega) (by simp;omega) ?_
      intro vz w21 hown21 hgrow _
      obtain ⟨g9,cap9,rfl⟩:=ownsRow_succ hown21
      have hMZ:=HMc.out.push hAS hov hrow z hown21 HXE.out hgrow
      obtain ⟨k1,_,_,_,_,k6⟩:=push_all hov hrow (by omega) hszc hown21 hgrow
      obtain ⟨hc1,hf1⟩:=one_cell (show w21.heap[w.heap.size+1]?=some (.cells #[_] 22 (0,0)) from k1)
      obtain ⟨hfl0,hfl1⟩:=one_cell hMZ.flg
      gi_wp2
      rw [←HFIN.out,←HSF.out] at hMZ
      exact hMZ.round HINV.out (Nat.le_succ _)
    ·have n3:decide (su*sv<0)=false:=decide_eq_false hx
     have HFIN:=hid (show cycTo (emit f) P (k+1)=cycTo (emit f) P k ++ [pt P k] by rw [HEM.out,if_pos HE.out,if_neg (fun h=>hx (HCX.out.1 h)),List.append_nil])
     clear hx
     generalize someB f P k=sb at *
     cases sb
     ·skip
      gi_wp2
      refine ⟨trivial,?_⟩
      refine (CallsIn.inRound l (callsIn_wide.2 (HSU.out v2))).mono ?_
      rintro e v3 ⟨rfl,hv3⟩
      have HM3:=hid (HM2.out.below hAS hv3)
      have HD3:=hid (And.intro ((hv3.block _ (lt_of_blk HD2.out.1)).trans HD2.out.1) ((hv3.block _ (lt_of_blk HD2.out.2)).trans HD2.out.2))
      have hHW3:=hHW2.trans (hv3.mono hHW2.size)
      obtain ⟨ov,hov,hrow⟩:=HM3.out.out
      have hq5:=slBox_cell hov
      have hszc:=HM3.out.sz
      obtain ⟨x0,x1',_,_⟩:=two_cells HD3.out.1
      obtain ⟨y0,y1',_,_⟩:=two_cells HD3.out.2
      have HOVW:=hid ((hHW3.block (w.heap.size+1) (by omega)).symm.trans hov)
      have HXE:=hid (show cellsS ((cycTo (emit f) P k).map textP) ++ [Value.string p1,.string p2]=cellsS ((cycTo (emit f) P k ++ [pt P k]).map textP) by
       have:=cells_last (cycTo (emit f) P k) (pt P k)
       rw [HPQ.out.1,HPQ.out.2.1] at this
       exact this)
      have hLl:(cycTo (emit f) P k).length≤121:=by omega
      gi_wp2_with (gi_at_builtin;refine wpListIn_append_own _ rfl _ _ 22 rfl wS.heap.size 31 i0 (.agg #[.string ⟨#[]⟩,.string ⟨#[]⟩]) 2 32 slPt.ht hi hz0 hz1 hz2 slPt.hzs slPt.hsz _ (cycTo (emit f) P k).length _ rfl (hrow.alloc _) ⟨v3.heap.size,0,none⟩ 1 1 [.string p1,.string p2] rfl rfl (cell_two_new _ _ _ _) (by simp [Value.oneCell']) (by unfold maxLen;omega) (by omega) (by simp;omega) ?_;intro vz w21 hown21 hgrow _;obtain ⟨g9,cap9,rfl⟩:=ownsRow_succ hown21;have hMZ:=HM3.out.push hAS hov hrow (pt P k) hown21 HXE.out hgrow;obtain ⟨k1,_,_,_,_,k6⟩:=push_all hov hrow (by omega) hszc hown21 hgrow;obtain ⟨hc1,hf1⟩:=one_cell (show w21.heap[w.heap.size+1]?=some (.cells #[_] 22 (0,0)) from k1);obtain ⟨hfl0,hfl1⟩:=one_cell hMZ.flg)
      try simp only [ht0,Bool.not_true,Bool.not_false]
      obtain ⟨v6,hv6e⟩ : ∃ v6,v6=((w21.setCell ⟨w.heap.size+1,0,none⟩ (.slice (some ⟨g9,0,none⟩) ((cycTo (emit f) P k).length+1) cap9)).setCell ⟨w.heap.size+1+1,0,none⟩ (.bool true)):=⟨_,rfl⟩
      rw [←hv6e]
      have HM6:=hid (show KpMid wS W (w.heap.size+1) (cycTo (emit f) P k ++ [pt P k]) true v6 by rw [hv6e];exact hMZ.flag hAS true)
      have hd61:v6.heap[B1]?=v3.heap[B1]?:=by
       rw [hv6e,Below.heap_setCell _ _ _ B1 (by show B1≠w.heap.size+1+1;omega)]
       exact k6 B1 (by omega) (lt_of_blk HD3.out.1) (fun e=>(HAP.out _ _ HOVW.out e.symm).1 rfl)
      have hd62:v6.heap[B2]?=v3.heap[B2]?:=by
       rw [hv6e,Below.heap_setCell _ _ _ B2 (by show B2≠w.heap.size+1+1;omega)]
       exact k6 B2 (by omega) (lt_of_blk HD3.out.2) (fun e=>(HAP.out _ _ HOVW.out e.symm).2 rfl)
      have HD6:=hid (And.intro (hd61.trans HD3.out.1) (hd62.trans HD3.out.2))
      clear hv6e hMZ k1 k6 hc1 hf1 hfl0 hfl1 hd61 hd62 hov hrow hq5 x0 x1' y0 y1' hown21 hgrow
      refine ⟨trivial,?_⟩
      refine (CallsIn.inRound l (callsIn_wide.2 (HSU.out v6))).mono ?_
      rintro e v7 ⟨rfl,hv7⟩
      have HM7:=hid (HM6.out.below hAS hv7)
      have HD7:=hid (And.intro ((hv7.block _ (lt_of_blk HD6.out.1)).trans HD6.out.1) ((hv7.block _ (lt_of_blk HD6.out.2)).trans HD6.out.2))
      gi_wp2
      refine ⟨trivial,?_⟩
      refine (CallsIn.inRound l (callsIn_wide.2 (HSV.out v7))).mono ?_
      rintro e v8 ⟨rfl,hv8⟩
      have HM8:=hid (HM7.out.below hAS hv8)
      have HD8:=hid (And.intro ((hv8.block _ (lt_of_blk HD7.out.1)).trans HD7.out.1) ((hv8.block _ (lt_of_blk HD7.out.2)).trans HD7.out.2))
      gi_wp2
      have hMZ:=HM8.out
      rw [←HFIN.out,←HSF.out] at hMZ
      exact hMZ.round HINV.out (Nat.le_succ _)
     ·skip
      gi_wp2
      refine ⟨trivial,?_⟩
      refine (CallsIn.inRound l (callsIn_wide.2 (HSU.out v2))).mono ?_
      rintro e v3 ⟨rfl,hv3⟩
      have HM3:=hid (HM2.out.below hAS hv3)
      have HD3:=hid (And.intro ((hv3.block _ (lt_of_blk HD2.out.1)).trans HD2.out.1) ((hv3.block _ (lt_of_blk HD2.out.2)).trans HD2.out.2))
      have hHW3:=hHW2.trans (hv3.mono hHW2.size)
      obtain ⟨ov,hov,hrow⟩:=HM3.out.out
      have hq5:=slBox_cell hov
      have hszc:=HM3.out.sz
      obtain ⟨x0,x1',_,_⟩:=two_cells HD3.out.1
      obtain ⟨y0,y1',_,_⟩:=two_cells HD3.out.2
      have HOVW:=hid ((hHW3.block (w.heap.size+1) (by omega)).symm.trans hov)
      have HXE:=hid (show cellsS ((cycTo (emit f) P k).map textP) ++ [Value.string p1,.string p2]=cellsS ((cycTo (emit f) P k ++ [pt P k]).map textP) by
       have:=cells_last (cycTo (emit f) P k) (pt P k)
       rw [HPQ.out.1,HPQ.out.2.1] at this
       exact this)
      have hLl:(cycTo (emit f) P k).length≤121:=by omega
      gi_wp2_with (gi_at_builtin;refine wpListIn_append_own _ rfl _ _ 22 rfl wS.heap.size 31 i0 (.agg #[.string ⟨#[]⟩,.string ⟨#[]⟩]) 2 32 slPt.ht hi hz0 hz1 hz2 slPt.hzs slPt.hsz _ (cycTo (emit f) P k).length _ rfl (hrow.alloc _) ⟨v3.heap.size,0,none⟩ 1 1 [.string p1,.string p2] rfl rfl (cell_two_new _ _ _ _) (by simp [Value.oneCell']) (by unfold maxLen;omega) (by omega) (by simp;omega) ?_;intro vz w21 hown21 hgrow _;obtain ⟨g9,cap9,rfl⟩:=ownsRow_succ hown21;have hMZ:=HM3.out.push hAS hov hrow (pt P k) hown21 HXE.out hgrow;obtain ⟨k1,_,_,_,_,k6⟩:=push_all hov hrow (by omega) hszc hown21 hgrow;obtain ⟨hc1,hf1⟩:=one_cell (show w21.heap[w.heap.size+1]?=some (.cells #[_] 22 (0,0)) from k1);obtain ⟨hfl0,hfl1⟩:=one_cell hMZ.flg)
      obtain ⟨v6,hv6e⟩ : ∃ v6,v6=((w21.setCell ⟨w.heap.size+1,0,none⟩ (.slice (some ⟨g9,0,none⟩) ((cycTo (emit f) P k).length+1) cap9)).setCell ⟨w.heap.size+1+1,0,none⟩ (.bool true)):=⟨_,rfl⟩
      rw [←hv6e]
      have HM6:=hid (show KpMid wS W (w.heap.size+1) (cycTo (emit f) P k ++ [pt P k]) true v6 by rw [hv6e];exact hMZ.flag hAS true)
      have hd61:v6.heap[B1]?=v3.heap[B1]?:=by
       rw [hv6e,Below.heap_setCell _ _ _ B1 (by show B1≠w.heap.size+1+1;omega)]
       exact k6 B1 (by omega) (lt_of_blk HD3.out.1) (fun e=>(HAP.out _ _ HOVW.out e.symm).1 rfl)
      have hd62:v6.heap[B2]?=v3.heap[B2]?:=by
       rw [hv6e,Below.heap_setCell _ _ _ B2 (by show B2≠w.heap.size+1+1;omega)]
       exact k6 B2 (by omega) (lt_of_blk HD3.out.2) (fun e=>(HAP.out _ _ HOVW.out e.symm).2 rfl)
      have HD6:=hid (And.intro (hd61.trans HD3.out.1) (hd62.trans HD3.out.2))
      clear hv6e hMZ k1 k6 hc1 hf1 hfl0 hfl1 hd61 hd62 hov hrow hq5 x0 x1' y0 y1' hown21 hgrow
      refine ⟨trivial,?_⟩
      refine (CallsIn.inRound l (callsIn_wide.2 (HSU.out v6))).mono ?_
      rintro e v7 ⟨rfl,hv7⟩
      have HM7:=hid (HM6.out.below hAS hv7)
      have HD7:=hid (And.intro ((hv7.block _ (lt_of_blk HD6.out.1)).trans HD6.out.1) ((hv7.block _ (lt_of_blk HD6.out.2)).trans HD6.out.2))
      gi_wp2
      refine ⟨trivial,?_⟩
      refine (CallsIn.inRound l (callsIn_wide.2 (HSV.out v7))).mono ?_
      rintro e v8 ⟨rfl,hv8⟩
      have HM8:=hid (HM7.out.below hAS hv8)
      have HD8:=hid (And.intro ((hv8.block _ (lt_of_blk HD7.out.1)).trans HD7.out.1) ((hv8.block _ (lt_of_blk HD7.out.2)).trans HD7.out.2))
      gi_wp2
      have hMZ:=HM8.out
      rw [←HFIN.out,←HSF.out] at hMZ
      exact hMZ.round HINV.out (Nat.le_succ _)
 case done =>
  rintro Dk W hD hinv hK
  have hsW:=hinv.sz
  have hlow:=hinv.low
  have hout:=hinv.out
  rw [cycTo_all (emit f) P] at hout
  obtain ⟨ov,hov,hrow⟩:=hout
  have hflg:=hinv.flg
  obtain ⟨z0,_⟩:=one_cell hflg
  have q5:=slBox_cell hov
  have HROW:=hid hrow
  have HFLG:=hid (show someB f P P.length=someB f P P.length from rfl)
  have hbF:Below w.heap.size w (W.putObj Dk (.deferred none)):=(hbwS.trans (hlow.mono (by omega))).trans (putObj_below _ _ _ (by omega))
  have HBF:=hid hbF
  have hrw:(W.putObj Dk (.deferred none)).ownsRow wS.heap.size 31 2 ov (clipL f P).length (cellsS ((clipL f P).map textP)):=by
   refine ⟨hrow.1,?_⟩
   rcases hrow.2 with h | ⟨g,cap,cur,e1,e2,e3,r⟩
   ·exact .inl h
   ·refine .inr ⟨g,cap,cur,e1,e2,?_,r⟩
    have hne:Dk≠g:=by
     intro e
     rw [e,e3] at hK
     cases hK
    simp only [World.putObj]
    rw [Array.getElem?_setIfInBounds,if_neg hne]
    exact e3
  have HPT:=hid (show Pts (W.putObj Dk (.deferred none)) ov (clipL f P)∧(W.putObj Dk (.deferred none)).ownsRow w.heap.size 31 2 ov (clipL f P).length (cellsS ((clipL f P).map textP)) from by
   refine ⟨pairs_of_cells (base:=wS.heap.size) (e:=31) (by rw [List.length_map];exact hrw),hrw.1,?_⟩
   rcases hrw.2 with h | ⟨g,cap,cur,e1,e2,r⟩
   ·exact .inl h
   ·exact .inr ⟨g,cap,cur,e1,by omega,r⟩)
  clear hrw
  have HKD:=hid hK
  clear hinv hov hrow hflg hK hbF HFLG
  cases hsb:someB f P P.length
  ·rw [hsb] at z0
   have HSB:=hid hsb
   clear hsb
   gi_wp2
   refine ⟨by simp,.inl ⟨_,_,rfl,run_takeDeferred HKD.out,?_⟩⟩
   refine ⟨.slice none 0 0,by simp [results,Tryz.results86,go_sem],?_⟩
   exact ⟨_,rfl,HBF.out,.inr ⟨HSB.out,rfl⟩⟩
  ·rw [hsb] at z0
   have HSB:=hid hsb
   clear hsb
   gi_wp2
   refine ⟨by simp,.inl ⟨_,_,rfl,run_takeDeferred HKD.out,?_⟩⟩
   refine ⟨ov,by simp [results,Tryz.results86,go_sem],?_⟩
   exact ⟨_,rfl,HBF.out,.inl ⟨HSB.out,HPT.out⟩⟩
 case stop =>
  rintro Dk c k W hD hk hf hK
  exact hf.elim
theorem pg_keep_in (ff:Nat) (lb:Array Value) (heg:∀ args w,(callFunc ff args).run Tryz.prog w=.ok (.enter ff args) w) (f:QP→Rat) (P:List QP) (hP0:0<P.length) (h60:P.length≤60) (hz:∀ p∈P,Sz2 100000 p) (hf:∀ p∈P,Sz 100000 (f p))
  (v:Value) (w:World) (hw:Good w) (hv:Pts w v P) (hex:∀ p∈P,∀ W',Good W'→Below w.heap.size w W'→Calls Tryz.prog ff (#[ptV p]++lb) W' (RV (.string (tx (f p))) W')) :
  CallsIn Fence.wide 9 Tryz.prog 86 #[v,.func (.func ff) #[] lb] w (KeepPost f P w):=
 (pg_keep_inT ff lb heg f P hP0 h60 hz hf v w hw hv hex).mono fun _ _ ⟨r,h1,h2,h3⟩=>⟨r,h1,h2,h3.imp (fun h=>⟨h.1,h.2.1⟩) id⟩
end Go.Proofs.YtgohnjdgoglcfaaGreatDoor
