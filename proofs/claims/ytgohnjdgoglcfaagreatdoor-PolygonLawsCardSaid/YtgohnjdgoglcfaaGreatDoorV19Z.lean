import Derived.Test.YtgohnjdgoglcfaaGreatDoorV4Z
import Derived.Test.YtgohnjdgoglcfaaGreatDoorU8Z
set_option maxRecDepth 100000
set_option maxHeartbeats 4000000
namespace Go.Proofs.YtgohnjdgoglcfaaGreatDoor
open Go.RowKit Go.Shelf
open Go.Lib (decDigits itoa nDigits)
def ClipIs (f:QP→Rat) (P X:List QP):Prop:=((∃ p∈P,0<f p)∧∃ t,LeastAt (clipL f P) t∧X=rotL (clipL f P) t)∨((¬ ∃ p∈P,0<f p)∧X=[])
structure ClipLine (f:QP→Rat) (P:List QP) (a b c:Rat):Prop where
 cvx:Cvx P
 eq:∀ p,f p=valP a b c p
 ne:a≠0∨b≠0
theorem ClipLine.fn {f:QP→Rat} {P:List QP} {a b c:Rat} (h:ClipLine f P a b c):f=valP a b c:=funext h.eq
theorem ClipLine.some {f:QP→Rat} {P:List QP} {a b c:Rat} (h:ClipLine f P a b c) (hp:∃ p∈P,0<f p):Cvx (clipL f P):=by
 have e:=h.fn
 subst e
 exact h.cvx.clip a b c hp
theorem ClipLine.three {f:QP→Rat} {P:List QP} {a b c:Rat} (h:ClipLine f P a b c):3≤(clipL f P).length↔∃ p∈P,0<f p:=by
 have e:=h.fn
 subst e
 exact h.cvx.clip_len a b c h.ne
theorem ClipLine.le {f:QP→Rat} {P:List QP} {a b c:Rat} (h:ClipLine f P a b c):(clipL f P).length≤P.length+1:=by
 have e:=h.fn
 subst e
 exact h.cvx.clip_le a b c
theorem ClipIs.unique {f:QP→Rat} {P X Y:List QP} {a b c:Rat} (h:ClipLine f P a b c) (hX:ClipIs f P X) (hY:ClipIs f P Y):X=Y:=by
 rcases hX with ⟨h1,t,h2,rfl⟩ | ⟨h1,rfl⟩
 ·rcases hY with ⟨_,s,h4,rfl⟩ | ⟨h3,_⟩
  ·rw [LeastAt.unique (h.some h1) h2 h4]
  ·exact absurd h1 h3
 ·rcases hY with ⟨h3,_⟩ | ⟨_,rfl⟩
  ·exact absurd h3 h1
  ·rfl
theorem ClipIs.mem {f:QP→Rat} {P X:List QP} (hX:ClipIs f P X):∀ q∈X,q∈clipL f P:=by
 rcases hX with ⟨_,t,_,rfl⟩ | ⟨_,rfl⟩
 ·intro q hq
  unfold rotL at hq
  rcases List.mem_append.1 hq with h | h
  ·exact List.mem_of_mem_drop h
  ·exact List.mem_of_mem_take h
 ·intro q hq
  cases hq
theorem ClipIs.len {f:QP→Rat} {P X:List QP} {a b c:Rat} (h:ClipLine f P a b c) (hX:ClipIs f P X):(X=[]∨3≤X.length)∧X.length≤P.length+1:=by
 rcases hX with ⟨h1,t,h2,rfl⟩ | ⟨_,rfl⟩
 ·rw [rotL_len _ (Nat.le_of_lt h2.1)]
  exact ⟨.inr (h.three.2 h1),h.le⟩
 ·exact ⟨.inl rfl,Nat.zero_le _⟩
theorem ClipIs.area {f:QP→Rat} {P X:List QP} {a b c:Rat} (h:ClipLine f P a b c) (hX:ClipIs f P X):areaP X=areaP (clipL f P):=by
 rcases hX with ⟨_,t,_,rfl⟩ | ⟨h1,rfl⟩
 ·exact area_rot _ _
 ·have:¬ 3≤(clipL f P).length:=fun h3=>h1 (h.three.1 h3)
  rw [area_short (P:=clipL f P) (by omega)]
  exact area_short (by decide)
theorem pts_nil (w:World):Pts w (.slice none 0 0) []:=⟨none,0,rfl,Nat.le_refl _,by decide,fun h=>absurd h (Nat.lt_irrefl _)⟩
def ClipPostX (f:QP→Rat) (P:List QP) (w:World) (e:Ending) (w':World):Prop:=∃ X r,e=.returned (.tuple #[r,.bool (decide (0<X.length)),.int .i64 0])∧ClipIs f P X∧Pts w' r X∧Below w.heap.size w w'
theorem ClipPost.x {f:QP→Rat} {P:List QP} {w w':World} {e:Ending} (h:ClipPost f P w e w'):ClipPostX f P w e w':=by
 obtain ⟨h1,hb⟩:=h
 rcases h1 with ⟨h1,r,t,he,hl,hp⟩ | ⟨h1,he⟩
 ·have h0:0<(rotL (clipL f P) t).length:=by rw [rotL_len _ (Nat.le_of_lt hl.1)];exact Nat.lt_of_le_of_lt (Nat.zero_le _) hl.1
  exact ⟨_,r,by rw [he,decide_eq_true h0],.inl ⟨h1,t,hl,rfl⟩,hp,hb⟩
 ·exact ⟨[],_,by rw [he];rfl,.inr ⟨h1,rfl⟩,pts_nil w',hb⟩
theorem okq_of {q:QP} (h:OkB q.1∧OkB q.2):okQ q:=by
 unfold okQ okPr
 rw [Bool.and_eq_true]
 exact h
theorem Drf.line {P:List QP} (h:Drf P) {a b c:Rat} (hl:LineOk a b c):ClipLine (valP a b c) P a b c:=⟨h.poly.1,fun _=>rfl,hl.ne⟩
open Go.Lib (hid)
theorem pg_clip_bad (v:Value) (P:List QP) (hP:Poly P) (h60:P.length≤60) (hz:∀ p∈P,OkB p.1∧OkB p.2) (a b c:ByteArray) (hs:a.size≤4000000∧b.size≤4000000∧c.size≤4000000) (hno:lineErr a b c≠0) (w:World) (hw:Good w) (hv:Pts w v P) :
  Calls Tryz.prog 34 #[v,lnV a b c] w (RV (.tuple #[.slice none 0 0,.bool false,.int .i64 (lineErr a b c)]) w):=by
 have HLE:=hid (fun w' (hg:Good w') (hp:Pts w' v P)=>pg_checkLine v P hP h60 hz a b c hs.1 hs.2.1 hs.2.2 w' hg hp)
 unfold RV at HLE
 have HV:=hid hv
 have hne:(lineErr a b c == 0)=false:=beq_eq_false_iff_ne.2 hno
 have hne2:(lineErr a b c != 0)=true:=by simpa using hno
 clear hv hz hP hs hno
 unfold lnV at *
 generalize lineErr a b c=er at *
 obtain ⟨wA,hwA⟩ : ∃ wA,wA=w.alloc (Obj.cells #[.string a,.string b,.string c] 64):=⟨_,rfl⟩
 have HWA:=hid hwA
 obtain ⟨hbA,hx⟩:=box_any hwA
 obtain ⟨l0,l1,l2⟩:=three_cells hx
 clear hwA hx
 go_enter Tryz.func34,Tryz.ntmps34
 go_upto_region 1 with fail
 rw [←HWA.out]
 go_wp2_with fail
 refine (HLE.out _ (hw.below hbA) (HV.out.below hbA)).mono ?_
 rintro e w1 ⟨rfl,hb1⟩
 go_wp2
 refine bodyPost_ret (v:=.tuple #[.slice none 0 0,.bool false,.int .i64 er]) (by simp [results,Tryz.results34,go_sem]) rfl ⟨rfl,hbA.trans (hb1.mono hbA.size)⟩
end Go.Proofs.YtgohnjdgoglcfaaGreatDoor
