import Derived.Test.YtgohnjdgoglcfaaGreatDoorV11Z
import Derived.Test.YtgohnjdgoglcfaaGreatDoorV16Z
import Derived.Test.YtgohnjdgoglcfaaGreatDoorV19Z
namespace Go.Proofs.YtgohnjdgoglcfaaGreatDoor
open Go.RowKit Go.Shelf
open Go.Lib (decDigits itoa nDigits)
theorem PartV.is {f:QP→Rat} {P:List QP} {W:World} {r:Value} (h:PartV f P W r):∃ X,ClipIs f P X∧Pts W r X:=by
 rcases h with ⟨h1,t,h2,h3⟩ | ⟨h1,rfl⟩
 ·exact ⟨_,.inl ⟨h1,t,h2,rfl⟩,h3⟩
 ·exact ⟨[],.inr ⟨h1,rfl⟩,pts_nil W⟩
theorem RClip.is {f:QP→Rat} {P:List QP} {W:World} {r:Value} {a b c:Rat} (hl:ClipLine f P a b c) (h:RClip f P W r):∃ X,ClipIs f P X∧Pts W r X:=by
 rcases h with ⟨h1,rfl⟩ | ⟨h1,t,h2,h3⟩
 ·exact ⟨[],.inr ⟨fun h=>by have:=hl.three.2 h;omega,rfl⟩,pts_nil W⟩
 ·exact ⟨_,.inl ⟨hl.three.1 (by omega),t,h2,rfl⟩,h3⟩
theorem okS_num {s:ByteArray} (h:okS s=true):∃ q:Rat,s=tx q∧OkB q:=by
 unfold okS at h
 have e:s=tx (ratV s):=(ratV_isR h).unique (isR_mk _)
 exact ⟨ratV s,e,by unfold OkB;rw [←e];exact h⟩
theorem line_of_err {a b c:ByteArray} (h:lineErr a b c=0):∃ p q r:Rat,a=tx p∧b=tx q∧c=tx r∧LineOk p q r:=by
 unfold lineErr at h
 by_cases h1:okS a=true∧okS b=true∧okS c=true
 ·rw [if_pos h1] at h
  by_cases h2:(a.toList == [48])=true∧(b.toList == [48])=true
  ·rw [if_pos h2] at h
   exact absurd h (by decide)
  ·obtain ⟨p,rfl,hp⟩:=okS_num h1.1
   obtain ⟨q,rfl,hq⟩:=okS_num h1.2.1
   obtain ⟨r,rfl,hr⟩:=okS_num h1.2.2
   refine ⟨p,q,r,rfl,rfl,rfl,⟨hp,hq,hr,?_⟩⟩
   by_cases hp0:p=0
   ·refine .inr fun hq0=>h2 ?_
    rw [(isR_mk p).zero,(isR_mk q).zero]
    exact ⟨decide_eq_true hp0,decide_eq_true hq0⟩
   ·exact .inl hp0
 ·rw [if_neg h1] at h
  exact absurd h (by decide)
theorem Drf.line2 {P:List QP} (h:Drf P) {a b c:Rat} (hl:LineOk a b c):ClipLine (valP (-a) (-b) (-c)) P (-a) (-b) (-c):=⟨h.poly.1,fun _=>rfl,by
 rcases hl.ne with g | g
 ·exact .inl (by grind)
 ·exact .inr (by grind)⟩
theorem Sh.neg {q:Rat} (h:Sh q):Sh (-q):=by
 unfold Sh at *
 rw [Rat.neg_num,Rat.neg_den,Int.natAbs_neg]
 exact h
theorem Sh.sz {q:Rat} (h:Sh q):Sz 100 q:=by
 have k1:=rlen_le q
 have k2:=(itoa_len_le q.num).2
 have k3:=nDigits_le_of_lt (show q.num.natAbs<10 ^ 41 from Nat.lt_of_le_of_lt h.1 (by decide)) (by decide)
 have k4:=nDigits_le_of_lt (show q.den<10 ^ 41 from Nat.lt_of_le_of_lt h.2 (by decide)) (by decide)
 show (tx q).size≤_
 rw [tx_len]
 omega
theorem SplitsPost.at {f g:QP→Rat} {P X:List QP} {a b c:Rat} {w w':World} {e:Ending} (hl:ClipLine f P a b c) (hX:ClipIs f P X) (h:SplitsPost f g P w e w') :
  ∃ Y r s,e=.returned (.tuple #[r,s,.int .i64 0])∧ClipIs g P Y∧Pts w' r X∧Pts w' s Y∧Below w.heap.size w w':=by
 obtain ⟨r,s,he,h1,h2,hb⟩:=h
 obtain ⟨X2,hX2,hx⟩:=h1.is
 obtain ⟨Y,hY,hy⟩:=h2.is
 rw [hX2.unique hl hX] at hx
 exact ⟨Y,r,s,he,hY,hx,hy,hb⟩
theorem RClPost.at {f:QP→Rat} {P X:List QP} {a b c:Rat} {w w':World} {e:Ending} (hl:ClipLine f P a b c) (hX:ClipIs f P X) (h:RClPost f P w e w') :
  ∃ r,e=.returned r∧Pts w' r X∧Below w.heap.size w w':=by
 obtain ⟨r,he,h1,hb⟩:=h
 obtain ⟨X2,hX2,hx⟩:=RClip.is hl h1
 rw [hX2.unique hl hX] at hx
 exact ⟨r,he,hx,hb⟩
theorem areas_x {P X Y:List QP} {a b c:Rat} (h1:ClipLine (valP a b c) P a b c) (h2:ClipLine (valP (-a) (-b) (-c)) P (-a) (-b) (-c)) (hX:ClipIs (valP a b c) P X) (hY:ClipIs (valP (-a) (-b) (-c)) P Y):areaP X+areaP Y=areaP P:=by
 rw [hX.area h1,hY.area h2]
 exact h1.cvx.areas a b c h1.ne
end Go.Proofs.YtgohnjdgoglcfaaGreatDoor
