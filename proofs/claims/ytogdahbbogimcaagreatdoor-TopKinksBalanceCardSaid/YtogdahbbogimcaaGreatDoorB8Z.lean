import Derived.Test.YtogdahbbogimcaaGreatDoorB7Z
import Derived.Test.YtogdahbbogimcaaGreatDoorB1Z
set_option maxRecDepth 100000
set_option maxHeartbeats 4000000
namespace Go.Proofs.YtogdahbbogimcaaGreatDoor
open Go.RowKit Go.Shelf
open Go.Lib (decDigits itoa nDigits)
open Go.Lib (hid)
def howI:Hw→Int
 | .apart=>0
 | .touch _=>1
 | .over=>2
def howV:Hw→Value
 | .touch z=>ptV z
 | _=>.agg #[.string ⟨#[]⟩,.string ⟨#[]⟩]
theorem lexI_pos {p q:QP}:0<lexI p q↔lssP q p:=by
 unfold lexI lssP
 by_cases h:cmpR p.1 q.1=0
 ·rw [if_pos h,cmpR_pos]
  have:=cmpR_zero.1 h
  constructor
  ·intro h2;exact .inr ⟨this.symm,h2⟩
  ·rintro (h2 | h2)
   ·exfalso;grind
   ·exact h2.2
 ·rw [if_neg h,cmpR_pos]
  constructor
  ·exact .inl
  ·rintro (h2 | h2)
   ·exact h2
   ·exact absurd (cmpR_zero.2 h2.1.symm) h
theorem lexI_zero {p q:QP}:lexI p q=0↔p=q:=by
 constructor
 ·intro h
  refine Prod.ext ?_ ?_
  ·by_cases h1:cmpR p.1 q.1=0
   ·exact cmpR_zero.1 h1
   ·unfold lexI at h;rw [if_neg h1] at h;exact absurd h h1
  ·by_cases h1:cmpR p.1 q.1=0
   ·unfold lexI at h;rw [if_pos h1] at h;exact cmpR_zero.1 h
   ·unfold lexI at h;rw [if_neg h1] at h;exact absurd h h1
 ·rintro rfl
  unfold lexI
  rw [if_pos (cmpR_zero.2 rfl)];exact cmpR_zero.2 rfl
theorem lexI_cases (p q:QP):lexI p q = -1∨lexI p q=0∨lexI p q=1:=by
 have:=lexI_bound p q
 omega
def PB (W:World) (b:Nat) (x y:ByteArray):Prop:=W.heap[b]?=some (.cells #[.string x,.string y] 30 (0,0))
theorem PB.below {W W':World} {b:Nat} {x y:ByteArray} (h:PB W b x y) (hb:Below W.heap.size W W'):PB W' b x y:=(hb.block _ (lt_of_blk h)).trans h
theorem PB.other {W:World} {b B i:Nat} {x y:ByteArray} (h:PB W b x y) (v:Value) (hne:B≠b):PB (W.setCell ⟨B,i,none⟩ v) b x y:=by
 unfold PB
 rw [Below.heap_setCell _ _ _ _ (show b≠B from Ne.symm hne)];exact h
theorem PB.set {W:World} {b:Nat} {x y:ByteArray} (h:PB W b x y) (x' y':ByteArray):PB ((W.setCell ⟨b,0,none⟩ (.string x')).setCell ⟨b,1,none⟩ (.string y')) b x' y':=two_set1 _ (two_set0 _ h)
theorem PB.set2 {W:World} {b B:Nat} {x y:ByteArray} (h:PB W b x y) (u v:Value) (hne:B≠b):PB ((W.setCell ⟨B,0,none⟩ u).setCell ⟨B,1,none⟩ v) b x y:=(h.other u hne).other v hne
theorem below_set2 {w W:World} {b:Nat} (h:Below w.heap.size w W) (hb:w.heap.size≤b) (u v:Value):Below w.heap.size w ((W.setCell ⟨b,0,none⟩ u).setCell ⟨b,1,none⟩ v):=(h.setCell (p:=⟨b,0,none⟩) (by simpa using hb) _).setCell (p:=⟨b,1,none⟩) (by simpa using hb) _
structure Cx (w:World) (a1 a2 b1 b2 c1 c2 d1 d2:ByteArray) (W:World):Prop where
 bel:Below w.heap.size w W
 b0:PB W (w.heap.size) a1 a2
 b1:PB W (w.heap.size+1) b1 b2
 b2:PB W (w.heap.size+1+1) c1 c2
 b3:PB W (w.heap.size+1+1+1) d1 d2
 b4:PB W (w.heap.size+1+1+1+1) ⟨#[]⟩ ⟨#[]⟩
section
variable {w W:World} {a1 a2 b1 b2 c1 c2 d1 d2:ByteArray}
theorem Cx.below {W':World} (h:Cx w a1 a2 b1 b2 c1 c2 d1 d2 W) (hb:Below W.heap.size W W'):Cx w a1 a2 b1 b2 c1 c2 d1 d2 W':=
 ⟨h.bel.trans (hb.mono h.bel.size),h.b0.below hb,h.b1.below hb,h.b2.below hb,h.b3.below hb,h.b4.below hb⟩
theorem Cx.swapA (h:Cx w a1 a2 b1 b2 c1 c2 d1 d2 W):Cx w b1 b2 a1 a2 c1 c2 d1 d2 ((((W.setCell ⟨w.heap.size,0,none⟩ (.string b1)).setCell ⟨w.heap.size,1,none⟩ (.string b2)).setCell ⟨w.heap.size+1,0,none⟩ (.string a1)).setCell ⟨w.heap.size+1,1,none⟩ (.string a2)):=
 ⟨below_set2 (below_set2 h.bel (by omega) _ _) (by omega) _ _,(h.b0.set b1 b2).set2 _ _ (by omega),(h.b1.set2 _ _ (by omega)).set a1 a2,(h.b2.set2 _ _ (by omega)).set2 _ _ (by omega),(h.b3.set2 _ _ (by omega)).set2 _ _ (by omega),(h.b4.set2 _ _ (by omega)).set2 _ _ (by omega)⟩
theorem Cx.swapC (h:Cx w a1 a2 b1 b2 c1 c2 d1 d2 W):Cx w a1 a2 b1 b2 d1 d2 c1 c2 ((((W.setCell ⟨w.heap.size+1+1,0,none⟩ (.string d1)).setCell ⟨w.heap.size+1+1,1,none⟩ (.string d2)).setCell ⟨w.heap.size+1+1+1,0,none⟩ (.string c1)).setCell ⟨w.heap.size+1+1+1,1,none⟩ (.string c2)):=
 ⟨below_set2 (below_set2 h.bel (by omega) _ _) (by omega) _ _,(h.b0.set2 _ _ (by omega)).set2 _ _ (by omega),(h.b1.set2 _ _ (by omega)).set2 _ _ (by omega),(h.b2.set d1 d2).set2 _ _ (by omega),(h.b3.set2 _ _ (by omega)).set c1 c2,(h.b4.set2 _ _ (by omega)).set2 _ _ (by omega)⟩
end
structure Dx (w:World) (c1 c2 d1 d2:ByteArray) (bl bh:Nat) (l1 l2 h1 h2:ByteArray) (W:World):Prop where
 bel:Below w.heap.size w W
 b2:PB W (w.heap.size+1+1) c1 c2
 b3:PB W (w.heap.size+1+1+1) d1 d2
 b4:PB W (w.heap.size+1+1+1+1) ⟨#[]⟩ ⟨#[]⟩
 lo:PB W bl l1 l2
 hi:PB W bh h1 h2
 hbl:w.heap.size+1+1+1+1<bl
 hbh:w.heap.size+1+1+1+1<bh
 hne:bl≠bh
section
variable {w W:World} {c1 c2 d1 d2 l1 l2 h1 h2:ByteArray} {bl bh:Nat}
theorem Dx.below {W':World} (h:Dx w c1 c2 d1 d2 bl bh l1 l2 h1 h2 W) (hb:Below W.heap.size W W'):Dx w c1 c2 d1 d2 bl bh l1 l2 h1 h2 W':=
 ⟨h.bel.trans (hb.mono h.bel.size),h.b2.below hb,h.b3.below hb,h.b4.below hb,h.lo.below hb,h.hi.below hb,h.hbl,h.hbh,h.hne⟩
theorem Dx.setL (h:Dx w c1 c2 d1 d2 bl bh l1 l2 h1 h2 W) (x y:ByteArray):Dx w c1 c2 d1 d2 bl bh x y h1 h2 ((W.setCell ⟨bl,0,none⟩ (.string x)).setCell ⟨bl,1,none⟩ (.string y)):=
 have:=h.hbl;have:=h.hbh;have:=h.hne
 ⟨below_set2 h.bel (by omega) _ _,h.b2.set2 _ _ (by omega),h.b3.set2 _ _ (by omega),h.b4.set2 _ _ (by omega),h.lo.set x y,h.hi.set2 _ _ (by omega),h.hbl,h.hbh,h.hne⟩
theorem Dx.setH (h:Dx w c1 c2 d1 d2 bl bh l1 l2 h1 h2 W) (x y:ByteArray):Dx w c1 c2 d1 d2 bl bh l1 l2 x y ((W.setCell ⟨bh,0,none⟩ (.string x)).setCell ⟨bh,1,none⟩ (.string y)):=
 have:=h.hbl;have:=h.hbh;have:=h.hne
 ⟨below_set2 h.bel (by omega) _ _,h.b2.set2 _ _ (by omega),h.b3.set2 _ _ (by omega),h.b4.set2 _ _ (by omega),h.lo.set2 _ _ (by omega),h.hi.set x y,h.hbl,h.hbh,h.hne⟩
end
def TwoDx (w:World) (c1 c2 d1 d2 l1 l2 h1 h2:ByteArray) (s t:Value) (W:World):Prop:=∃ bl bh,s=.pointer (some ⟨bl,0,none⟩)∧t=.pointer (some ⟨bh,0,none⟩)∧Dx w c1 c2 d1 d2 bl bh l1 l2 h1 h2 W
theorem mk_dx {w W wx:World} {l1 l2 h1 h2 c1 c2 d1 d2:ByteArray} (h:Cx w l1 l2 h1 h2 c1 c2 d1 d2 W) :
  (wx=((W.alloc (Obj.cells #[.string l1,.string l2] 30)).alloc (Obj.cells #[.string h1,.string h2] 30)).drew→TwoDx w c1 c2 d1 d2 l1 l2 h1 h2 (.pointer (some ⟨W.heap.size,0,none⟩)) (.pointer (some ⟨W.heap.size+1,0,none⟩)) wx) ∧
  (wx=((W.alloc (Obj.cells #[.string h1,.string h2] 30)).alloc (Obj.cells #[.string l1,.string l2] 30)).drew→TwoDx w c1 c2 d1 d2 l1 l2 h1 h2 (.pointer (some ⟨W.heap.size+1,0,none⟩)) (.pointer (some ⟨W.heap.size,0,none⟩)) wx):=by
 have l4:=lt_of_blk h.b4
 constructor
 ·intro e
  obtain ⟨b,x,y⟩:=boxes2 (w:=W) (a:=.string l1) (b:=.string l2) (c:=.string h1) (d:=.string h2) (t:=30) rfl
  have hb:Below W.heap.size W wx:=by rw [e];exact b.drew
  have hx:PB wx W.heap.size l1 l2:=by rw [e];exact x
  have hy:PB wx (W.heap.size+1) h1 h2:=by rw [e];exact y
  have h':=h.below hb
  exact ⟨_,_,rfl,rfl,h'.bel,h'.b2,h'.b3,h'.b4,hx,hy,l4,by omega,by omega⟩
 ·intro e
  obtain ⟨b,x,y⟩:=boxes2 (w:=W) (a:=.string h1) (b:=.string h2) (c:=.string l1) (d:=.string l2) (t:=30) rfl
  have hb:Below W.heap.size W wx:=by rw [e];exact b.drew
  have hx:PB wx W.heap.size h1 h2:=by rw [e];exact x
  have hy:PB wx (W.heap.size+1) l1 l2:=by rw [e];exact y
  have h':=h.below hb
  exact ⟨_,_,rfl,rfl,h'.bel,h'.b2,h'.b3,h'.b4,hy,hx,by omega,l4,by omega⟩
theorem boxes5 {w wA:World} {a1 a2 b1 b2 c1 c2 d1 d2:ByteArray} (hwA:wA=(((((w.alloc (Obj.cells #[.string a1,.string a2] 30)).alloc (Obj.cells #[.string b1,.string b2] 30)).alloc (Obj.cells #[.string c1,.string c2] 30)).alloc (Obj.cells #[.string d1,.string d2] 30)).alloc (Obj.cells #[.string ⟨#[]⟩,.string ⟨#[]⟩] 30))) :
  Cx w a1 a2 b1 b2 c1 c2 d1 d2 wA:=by
 obtain ⟨b,x,y,z⟩:=boxes3 (w:=w) (a:=.string a1) (b:=.string a2) (c:=.string b1) (d:=.string b2) (e:=.string c1) (f:=.string c2) (t:=30) rfl
 obtain ⟨w3,hw3⟩ : ∃ w3,w3=((w.alloc (Obj.cells #[.string a1,.string a2] 30)).alloc (Obj.cells #[.string b1,.string b2] 30)).alloc (Obj.cells #[.string c1,.string c2] 30):=⟨_,rfl⟩
 have hs:w3.heap.size=w.heap.size+1+1+1:=by rw [hw3];simp
 rw [←hw3] at b x y z hwA
 obtain ⟨b',x',y'⟩:=boxes2 (w:=w3) (a:=.string d1) (b:=.string d2) (c:=.string ⟨#[]⟩) (d:=.string ⟨#[]⟩) (t:=30) rfl
 rw [hs] at x' y'
 rw [hwA]
 exact ⟨b.trans (b'.mono b.size),(b'.block _ (lt_of_blk x)).trans x,(b'.block _ (lt_of_blk y)).trans y,(b'.block _ (lt_of_blk z)).trans z,x',y'⟩
theorem lo_hi (a b:QP):(0<lexI a b→lexLo a b=b∧lexHi a b=a)∧(¬ 0<lexI a b→lexLo a b=a∧lexHi a b=b):=by
 rw [lexI_pos]
 unfold lexLo lexHi
 exact ⟨fun h=>by rw [if_pos h,if_pos h];exact ⟨rfl,rfl⟩,fun h=>by rw [if_neg h,if_neg h];exact ⟨rfl,rfl⟩⟩
def comLo (a b c d:QP):QP:=if lssP (lexLo a b) (lexLo c d) then lexLo c d else lexLo a b
def comHi (a b c d:QP):QP:=if lssP (lexHi c d) (lexHi a b) then lexHi c d else lexHi a b
theorem collQ_eq (a b c d:QP):(0<lexI (comLo a b c d) (comHi a b c d)→collQ a b c d=.apart)∧(lexI (comLo a b c d) (comHi a b c d)=0→collQ a b c d=.touch (comLo a b c d))∧(lexI (comLo a b c d) (comHi a b c d)<0→collQ a b c d=.over):=by
 rw [lexI_pos,lexI_zero,lexI_neg]
 unfold collQ
 show (lssP (comHi a b c d) (comLo a b c d)→(if lssP (comHi a b c d) (comLo a b c d) then Hw.apart else if comLo a b c d=comHi a b c d then .touch (comLo a b c d) else .over)=_)∧(comLo a b c d=comHi a b c d→(if lssP (comHi a b c d) (comLo a b c d) then Hw.apart else if comLo a b c d=comHi a b c d then .touch (comLo a b c d) else .over)=_)∧(lssP (comLo a b c d) (comHi a b c d)→(if lssP (comHi a b c d) (comLo a b c d) then Hw.apart else if comLo a b c d=comHi a b c d then .touch (comLo a b c d) else .over)=_)
 generalize comLo a b c d=l
 generalize comHi a b c d=h
 refine ⟨fun x=>if_pos x,fun x=>?_,fun x=>?_⟩
 ·subst x
  rw [if_neg lssP_irrefl,if_pos rfl]
 ·rw [if_neg (lssP_asymm x),if_neg (fun e=>lssP_irrefl (e ▸ x))]
theorem sz_lo {m:Nat} {a b:QP} (ha:Sz2 m a) (hb:Sz2 m b):Sz2 m (lexLo a b)∧Sz2 m (lexHi a b):=by
 unfold lexLo lexHi
 split
 ·exact ⟨hb,ha⟩
 ·exact ⟨ha,hb⟩
theorem sz_com {m:Nat} {a b c d:QP} (ha:Sz2 m a) (hb:Sz2 m b) (hc:Sz2 m c) (hd:Sz2 m d):Sz2 m (comLo a b c d)∧Sz2 m (comHi a b c d):=by
 have x:=sz_lo ha hb
 have y:=sz_lo hc hd
 unfold comLo comHi
 constructor
 ·split
  ·exact y.1
  ·exact x.1
 ·split
  ·exact y.2
  ·exact x.2
theorem com_lo (a b c d:QP):(0<lexI (lexLo c d) (lexLo a b)→comLo a b c d=lexLo c d)∧(¬ 0<lexI (lexLo c d) (lexLo a b)→comLo a b c d=lexLo a b):=by
 rw [lexI_pos]
 exact ⟨fun h=>if_pos h,fun h=>if_neg h⟩
theorem com_hi (a b c d:QP):(lexI (lexHi c d) (lexHi a b)<0→comHi a b c d=lexHi c d)∧(¬ lexI (lexHi c d) (lexHi a b)<0→comHi a b c d=lexHi a b):=by
 rw [lexI_neg]
 exact ⟨fun h=>if_pos h,fun h=>if_neg h⟩
theorem pick2 {a b l h:QP} {g:Int} (H:(0<g→l=b∧h=a)∧(¬ 0<g→l=a∧h=b)):(0<g→tx l.1=tx b.1∧tx l.2=tx b.2∧tx h.1=tx a.1∧tx h.2=tx a.2)∧(¬ 0<g→tx l.1=tx a.1∧tx l.2=tx a.2∧tx h.1=tx b.1∧tx h.2=tx b.2):=
 ⟨fun x=>by rw [(H.1 x).1,(H.1 x).2];exact ⟨rfl,rfl,rfl,rfl⟩,fun x=>by rw [(H.2 x).1,(H.2 x).2];exact ⟨rfl,rfl,rfl,rfl⟩⟩
theorem pick1 {p q r:QP} {P:Prop} (H:(P→r=p)∧(¬ P→r=q)):(P→tx r.1=tx p.1∧tx r.2=tx p.2)∧(¬ P→tx r.1=tx q.1∧tx r.2=tx q.2):=
 ⟨fun x=>by rw [H.1 x];exact ⟨rfl,rfl⟩,fun x=>by rw [H.2 x];exact ⟨rfl,rfl⟩⟩
theorem pl_collinear (a b c d:QP) (ha:Sz2 1000000 a) (hb:Sz2 1000000 b) (hc:Sz2 1000000 c) (hd:Sz2 1000000 d) (w:World) (hw:Good w) :
  Calls Tryz.prog 139 #[ptV a,ptV b,ptV c,ptV d] w (RV (.tuple #[.int .i64 (howI (collQ a b c d)),howV (collQ a b c d)]) w):=by
 have R1:=hid (fun w' (hg:Good w')=>pl_compare a b ha hb w' hg)
 have R2:=hid (fun w' (hg:Good w')=>pl_compare c d hc hd w' hg)
 have R3:=hid (fun w' (hg:Good w')=>pl_compare (lexLo c d) (lexLo a b) (sz_lo hc hd).1 (sz_lo ha hb).1 w' hg)
 have R4:=hid (fun w' (hg:Good w')=>pl_compare (lexHi c d) (lexHi a b) (sz_lo hc hd).2 (sz_lo ha hb).2 w' hg)
 have R5:=hid (fun w' (hg:Good w')=>pl_compare (comLo a b c d) (comHi a b c d) (sz_com ha hb hc hd).1 (sz_com ha hb hc hd).2 w' hg)
 have P1:=hid (pick2 (lo_hi a b))
 have P2:=hid (pick2 (lo_hi c d))
 have P3:=hid (pick1 (com_lo a b c d))
 have P4:=hid (pick1 (com_hi a b c d))
 have P5:=collQ_eq a b c d
 have Q5:(0<lexI (comLo a b c d) (comHi a b c d)→howI (collQ a b c d)=0∧howV (collQ a b c d)=.agg #[.string ⟨#[]⟩,.string ⟨#[]⟩])∧(lexI (comLo a b c d) (comHi a b c d)=0→howI (collQ a b c d)=1∧howV (collQ a b c d)=ptV (comLo a b c d))∧(lexI (comLo a b c d) (comHi a b c d)<0→howI (collQ a b c d)=2∧howV (collQ a b c d)=.agg #[.string ⟨#[]⟩,.string ⟨#[]⟩]):=
  ⟨fun h=>by rw [P5.1 h];exact ⟨rfl,rfl⟩,fun h=>by rw [P5.2.1 h];exact ⟨rfl,rfl⟩,fun h=>by rw [P5.2.2 h];exact ⟨rfl,rfl⟩⟩
 clear P5
 have g1:=hid (lexI_cases a b)
 have g2:=hid (lexI_cases c d)
 have g3:=hid (lexI_cases (lexLo c d) (lexLo a b))
 have g4:=hid (lexI_cases (lexHi c d) (lexHi a b))
 have g5:=hid (lexI_cases (comLo a b c d) (comHi a b c d))
 unfold RV at R1 R2 R3 R4 R5
 clear ha hb hc hd
 unfold ptV at *
 generalize howI (collQ a b c d)=hI at *
 generalize howV (collQ a b c d)=hV at *
 generalize lexI a b=x1 at *
 generalize lexI c d=x2 at *
 generalize lexI (lexLo c d) (lexLo a b)=x3 at *
 generalize lexI (lexHi c d) (lexHi a b)=x4 at *
 generalize lexI (comLo a b c d) (comHi a b c d)=x5 at *
 generalize tx (comLo a b c d).1=o1 at *
 generalize tx (comLo a b c d).2=o2 at *
 generalize tx (comHi a b c d).1=q1 at *
 generalize tx (comHi a b c d).2=q2 at *
 generalize tx (lexLo a b).1=l1 at *
 generalize tx (lexLo a b).2=l2 at *
 generalize tx (lexHi a b).1=h1 at *
 generalize tx (lexHi a b).2=h2 at *
 generalize tx (lexLo c d).1=m1 at *
 generalize tx (lexLo c d).2=m2 at *
 generalize tx (lexHi c d).1=k1 at *
 generalize tx (lexHi c d).2=k2 at *
 generalize tx a.1=a1 at *
 generalize tx a.2=a2 at *
 generalize tx b.1=b1 at *
 generalize tx b.2=b2 at *
 generalize tx c.1=c1 at *
 generalize tx c.2=c2 at *
 generalize tx d.1=d1 at *
 generalize tx d.2=d2 at *
 have S5:=hid Q5
 clear Q5
 go_enter Tryz.func139,Tryz.ntmps139
 go_upto_region 1 with fail
 obtain ⟨wA,hwA⟩ : ∃ wA,wA=(((((w.alloc (Obj.cells #[.string a1,.string a2] 30)).alloc (Obj.cells #[.string b1,.string b2] 30)).alloc (Obj.cells #[.string c1,.string c2] 30)).alloc (Obj.cells #[.string d1,.string d2] 30)).alloc (Obj.cells #[.string ⟨#[]⟩,.string ⟨#[]⟩] 30)):=⟨_,rfl⟩
 have hA:=boxes5 hwA
 rw [←hwA]
 clear hwA
 have lt0:=lt_of_blk hA.b0
 obtain ⟨c00,c01,f00,f01⟩:=two_cells hA.b0
 have lt1:=lt_of_blk hA.b1
 obtain ⟨c10,c11,f10,f11⟩:=two_cells hA.b1
 have lt2:=lt_of_blk hA.b2
 obtain ⟨c20,c21,f20,f21⟩:=two_cells hA.b2
 have lt3:=lt_of_blk hA.b3
 obtain ⟨c30,c31,f30,f31⟩:=two_cells hA.b3
 have lt4:=lt_of_blk hA.b4
 obtain ⟨c40,c41,f40,f41⟩:=two_cells hA.b4
 have HS:=hid hA
 go_wp2_with fail
 refine (R1.out _ (hw.below hA.bel)).mono ?_
 rintro e v1 ⟨rfl,hv⟩
 have hS:=hA.below hv
 clear lt0 c00 c01 f00 f01 lt1 c10 c11 f10 f11 lt2 c20 c21 f20 f21 lt3 c30 c31 f30 f31 lt4 c40 c41 f40 f41
 clear HS
 have lt0:=lt_of_blk hS.b0
 obtain ⟨c00,c01,f00,f01⟩:=two_cells hS.b0
 have lt1:=lt_of_blk hS.b1
 obtain ⟨c10,c11,f10,f11⟩:=two_cells hS.b1
 have lt2:=lt_of_blk hS.b2
 obtain ⟨c20,c21,f20,f21⟩:=two_cells hS.b2
 have lt3:=lt_of_blk hS.b3
 obtain ⟨c30,c31,f30,f31⟩:=two_cells hS.b3
 have lt4:=lt_of_blk hS.b4
 obtain ⟨c40,c41,f40,f41⟩:=two_cells hS.b4
 have HS:=hid hS
 clear hS
 go_upto_if 16 with fail
 go_cut [] from 13 to 48 (fun wx=>Cx w l1 l2 h1 h2 c1 c2 d1 d2 wx)
 case first =>
  rcases g1.out with rfl | rfl | rfl
  ·obtain ⟨rfl,rfl,rfl,rfl⟩:=P1.out.2 (by decide)
   go_wp2
   go_meet
   exact HS.out
  ·obtain ⟨rfl,rfl,rfl,rfl⟩:=P1.out.2 (by decide)
   go_wp2
   go_meet
   exact HS.out
  ·obtain ⟨rfl,rfl,rfl,rfl⟩:=P1.out.1 (by decide)
   go_wp2
   go_meet
   exact HS.out.swapA
 case rest =>
 have hcut2:=hcut
 clear HS
 clear lt0 c00 c01 f00 f01 lt1 c10 c11 f10 f11 lt2 c20 c21 f20 f21 lt3 c30 c31 f30 f31 lt4 c40 c41 f40 f41
 clear hcut2
 obtain ⟨wq,hwq⟩ : ∃ q,q=wc:=⟨_,rfl⟩
 subst hwq
 have lt0:=lt_of_blk hcut.b0
 obtain ⟨c00,c01,f00,f01⟩:=two_cells hcut.b0
 have lt1:=lt_of_blk hcut.b1
 obtain ⟨c10,c11,f10,f11⟩:=two_cells hcut.b1
 have lt2:=lt_of_blk hcut.b2
 obtain ⟨c20,c21,f20,f21⟩:=two_cells hcut.b2
 have lt3:=lt_of_blk hcut.b3
 obtain ⟨c30,c31,f30,f31⟩:=two_cells hcut.b3
 have lt4:=lt_of_blk hcut.b4
 obtain ⟨c40,c41,f40,f41⟩:=two_cells hcut.b4
 have HS:=hid hcut
 go_wp2_with fail
 refine (R2.out _ (hw.below hcut.bel)).mono ?_
 rintro e v2 ⟨rfl,hv⟩
 have hS:=hcut.below hv
 clear lt0 c00 c01 f00 f01 lt1 c10 c11 f10 f11 lt2 c20 c21 f20 f21 lt3 c30 c31 f30 f31 lt4 c40 c41 f40 f41
 clear HS
 have lt0:=lt_of_blk hS.b0
 obtain ⟨c00,c01,f00,f01⟩:=two_cells hS.b0
 have lt1:=lt_of_blk hS.b1
 obtain ⟨c10,c11,f10,f11⟩:=two_cells hS.b1
 have lt2:=lt_of_blk hS.b2
 obtain ⟨c20,c21,f20,f21⟩:=two_cells hS.b2
 have lt3:=lt_of_blk hS.b3
 obtain ⟨c30,c31,f30,f31⟩:=two_cells hS.b3
 have lt4:=lt_of_blk hS.b4
 obtain ⟨c40,c41,f40,f41⟩:=two_cells hS.b4
 have HS:=hid hS
 clear hS
 go_upto_if 22 with fail
 go_cut [] from 13 to 48 (fun wx=>Cx w l1 l2 h1 h2 m1 m2 k1 k2 wx)
 case first =>
  rcases g2.out with rfl | rfl | rfl
  ·obtain ⟨rfl,rfl,rfl,rfl⟩:=P2.out.2 (by decide)
   go_wp2
   go_meet
   exact HS.out
  ·obtain ⟨rfl,rfl,rfl,rfl⟩:=P2.out.2 (by decide)
   go_wp2
   go_meet
   exact HS.out
  ·obtain ⟨rfl,rfl,rfl,rfl⟩:=P2.out.1 (by decide)
   go_wp2
   go_meet
   exact HS.out.swapC
 case rest =>
 have hcut2:=hcut
 clear HS
 clear lt0 c00 c01 f00 f01 lt1 c10 c11 f10 f11 lt2 c20 c21 f20 f21 lt3 c30 c31 f30 f31 lt4 c40 c41 f40 f41
 clear hcut2
 obtain ⟨wq,hwq⟩ : ∃ q,q=wc:=⟨_,rfl⟩
 subst hwq
 have MKB:=hid (fun (wx:World)=>mk_dx (wx:=wx) hcut)
 have lt0:=lt_of_blk hcut.b0
 obtain ⟨c00,c01,f00,f01⟩:=two_cells hcut.b0
 have lt1:=lt_of_blk hcut.b1
 obtain ⟨c10,c11,f10,f11⟩:=two_cells hcut.b1
 have lt2:=lt_of_blk hcut.b2
 obtain ⟨c20,c21,f20,f21⟩:=two_cells hcut.b2
 have lt3:=lt_of_blk hcut.b3
 obtain ⟨c30,c31,f30,f31⟩:=two_cells hcut.b3
 clear hcut
 go_upto_region 5 with fail
 go_cut [10,11] from 13 to 48 (fun s10 s11 wx=>TwoDx w m1 m2 k1 k2 l1 l2 h1 h2 s10 s11 wx)
 case first =>
  go_region
  all_goals (go_wp2;go_meet;first | exact (MKB.out _).1 rfl | exact (MKB.out _).2 rfl)
 case rest =>
 clear MKB
 clear lt0 c00 c01 f00 f01 lt1 c10 c11 f10 f11 lt2 c20 c21 f20 f21 lt3 c30 c31 f30 f31
 obtain ⟨bl,bh,rfl,rfl,hcut⟩:=hcut
 obtain ⟨wq,hwq⟩ : ∃ q,q=wc:=⟨_,rfl⟩
 subst hwq
 have lt0:=lt_of_blk hcut.b2
 obtain ⟨c00,c01,f00,f01⟩:=two_cells hcut.b2
 have lt1:=lt_of_blk hcut.b3
 obtain ⟨c10,c11,f10,f11⟩:=two_cells hcut.b3
 have lt2:=lt_of_blk hcut.b4
 obtain ⟨c20,c21,f20,f21⟩:=two_cells hcut.b4
 have lt3:=lt_of_blk hcut.lo
 obtain ⟨c30,c31,f30,f31⟩:=two_cells hcut.lo
 have lt4:=lt_of_blk hcut.hi
 obtain ⟨c40,c41,f40,f41⟩:=two_cells hcut.hi
 have HS:=hid hcut
 go_wp2_with fail
 refine (R3.out _ (hw.below hcut.bel)).mono ?_
 rintro e v3 ⟨rfl,hv⟩
 have hS:=hcut.below hv
 clear lt0 c00 c01 f00 f01 lt1 c10 c11 f10 f11 lt2 c20 c21 f20 f21 lt3 c30 c31 f30 f31 lt4 c40 c41 f40 f41
 clear HS
 have lt0:=lt_of_blk hS.b2
 obtain ⟨c00,c01,f00,f01⟩:=two_cells hS.b2
 have lt1:=lt_of_blk hS.b3
 obtain ⟨c10,c11,f10,f11⟩:=two_cells hS.b3
 have lt2:=lt_of_blk hS.b4
 obtain ⟨c20,c21,f20,f21⟩:=two_cells hS.b4
 have lt3:=lt_of_blk hS.lo
 obtain ⟨c30,c31,f30,f31⟩:=two_cells hS.lo
 have lt4:=lt_of_blk hS.hi
 obtain ⟨c40,c41,f40,f41⟩:=two_cells hS.hi
 have HS:=hid hS
 clear hS
 go_upto_if 30 with fail
 go_cut [] from 13 to 48 (fun wx=>Dx w m1 m2 k1 k2 bl bh o1 o2 h1 h2 wx)
 case first =>
  rcases g3.out with rfl | rfl | rfl
  ·obtain ⟨rfl,rfl⟩:=P3.out.2 (by decide)
   go_wp2
   go_meet
   exact HS.out
  ·obtain ⟨rfl,rfl⟩:=P3.out.2 (by decide)
   go_wp2
   go_meet
   exact HS.out
  ·obtain ⟨rfl,rfl⟩:=P3.out.1 (by decide)
   go_wp2
   go_meet
   exact HS.out.setL _ _
 case rest =>
 have hcut2:=hcut
 clear HS
 clear lt0 c00 c01 f00 f01 lt1 c10 c11 f10 f11 lt2 c20 c21 f20 f21 lt3 c30 c31 f30 f31 lt4 c40 c41 f40 f41
 clear hcut2
 obtain ⟨wq,hwq⟩ : ∃ q,q=wc:=⟨_,rfl⟩
 subst hwq
 have lt0:=lt_of_blk hcut.b2
 obtain ⟨c00,c01,f00,f01⟩:=two_cells hcut.b2
 have lt1:=lt_of_blk hcut.b3
 obtain ⟨c10,c11,f10,f11⟩:=two_cells hcut.b3
 have lt2:=lt_of_blk hcut.b4
 obtain ⟨c20,c21,f20,f21⟩:=two_cells hcut.b4
 have lt3:=lt_of_blk hcut.lo
 obtain ⟨c30,c31,f30,f31⟩:=two_cells hcut.lo
 have lt4:=lt_of_blk hcut.hi
 obtain ⟨c40,c41,f40,f41⟩:=two_cells hcut.hi
 have HS:=hid hcut
 go_wp2_with fail
 refine (R4.out _ (hw.below hcut.bel)).mono ?_
 rintro e v4 ⟨rfl,hv⟩
 have hS:=hcut.below hv
 clear lt0 c00 c01 f00 f01 lt1 c10 c11 f10 f11 lt2 c20 c21 f20 f21 lt3 c30 c31 f30 f31 lt4 c40 c41 f40 f41
 clear HS
 have lt0:=lt_of_blk hS.b2
 obtain ⟨c00,c01,f00,f01⟩:=two_cells hS.b2
 have lt1:=lt_of_blk hS.b3
 obtain ⟨c10,c11,f10,f11⟩:=two_cells hS.b3
 have lt2:=lt_of_blk hS.b4
 obtain ⟨c20,c21,f20,f21⟩:=two_cells hS.b4
 have lt3:=lt_of_blk hS.lo
 obtain ⟨c30,c31,f30,f31⟩:=two_cells hS.lo
 have lt4:=lt_of_blk hS.hi
 obtain ⟨c40,c41,f40,f41⟩:=two_cells hS.hi
 have HS:=hid hS
 clear hS
 go_upto_if 35 with fail
 go_cut [] from 13 to 48 (fun wx=>Dx w m1 m2 k1 k2 bl bh o1 o2 q1 q2 wx)
 case first =>
  rcases g4.out with rfl | rfl | rfl
  ·obtain ⟨rfl,rfl⟩:=P4.out.1 (by decide)
   go_wp2
   go_meet
   exact HS.out.setH _ _
  ·obtain ⟨rfl,rfl⟩:=P4.out.2 (by decide)
   go_wp2
   go_meet
   exact HS.out
  ·obtain ⟨rfl,rfl⟩:=P4.out.2 (by decide)
   go_wp2
   go_meet
   exact HS.out
 case rest =>
 have hcut2:=hcut
 clear HS
 clear lt0 c00 c01 f00 f01 lt1 c10 c11 f10 f11 lt2 c20 c21 f20 f21 lt3 c30 c31 f30 f31 lt4 c40 c41 f40 f41
 clear hcut2
 obtain ⟨wq,hwq⟩ : ∃ q,q=wc:=⟨_,rfl⟩
 subst hwq
 have lt0:=lt_of_blk hcut.b2
 obtain ⟨c00,c01,f00,f01⟩:=two_cells hcut.b2
 have lt1:=lt_of_blk hcut.b3
 obtain ⟨c10,c11,f10,f11⟩:=two_cells hcut.b3
 have lt2:=lt_of_blk hcut.b4
 obtain ⟨c20,c21,f20,f21⟩:=two_cells hcut.b4
 have lt3:=lt_of_blk hcut.lo
 obtain ⟨c30,c31,f30,f31⟩:=two_cells hcut.lo
 have lt4:=lt_of_blk hcut.hi
 obtain ⟨c40,c41,f40,f41⟩:=two_cells hcut.hi
 have HS:=hid hcut
 go_wp2_with fail
 refine (R5.out _ (hw.below hcut.bel)).mono ?_
 rintro e v5 ⟨rfl,hv⟩
 have hS:=hcut.below hv
 clear lt0 c00 c01 f00 f01 lt1 c10 c11 f10 f11 lt2 c20 c21 f20 f21 lt3 c30 c31 f30 f31 lt4 c40 c41 f40 f41
 clear HS
 have lt0:=lt_of_blk hS.b2
 obtain ⟨c00,c01,f00,f01⟩:=two_cells hS.b2
 have lt1:=lt_of_blk hS.b3
 obtain ⟨c10,c11,f10,f11⟩:=two_cells hS.b3
 have lt2:=lt_of_blk hS.b4
 obtain ⟨c20,c21,f20,f21⟩:=two_cells hS.b4
 have lt3:=lt_of_blk hS.lo
 obtain ⟨c30,c31,f30,f31⟩:=two_cells hS.lo
 have lt4:=lt_of_blk hS.hi
 obtain ⟨c40,c41,f40,f41⟩:=two_cells hS.hi
 have HS:=hid hS
 clear hS
 rcases g5.out with rfl | rfl | rfl
 ·obtain ⟨rfl,rfl⟩:=S5.out.2.2 (by decide)
  obtain ⟨q0,q1,_,_⟩:=two_cells (HS.out.b4.set ⟨#[]⟩ ⟨#[]⟩)
  have Q0:=hid q0
  have Q1:=hid q1
  clear q0 q1
  go_wp2
  have q0:=Q0.out
  have q1:=Q1.out
  refine bodyPost_ret (v:=.tuple #[.int .i64 2,.agg #[.string ⟨#[]⟩,.string ⟨#[]⟩]]) (by simp [results,Tryz.results139,go_sem,q0,q1]) rfl ⟨rfl,?_⟩
  first | exact below_set2 HS.out.bel (by omega) _ _ | exact (below_set2 HS.out.bel (by omega) _ _).drew
 ·obtain ⟨rfl,rfl⟩:=S5.out.2.1 (by decide)
  obtain ⟨q0,q1,_,_⟩:=two_cells (HS.out.b4.set o1 o2)
  have Q0:=hid q0
  have Q1:=hid q1
  clear q0 q1
  go_wp2_with fail
  go_region
  all_goals (go_wp2;have q0:=Q0.out;have q1:=Q1.out;refine bodyPost_ret (v:=.tuple #[.int .i64 1,.agg #[.string o1,.string o2]]) (by simp [results,Tryz.results139,go_sem,q0,q1]) rfl ⟨rfl,?_⟩;first | exact below_set2 HS.out.bel (by omega) _ _ | exact (below_set2 HS.out.bel (by omega) _ _).drew)
 ·obtain ⟨rfl,rfl⟩:=S5.out.1 (by decide)
  obtain ⟨q0,q1,_,_⟩:=two_cells (HS.out.b4.set ⟨#[]⟩ ⟨#[]⟩)
  have Q0:=hid q0
  have Q1:=hid q1
  clear q0 q1
  go_wp2
  have q0:=Q0.out
  have q1:=Q1.out
  refine bodyPost_ret (v:=.tuple #[.int .i64 0,.agg #[.string ⟨#[]⟩,.string ⟨#[]⟩]]) (by simp [results,Tryz.results139,go_sem,q0,q1]) rfl ⟨rfl,?_⟩
  first | exact below_set2 HS.out.bel (by omega) _ _ | exact (below_set2 HS.out.bel (by omega) _ _).drew
end Go.Proofs.YtogdahbbogimcaaGreatDoor
