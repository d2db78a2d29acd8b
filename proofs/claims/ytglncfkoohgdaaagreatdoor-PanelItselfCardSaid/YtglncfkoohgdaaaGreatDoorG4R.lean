import Derived.Test.YtglncfkoohgdaaaGreatDoorE13R
import Derived.Lib.AppendZerosOnto
import Derived.Lib.SliceRun
import Derived.Test.YtglncfkoohgdaaaGreatDoorMathR
import Derived.Test.YtglncfkoohgdaaaGreatDoorHul1R
import Derived.Test.YtglncfkoohgdaaaGreatDoorE15R
set_option maxRecDepth 100000
set_option maxHeartbeats 8000000
namespace Go.Proofs.YtglncfkoohgdaaaGreatDoor
open Go.RowKit Go.Shelf Go.Lib
open Go.Lib (hid)
def tX (w:World) (v:Value) (L:List ByteArray):Prop:=∃ p c,v=.slice p L.length c∧L.length≤c∧c≤maxLen∧(0<L.length→∃ b off,p=some ⟨b,off,none⟩∧b<w.heap.size∧∀ i (h:i<L.length),w.cell? ⟨b,off+i,none⟩=some (.string L[i]))
theorem tX.below {w w':World} {v:Value} {L:List ByteArray} (h:tX w v L) (hb:Below w.heap.size w w'):tX w' v L:=by
 obtain ⟨p,c,h1,h2,h3,h4⟩:=h
 refine ⟨p,c,h1,h2,h3,fun h0=>?_⟩
 obtain ⟨b,off,k1,k2,k3⟩:=h4 h0
 exact ⟨b,off,k1,Nat.lt_of_lt_of_le k2 hb.size,fun i hi=>(hb.cell (p:=⟨b,off+i,none⟩) k2).trans (k3 i hi)⟩
theorem tX.slice {w:World} {v:Value} {L:List ByteArray} (h:tX w v L):∃ p c,v=.slice p L.length c∧L.length≤c∧c≤maxLen:=by
 obtain ⟨p,c,h1,h2,h3,_⟩:=h
 exact ⟨p,c,h1,h2,h3⟩
theorem tX.at {w:World} {p:Option Addr} {n c:Nat} {L:List ByteArray} (h:tX w (.slice p n c) L) {i:Nat} (hi:i<L.length):∃ b off,p=some ⟨b,off,none⟩∧b<w.heap.size∧w.cell? ⟨b,off+i,none⟩=some (.string L[i]):=by
 obtain ⟨p',c',h1,h2,h3,h4⟩:=h
 cases h1
 obtain ⟨b,off,k1,k2,k3⟩:=h4 (by omega)
 exact ⟨b,off,k1,k2,k3 i hi⟩
def jy (L:List ByteArray):List Value:=L.map Value.string
theorem vH (L:List ByteArray):(jy L).length=L.length:=List.length_map ..
theorem MX (L:List ByteArray):∀ u∈jy L,u.oneCell'=true:=by
 intro u hu
 unfold jy at hu
 obtain ⟨s,_,rfl⟩:=List.mem_map.1 hu
 rfl
theorem Ev {w:World} {base:Nat} {e:TypeId} {v:Value} {L:List ByteArray} (h:w.ownsRow base e 1 v L.length (jy L)):tX w v L:=by
 obtain ⟨_,p,c,rfl,hc,hm,hx⟩:=Reads.bu h
 refine ⟨p,c,rfl,hc,hm,fun h0=>?_⟩
 obtain ⟨b,off,hp,hbl,hcell⟩:=hx h0
 refine ⟨b,off,hp,hbl,fun i hi=>?_⟩
 have h1:=hcell i (by rw [vH];exact hi)
 rw [h1]
 unfold jy
 simp
theorem QF (n:Nat) (h0:0<n) (hn:n≤1000000) (w:World) :
  Calls Tryz.prog 173 #[.slice none 0 0,.int .i64 (n:Int)] w fun e w'=>∃ v,e=.returned v∧w'.ownsRow w.heap.size 33 1 v 0 []∧Below w.heap.size w w':=by
 obtain ⟨i0,hi,hz0,hz1,hz2⟩:=info_parts yD.info
 have hold:(Builtin.firstCells i0.size 0 (.slice none 0 0)).run Tryz.prog w.drew=.ok (([]:List Value).toArray) w.drew:=run_firstCells_none w.drew i0.size 0 0 0
 have hg0:grownCap w (0+n) 0 33≤maxLen:=grownCap_le_maxLen w _ _ _ (by unfold maxLen;omega)
 have hgn:0+n≤grownCap w (0+n) 0 33:=grownCap_ge w _ _ _
 have hrz:∀ ty,(Builtin.append_ #[32,3] ty #[.slice none 0 0,.int .i64 (n:Int)]).run Tryz.prog w =
   .ok (.slice (some ⟨w.heap.size,0,none⟩) (0+n) (grownCap w (0+n) 0 33)) (w.drew.alloc (.cells (([]:List Value).toArray++Builtin.zeroCells (Value.cells (.string ⟨#[]⟩)) n++Builtin.zeroCells (Value.cells (.string ⟨#[]⟩)) (grownCap w (0+n) 0 33-(0+n))) 33)):=fun ty =>
  Lib.run_append_grow_zeros w 32 3 ty 33 i0 (.string ⟨#[]⟩) .i64 .i64 Tryz.underlying32 Tryz.underlying3 hi hz0 none 0 0 [] hold n h0 (by rw [hz1];decide) (by omega) (by omega) (by rw [hz2];omega)
   (by rw [hz2];exact growslice_fits (by omega) (by omega))
 generalize hG:grownCap w (0+n) 0 33=G at *
 have hsz:(([]:List Value).toArray++Builtin.zeroCells (Value.cells (.string ⟨#[]⟩)) n++Builtin.zeroCells (Value.cells (.string ⟨#[]⟩)) (G-(0+n))).size=G*1:=by
  rw [Array.size_append,Array.size_append,size_zeroCells,size_zeroCells,yD.hzs]
  show 0+n*1+(G-(0+n))*1=G*1
  omega
 generalize (([]:List Value).toArray++Builtin.zeroCells (Value.cells (.string ⟨#[]⟩)) n++Builtin.zeroCells (Value.cells (.string ⟨#[]⟩)) (G-(0+n)))=Z at *
 have hown:=World.ownsRow_made (e:=33) (size:=1) (base:=w.heap.size) w.drew Z G (by simp) hg0 hsz
 have hb:Below w.heap.size w (w.drew.alloc (.cells Z 33)):=(Below.refl _ _).drew.alloc (by simp) _
 have HOWN:=hid hown
 have HB:=hid hb
 have h1:decide ((n:Int)<0)=false:=decide_eq_false (by omega)
 have h2:decide ((0:Int)<(n:Int))=true:=decide_eq_true (by omega)
 have h3:IntKind.i64.wrap (n:Int)=(n:Int):=IntWalk.i64_in _ (by omega)
 have hGm:G≤9223372036854775807:=by unfold maxLen at hg0;omega
 rw [Nat.zero_add] at hrz hgn
 clear hold hown hb hsz hG hg0
 go_enter Tryz.func173,Tryz.ntmps173
 go_wp2_with (at_builtin;refine Lib.wpList_append_run _ rfl _ _ _ _ rfl _ _ rfl rfl _ _ (hrz _) ?_)
 go_ret
 exact ⟨_,rfl,HOWN.out,HB.out⟩
def yO (LA LB:List ByteArray):Nat→List ByteArray
 | 0=>[]
 | 1=>LA
 | _=>LA++LB
theorem QG {w:World} {b off:Nat} {L:List ByteArray} (h:∀ i (h:i<L.length),w.cell? ⟨b,off+i,none⟩=some (.string L[i])) :
  ∀ (j:Nat) (u:Value),(jy L)[j]?=some u→w.cell? ((⟨b,off,none⟩ : Addr).add j)=some u:=by
 intro j u hj
 have hjl:j<L.length:=by have:=(List.getElem?_eq_some_iff.1 hj).1;rwa [vH] at this
 rw [show (⟨b,off,none⟩ : Addr).add j=⟨b,off+j,none⟩ by unfold Addr.add;split;(rename_i h0;rw [h0];rfl);rfl,h j hjl,←hj]
 unfold jy
 simp [hjl]
def He (L:List ByteArray) (w:World) (ov:Value) (wr:World):Prop:=wr.ownsRow w.heap.size 33 1 ov L.length (jy L)∧Below w.heap.size w wr
theorem Ew (A B:List ByteArray):jy (A++B)=jy A++jy B:=by unfold jy;rw [List.map_append]
def xD (w:World) (v:Value) (L:List ByteArray):Prop:=∃ b off c,v=.slice (some ⟨b,off,none⟩) L.length c∧L.length≤c∧c≤maxLen∧b<w.heap.size∧∀ i (h:i<L.length),w.cell? ⟨b,off+i,none⟩=some (.string L[i])
theorem tX.pos {w:World} {v:Value} {L:List ByteArray} (h:tX w v L) (h0:0<L.length):xD w v L:=by
 obtain ⟨p,c,h1,h2,h3,h4⟩:=h
 obtain ⟨b,off,rfl,k2,k3⟩:=h4 h0
 exact ⟨b,off,c,h1,h2,h3,k2,k3⟩
theorem xD.below {w w':World} {v:Value} {L:List ByteArray} (h:xD w v L) (hb:Below w.heap.size w w'):xD w' v L:=by
 obtain ⟨b,off,c,hv,hc,hm,hbl,hcell⟩:=h
 exact ⟨b,off,c,hv,hc,hm,Nat.lt_of_lt_of_le hbl hb.size,fun i hi=>(hb.cell (p:=⟨b,off+i,none⟩) hbl).trans (hcell i hi)⟩
theorem QH {LA LB:List ByteArray} {va vb:Value} {w:World} {B k:Nat} (hk:k<2) (h0:w.cell? ⟨B,0,none⟩=some va) (h1:w.cell? ⟨B,1,none⟩=some vb) (hA:xD w va LA) (hB:xD w vb LB) (la:LA.length≤1000) (lb:LB.length≤1000) :
  ∃ (u:Value) (R:List ByteArray),w.cell? ⟨B,k,none⟩=some u∧xD w u R∧R.length≤1000∧(yO LA LB k).length≤1000∧yO LA LB (k+1)=yO LA LB k++R:=by
 match k,hk with
 | 0,_=>exact ⟨va,LA,h0,hA,la,Nat.zero_le _,rfl⟩
 | 1,_=>exact ⟨vb,LB,h1,hB,lb,la,rfl⟩
def Kt (L:List ByteArray) (w:World) (e:Ending) (w':World):Prop:=∃ v,e=.returned v∧tX w' v L∧Below w.heap.size w w'
theorem CS (B cap:Nat) (va vb:Value) (LA LB:List ByteArray) (w:World) (hBl:B<w.heap.size) (h0:w.cell? ⟨B,0,none⟩=some va) (h1:w.cell? ⟨B,1,none⟩=some vb)
  (hA:xD w va LA) (hB:xD w vb LB) (pa:0<LA.length) (la:LA.length≤1000) (lb:LB.length≤1000) :
  Calls Tryz.prog 101 #[.slice (some ⟨B,0,none⟩) 2 cap] w (Kt (LA++LB) w):=by
 have qR:=hid (fun k (hk:k<2)=>QH hk h0 h1 hA hB la lb)
 obtain ⟨nt,hnt⟩ : ∃ nt,(LA++LB).length=nt:=⟨_,rfl⟩
 have acs:nt=LA.length+LB.length:=by rw [←hnt,List.length_append]
 have HG:=hid (QF nt (by omega) (by omega))
 have hbw:=Below.refl w.heap.size w
 have YV:=hid hnt
 clear h0 h1 hA hB hnt acs
 go_enter Tryz.func101,Tryz.ntmps101
 go_wp2_with fail
 go_loopw [3,5,11] (fun sv _ iv wr=>∃ k:Nat,k≤2∧sv=.int .i64 ((yO LA LB k).length:Int)∧iv=.int .i64 (k:Int)∧w=wr) (fun _ _ iv _=>2-(RowKit.intOf iv).toNat)
 case atStart=>exact ⟨0,Nat.zero_le _,rfl,rfl,rfl⟩
 case round =>
  obtain ⟨k,hk2,rfl,rfl,rfl⟩:=hrel
  by_cases hk:k<2
  ·obtain ⟨u,R,hu,hR,hRl,hpl,hnx⟩:=qR.out k hk
   have hnl:(yO LA LB (k+1)).length=(yO LA LB k).length+R.length:=by rw [hnx,List.length_append]
   have Ff:=hid hnl
   obtain ⟨b,off,c,rfl,hc,hm,hbl,hxx⟩:=hR
   clear hxx hnx
   have hkn:decide ((k:Int)<(2:Int))=true:=decide_eq_true (by omega)
   have i1:(0:Int)≤(k:Int):=by omega
   have i2:(k:Int)<(2:Int):=by omega
   generalize (yO LA LB k).length=n1 at *
   generalize R.length=n2 at *
   have i3:IntKind.i64.wrap ((n1:Int)+(n2:Int))=(n1:Int)+(n2:Int):=IntWalk.i64_in _ (by omega)
   have i4:decide ((n1:Int)+(n2:Int)<0)=false:=decide_eq_false (by omega)
   clear hnl
   go_wp2
   refine ⟨⟨k+1,hk,by rw [Ff.out];push_cast;rfl,aA k,by first | rfl | trivial⟩,?_⟩
   show 2-((k:Int)+1).toNat<2-((k:Int)).toNat
   omega
  ·obtain rfl:k=2:=by omega
   have hkn:decide ((2:Int)<(2:Int))=false:=by decide
   have e2:(yO LA LB 2).length=nt:=YV.out
   rw [e2]
   clear e2
   go_wp2_with fail
   refine (HG.out _).mono ?_
   rintro e w1 ⟨v1,rfl,hown,hb1⟩
   have QI:=hid (show He (yO LA LB 0) w v1 w1 from ⟨hown,hb1⟩)
   clear hown
   go_wp2_with fail
   go_loopw [6,8,27] (fun ov _ iv wr=>∃ (k:Nat) (vv:Value),k≤2∧He (yO LA LB k) w vv wr∧vv=ov∧iv=.int .i64 (k:Int)) (fun _ _ iv _=>2-(RowKit.intOf iv).toNat)
   case atStart=>exact ⟨0,_,Nat.zero_le _,QI.out,rfl,rfl⟩
   case round =>
    obtain ⟨k,ov,hk2,hst,rfl,rfl⟩:=hrel
    have HST:=hid hst
    have hbr:=hst.2
    clear hst
    by_cases hk:k<2
    ·obtain ⟨u,R,hu,hR,hRl,hpl,hnx⟩:=qR.out k hk
     have vC:=hid hnx
     rw [←hbr.cell (p:=⟨B,k,none⟩) hBl] at hu
     have hR':=hR.below hbr
     obtain ⟨b,off,c,rfl,hc,hm,hbl,hcell⟩:=hR'
     have HNW:=hid (QG hcell)
     have hkn:decide ((k:Int)<(2:Int))=true:=decide_eq_true (by omega)
     have i1:(0:Int)≤(k:Int):=by omega
     have i2:(k:Int)<(2:Int):=by omega
     obtain ⟨i0,hi,hz0,hz1,hz2⟩:=info_parts yD.info
     obtain ⟨xs,hxs⟩ : ∃ xs,xs=jy (yO LA LB k):=⟨_,rfl⟩
     obtain ⟨n8,R4⟩ : ∃ n8,n8=(yO LA LB k).length:=⟨_,rfl⟩
     obtain ⟨ys,hys⟩ : ∃ ys,ys=jy R:=⟨_,rfl⟩
     obtain ⟨m8,UG⟩ : ∃ m8,m8=R.length:=⟨_,rfl⟩
     have hown:wr.ownsRow w.heap.size 33 1 ov n8 xs:=by rw [R4,hxs];exact HST.out.1
     have hyl:ys.length=m8:=by rw [hys,UG,vH]
     have Ta:=hid (show ∀ u∈ys,u.oneCell'=true by rw [hys];exact MX R)
     rw [←hys] at HNW
     have UH:=hid (fun (v':Value) (w':World) (ho:w'.ownsRow w.heap.size 33 1 v' (n8+m8) (xs++ys)) (hb:Below w.heap.size w w')=>show He (yO LA LB (k+1)) w v' w' by
      unfold He
      rw [vC.out,Ew,List.length_append,←R4,←UG,←hxs,←hys]
      exact ⟨ho,hb⟩)
     rw [←UG] at hu hc hRl
     rw [←R4] at hpl
     have HOWN:=hid hown
     have acu:=hbr.size
     clear hcell hnx hxs R4 hys UG hR hown
     go_wp2_with (at_builtin;refine wpList_append_own _ rfl (.tmp 31) (.tmp 32) 32 rfl w.heap.size 33 i0 (.string ⟨#[]⟩) 1 16 yD.ht hi hz0 hz1 hz2 yD.hzs yD.hsz _ n8 xs rfl HOWN.out ⟨b,off,none⟩ m8 c ys rfl (by rw [hyl,Nat.mul_one]) HNW.out Ta.out (by unfold maxLen;omega) (by omega) acu ?_;intro v' w9 hown2 hgrow _)
     have Td:=hbr.grown hgrow (by omega) (fun g hg=>(HOWN.out.lt g hg).1)
     have RJ:=hid hown2
     clear hown2 hgrow
     go_wp2
     refine ⟨⟨k+1,v',hk,UH.out _ _ RJ.out Td,rfl,aA k⟩,?_⟩
     show 2-((k:Int)+1).toNat<2-((k:Int)).toNat
     omega
    ·obtain rfl:k=2:=by omega
     have hkn:decide ((2:Int)<(2:Int))=false:=by decide
     go_wp2
     go_ret
     exact ⟨_,rfl,Ev HST.out.1,hbr⟩
end Go.Proofs.YtglncfkoohgdaaaGreatDoor
namespace Go.Proofs.YtglncfkoohgdaaaGreatDoor
structure bQ where
 lg:List (List Iv)
 xs:List Rat
 tp:List Rat
 cs:Cs
def ai (P:bQ) (k:Nat):List Iv:=P.lg.getD k []
def cZ (P:bQ) (k:Nat):Rat:=P.xs.getD k 0
def bG (P:bQ) (k:Nat):Rat:=P.tp.getD k 0
def aZ (P:bQ) (k:Nat):List Stp:=kG P.cs (ai P k) (ai P (k+1)) 0 0
def tY (P:bQ) (k:Nat):Rat:=bI P.cs (ai P k) (ai P (k+1)) 0 0
def aG (P:bQ) (k:Nat) (d:Rat):Rat × Rat:=(cZ P k,bG P k-d)
def dZ (L:List Iv) (n:Nat):Rat:=if 0<n then (ah L (n-1)).b else if 0<L.length then (ah L 0).a else 0
def l8 (a b:Rat × Rat):Rat × Rat:=((a.1+b.1)*(1/2),(a.2+b.2)*(1/2))
structure nW where
 k:Nat
 u:List UInt8
 pg:List (Rat × Rat)
def OH (P:bQ) (k:Nat) (x y:Iv):List (Rat × Rat):=[aG P k x.b,aG P (k+1) y.b,aG P (k+1) y.a,aG P k x.a]
def aC (P:bQ) (k:Nat) (s:Stp):List (nW × Bool):=
 if s.k=1 then
  if (ah (ai P k) s.i).u=(ah (ai P (k+1)) s.j).u then [(⟨k,(ah (ai P k) s.i).u,OH P k (ah (ai P k) s.i) (ah (ai P (k+1)) s.j)⟩,false)]
  else
   [(⟨k,(ah (ai P k) s.i).u,[aG P k (ah (ai P k) s.i).b,l8 (aG P k (ah (ai P k) s.i).b) (aG P (k+1) (ah (ai P (k+1)) s.j).b),l8 (aG P k (ah (ai P k) s.i).a) (aG P (k+1) (ah (ai P (k+1)) s.j).a),aG P k (ah (ai P k) s.i).a]⟩,false),
   (⟨k,(ah (ai P (k+1)) s.j).u,[l8 (aG P k (ah (ai P k) s.i).b) (aG P (k+1) (ah (ai P (k+1)) s.j).b),aG P (k+1) (ah (ai P (k+1)) s.j).b,aG P (k+1) (ah (ai P (k+1)) s.j).a,l8 (aG P k (ah (ai P k) s.i).a) (aG P (k+1) (ah (ai P (k+1)) s.j).a)]⟩,true)]
 else if s.k=2∨s.k=4 then [(⟨k,(ah (ai P k) s.i).u,[aG P k (ah (ai P k) s.i).b,aG P (k+1) (dZ (ai P (k+1)) s.j),aG P k (ah (ai P k) s.i).a]⟩,false)]
 else [(⟨k,(ah (ai P (k+1)) s.j).u,[aG P k (dZ (ai P k) s.i),aG P (k+1) (ah (ai P (k+1)) s.j).b,aG P (k+1) (ah (ai P (k+1)) s.j).a]⟩,false)]
def pW (P:bQ) (k:Nat):List nW:=(aZ P k).flatMap fun s=>(aC P k s).map (·.1)
def j6 (P:bQ):List nW:=(List.range (P.lg.length-1)).flatMap (pW P)
theorem CU {a b c:Rat × Rat} (h:0<eu a b c) (h1:¬ eB b a) (h2:¬ eB c a):Poly [a,b,c]:=by
 have e1:eu b c a=eu a b c:=by unfold eu;grind
 have e2:eu c a b=eu a b c:=by unfold eu;grind
 refine ⟨⟨by simp,fun i j hi hj h3 h4=>?_⟩,fun j hj=>?_⟩
 ·simp only [List.length_cons,List.length_nil] at hi hj
  have hi':i=0∨i=1∨i=2:=by omega
  have hj':j=0∨j=1∨j=2:=by omega
  rcases hi' with rfl | rfl | rfl <;> rcases hj' with rfl | rfl | rfl <;> simp [jk] at h3 h4 ⊢
  ·exact h
  ·rw [e1];exact h
  ·rw [e2];exact h
 ·simp only [List.length_cons,List.length_nil] at hj
  have hj':j=0∨j=1∨j=2:=by omega
  rcases hj' with rfl | rfl | rfl
  ·show ¬ eB a a
   unfold eB
   grind
  ·exact h1
  ·exact h2
theorem yP {x0 x1 y0 y1 y2 y3:Rat} (hx:x0<x1) (h1:y0<y3) (h2:y1<y2):Poly [(x0,y0),(x1,y1),(x1,y2),(x0,y3)]:=by
 have p1:0<(x1-x0)*(y3-y0):=Rat.mul_pos (by grind) (by grind)
 have p2:0<(x1-x0)*(y2-y1):=Rat.mul_pos (by grind) (by grind)
 refine ⟨⟨by simp,fun i j hi hj h3 h4=>?_⟩,fun j hj=>?_⟩
 ·simp only [List.length_cons,List.length_nil] at hi hj
  have hi':i=0∨i=1∨i=2∨i=3:=by omega
  have hj':j=0∨j=1∨j=2∨j=3:=by omega
  rcases hi' with rfl | rfl | rfl | rfl <;> rcases hj' with rfl | rfl | rfl | rfl <;> simp [jk] at h3 h4 ⊢ <;> unfold eu <;> grind
 ·simp only [List.length_cons,List.length_nil] at hj
  have hj':j=0∨j=1∨j=2∨j=3:=by omega
  rcases hj' with rfl | rfl | rfl | rfl <;> simp <;> unfold eB <;> grind
theorem CV {P:bQ} {k:Nat} {s:Stp} (hk:s.k∈kinds) (hc:bF (ai P k) (ai P (k+1)) s.k s.i s.j=true) (hx:cZ P k<cZ P (k+1))
  (hl:∀ i,i<(ai P k).length→(ah (ai P k) i).a<(ah (ai P k) i).b) (hr:∀ i,i<(ai P (k+1)).length→(ah (ai P (k+1)) i).a<(ah (ai P (k+1)) i).b):∀ b∈aC P k s,Poly b.1.pg:=by
 have ad8:∀ (x0 x1 y0 y1 y2:Rat),x0<x1→y0<y2→Poly [(x0,y0),(x1,y1),(x0,y2)]:=fun x0 x1 y0 y1 y2 h1 h2=>by
  have p1:0<(x1-x0)*(y2-y0):=Rat.mul_pos (by grind) (by grind)
  refine CU ?_ ?_ ?_
  ·unfold eu;grind
  ·unfold eB;grind
  ·unfold eB;grind
 have ad9:∀ (x0 x1 y0 y1 y2:Rat),x0<x1→y1<y2→Poly [(x0,y0),(x1,y1),(x1,y2)]:=fun x0 x1 y0 y1 y2 h1 h2=>by
  have p1:0<(x1-x0)*(y2-y1):=Rat.mul_pos (by grind) (by grind)
  refine CU ?_ ?_ ?_
  ·unfold eu;grind
  ·unfold eB;grind
  ·unfold eB;grind
 obtain ⟨sk,i,j⟩:=s
 unfold kinds at hk
 simp only [List.mem_cons,List.not_mem_nil,or_false] at hk
 intro b hb
 rcases hk with rfl | rfl | rfl | rfl | rfl
 ·have hc1:i<(ai P k).length∧j<(ai P (k+1)).length:=by simpa [bF] using hc
  have a1:=hl i hc1.1
  have a2:=hr j hc1.2
  unfold aC at hb
  rw [if_pos rfl] at hb
  split at hb
  ·rw [List.mem_singleton] at hb
   rw [hb]
   exact yP hx (by grind) (by grind)
  ·rw [List.mem_cons,List.mem_singleton] at hb
   rcases hb with rfl | rfl
   ·exact yP (by (try unfold l8);(try unfold aG);grind) (by grind) (by (try unfold l8);(try unfold aG);grind)
   ·exact yP (by (try unfold l8);(try unfold aG);grind) (by (try unfold l8);(try unfold aG);grind) (by grind)
 ·have hc1:i<(ai P k).length:=by simpa [bF] using hc
  have a1:=hl i hc1
  unfold aC at hb
  rw [if_neg (by simp),if_pos (by simp),List.mem_singleton] at hb
  rw [hb]
  exact ad8 _ _ _ _ _ hx (by grind)
 ·have hc1:j<(ai P (k+1)).length:=by simpa [bF] using hc
  have a1:=hr j hc1
  unfold aC at hb
  rw [if_neg (by simp),if_neg (by simp),List.mem_singleton] at hb
  rw [hb]
  exact ad9 _ _ _ _ _ hx (by grind)
 ·have hc1:i<(ai P k).length:=by
   simp only [bF] at hc
   simp at hc
   exact hc.1
  have a1:=hl i hc1
  unfold aC at hb
  rw [if_neg (by simp),if_pos (by simp),List.mem_singleton] at hb
  rw [hb]
  exact ad8 _ _ _ _ _ hx (by grind)
 ·have hc1:j<(ai P (k+1)).length:=by
   simp only [bF] at hc
   simp at hc
   exact hc.1
  have a1:=hr j hc1
  unfold aC at hb
  rw [if_neg (by simp),if_neg (by simp),List.mem_singleton] at hb
  rw [hb]
  exact ad9 _ _ _ _ _ hx (by grind)
open Go.RowKit Go.Shelf
theorem Q4.fr {n:Nat} {q:Rat} (h:Q4 n q):Fr n 4 q:=by
 obtain ⟨k,h1,h2⟩:=h
 have e:q=mkRat k 4:=by
  rw [Rat.mkRat_eq_div,←h2]
  grind
 have hb:=JU k 4 (by decide)
 rw [←e] at hb
 exact ⟨Nat.le_trans hb.1 h1,hb.2⟩
theorem Q4.ok {n:Nat} {q:Rat} (h:Q4 n q) (hn:n<10 ^ 9):oz q:=GQ h.fr hn (by decide)
def H2 (n:Nat) (q:Rat):Prop:=∃ k:Int,k.natAbs≤n∧q*2=(k:Rat)
theorem H2.q4 {n:Nat} {q:Rat} (h:H2 n q):Q4 (2*n) q:=by
 obtain ⟨k,h1,h2⟩:=h
 refine ⟨2*k,by omega,?_⟩
 rw [Rat.intCast_mul,←h2]
 grind
theorem H2.add {m n:Nat} {p q:Rat} (h:H2 m p) (k:H2 n q):H2 (m+n) (p+q):=by
 obtain ⟨a,h1,h2⟩:=h
 obtain ⟨b,k1,k2⟩:=k
 exact ⟨a+b,by omega,by rw [Rat.add_mul,h2,k2,Rat.intCast_add]⟩
theorem H2.neg {m:Nat} {p:Rat} (h:H2 m p):H2 m (-p):=by
 obtain ⟨a,h1,h2⟩:=h
 exact ⟨-a,by omega,by rw [Rat.neg_mul,h2,Rat.intCast_neg]⟩
theorem H2.sub {m n:Nat} {p q:Rat} (h:H2 m p) (k:H2 n q):H2 (m+n) (p-q):=by
 rw [Rat.sub_eq_add_neg]
 exact h.add k.neg
theorem H2.abs {m:Nat} {q:Rat} (h:H2 m q):H2 m (abQ q):=by
 unfold abQ
 split
 ·exact h.neg
 ·exact h
theorem H2.mul {m n:Nat} {p q:Rat} (h:H2 m p) (k:H2 n q):Q4 (m*n) (p*q):=by
 obtain ⟨a,h1,h2⟩:=h
 obtain ⟨b,k1,k2⟩:=k
 refine ⟨a*b,by rw [Int.natAbs_mul];exact Nat.mul_le_mul h1 k1,?_⟩
 rw [Rat.intCast_mul,←h2,←k2]
 grind
theorem H2.ok {n:Nat} {q:Rat} (h:H2 n q) (hn:n≤10000):oz q:=h.q4.ok (Nat.lt_of_le_of_lt (show 2*n≤20000 by omega) (by decide))
theorem H2.fc {n:Nat} {q:Rat} (h:H2 (n*2) q):Fc n 2 q:=h
theorem H2.c4 {q:Rat} (h:H2 64 q):Fc 32 4 q:=(H2.fc (n:=32) h).wide 2
theorem kg {q:Rat} (h:Q4 256 q):Fc 64 4 q:=h
structure dm (P:bQ):Prop where
 n2:2≤P.lg.length
 n20:P.lg.length≤20
 nx:P.xs.length=P.lg.length
 nt:P.tp.length=P.lg.length
 log:∀ k,k<P.lg.length→Cx (ai P k)∧(ai P k).length≤8
 iv:∀ k i,k<P.lg.length→i<(ai P k).length→H2 64 (ah (ai P k) i).a∧H2 64 (ah (ai P k) i).b
 xs:∀ k,k<P.lg.length→H2 64 (cZ P k)
 tp:∀ k,k<P.lg.length→H2 64 (bG P k)
 I6:∀ k,k+1<P.lg.length→cZ P k<cZ P (k+1)
 cs:H2 16 P.cs.ch∧H2 16 P.cs.mi∧H2 16 P.cs.ga∧H2 16 P.cs.re
 nn:0≤P.cs.ch∧0≤P.cs.mi∧0≤P.cs.ga∧0≤P.cs.re
theorem dm.ZR {P:bQ} (h:dm P):acm P.cs:=⟨⟨h.cs.1.ok (by decide),h.cs.2.1.ok (by decide),h.cs.2.2.1.ok (by decide),h.cs.2.2.2.ok (by decide)⟩,h.nn⟩
theorem OI {C:Cs} {L R:List Iv} (hc:H2 16 C.ch∧H2 16 C.mi∧H2 16 C.ga∧H2 16 C.re) (hl:∀ i,i<L.length→H2 64 (ah L i).a∧H2 64 (ah L i).b) (hr:∀ i,i<R.length→H2 64 (ah R i).a∧H2 64 (ah R i).b) {k i j:Nat} (hk:k∈kinds) (h:bF L R k i j=true):Q4 8192 (bY C L R k i j):=by
 have th:∀ {x:Iv},H2 64 x.a∧H2 64 x.b→H2 128 (aH x):=fun hx=>hx.2.sub hx.1
 unfold kinds at hk
 simp only [List.mem_cons,List.not_mem_nil,or_false] at hk
 unfold bY
 rcases hk with rfl | rfl | rfl | rfl | rfl
 ·have hh:i<L.length∧j<R.length:=by simpa [bF] using h
  have t1:=th (hl i hh.1)
  have t2:=th (hr j hh.2)
  rw [if_pos rfl]
  split
  ·exact (hc.1.mul (t1.sub t2).abs).mono (by decide)
  ·exact ((hc.1.mul (t1.sub t2).abs).add (hc.2.1.mul (t1.add t2))).mono (by decide)
 ·have hh:i<L.length:=by simpa [bF] using h
  rw [if_neg (by decide),if_pos rfl]
  exact (hc.2.2.1.mul (th (hl i hh))).mono (by decide)
 ·have hh:j<R.length:=by simpa [bF] using h
  rw [if_neg (by decide),if_neg (by decide),if_pos rfl]
  exact (hc.2.2.1.mul (th (hr j hh))).mono (by decide)
 ·have hh:i<L.length:=by simp only [bF] at h;simp at h;exact h.1
  rw [if_neg (by decide),if_neg (by decide),if_neg (by decide),if_pos rfl]
  exact (hc.2.2.2.mul (th (hl i hh))).mono (by decide)
 ·have hh:j<R.length:=by simp only [bF] at h;simp at h;exact h.1
  rw [if_neg (by decide),if_neg (by decide),if_neg (by decide),if_neg (by decide)]
  exact (hc.2.2.2.mul (th (hr j hh))).mono (by decide)
theorem Ku {C:Cs} {L R:List Iv} (hc:H2 16 C.ch∧H2 16 C.mi∧H2 16 C.ga∧H2 16 C.re) (hl:∀ i,i<L.length→H2 64 (ah L i).a∧H2 64 (ah L i).b) (hr:∀ i,i<R.length→H2 64 (ah R i).a∧H2 64 (ah R i).b) (nl:L.length≤8) (nr:R.length≤8) {i j:Nat} (hi:i≤L.length) (hj:j≤R.length):Q4 131072 (bI C L R i j):=by
 have h:=NW (C:=C) (L:=L) (R:=R) (B:=8192) (fun k i j hk hcq=>OI hc hl hr hk hcq) (L.length+R.length) i j hi hj (by omega)
 exact h.mono (by omega)
theorem kK {q:Rat} (h:oz q):Sz 1000 q:=h.sz.mono (by decide)
theorem dm.link {P:bQ} (h:dm P) {k:Nat} (hk:k+1<P.lg.length):QSz P.cs (ai P k) (ai P (k+1))∧Q4 131072 (tY P k):=by
 have hl:=fun i hi=>h.iv k i (by omega) hi
 have hr:=fun i hi=>h.iv (k+1) i hk hi
 have nl:=(h.log k (by omega)).2
 have nr:=(h.log (k+1) hk).2
 have hc:=h.ZR
 refine ⟨⟨⟨by omega,by omega,⟨H2.fc (n:=8) h.cs.1,H2.fc (n:=8) h.cs.2.1,H2.fc (n:=8) h.cs.2.2.1,H2.fc (n:=8) h.cs.2.2.2⟩,fun i hi=>⟨H2.fc (n:=32) (hl i hi).1,H2.fc (n:=32) (hl i hi).2⟩,fun i hi=>⟨H2.fc (n:=32) (hr i hi).1,H2.fc (n:=32) (hr i hi).2⟩⟩,fun i j hi hj=>?_,fun kk i j hkk hcq=>?_⟩,?_⟩
 ·exact Ku h.cs hl hr nl nr hi hj
 ·exact OI h.cs hl hr hkk hcq
 ·exact Ku h.cs hl hr nl nr (Nat.zero_le _) (Nat.zero_le _)
def qB (P:bQ) (k:Nat):Rat:=((List.range k).map (tY P)).foldl (· + ·) 0
theorem FC (P:bQ) (k:Nat):qB P (k+1)=qB P k+tY P k:=by
 unfold qB
 rw [List.range_succ,List.map_append,List.foldl_append]
 rfl
theorem dm.qB {P:bQ} (h:dm P):∀ k,k+1≤P.lg.length→Q4 (131072*k) (qB P k)
 | 0,_=>Q4.zero
 | k+1,hk=>by
  rw [FC]
  exact ((h.qB k (by omega)).add (h.link (k:=k) hk).2).mono (by omega)
open Go.Lib (decDigits itoa nDigits)
open Go.Lib (hid)
def Lgs (w:World) (v:Value) (G:List (List Iv)):Prop:=∃ p c,v=.slice p G.length c∧G.length≤c∧c≤maxLen∧(0<G.length→∃ b off,p=some ⟨b,off,none⟩∧b<w.heap.size∧∀ k,k<G.length→∃ u,w.cell? ⟨b,off+k,none⟩=some u∧gm w u (G.getD k []))
theorem Lgs.below {w w':World} {v:Value} {G:List (List Iv)} (h:Lgs w v G) (hb:Below w.heap.size w w'):Lgs w' v G:=by
 obtain ⟨p,c,h1,h2,h3,h4⟩:=h
 refine ⟨p,c,h1,h2,h3,fun h0=>?_⟩
 obtain ⟨b,off,k1,k2,k3⟩:=h4 h0
 refine ⟨b,off,k1,Nat.lt_of_lt_of_le k2 hb.size,fun k hk=>?_⟩
 obtain ⟨u,m1,m2⟩:=k3 k hk
 exact ⟨u,(hb.cell (p:=⟨b,off+k,none⟩) k2).trans m1,m2.below hb⟩
theorem Lgs.slice {w:World} {v:Value} {G:List (List Iv)} (h:Lgs w v G):∃ p c,v=.slice p G.length c∧G.length≤c∧c≤maxLen:=by
 obtain ⟨p,c,h1,h2,h3,_⟩:=h
 exact ⟨p,c,h1,h2,h3⟩
theorem Lgs.at {w:World} {p:Option Addr} {n c:Nat} {G:List (List Iv)} (h:Lgs w (.slice p n c) G) {k:Nat} (hk:k<G.length):∃ b off u,p=some ⟨b,off,none⟩∧b<w.heap.size∧w.cell? ⟨b,off+k,none⟩=some u∧gm w u (G.getD k []):=by
 obtain ⟨p',c',h1,h2,h3,h4⟩:=h
 cases h1
 obtain ⟨b,off,k1,k2,k3⟩:=h4 (by omega)
 obtain ⟨u,m1,m2⟩:=k3 k hk
 exact ⟨b,off,u,k1,k2,m1,m2⟩
def iX (vg va vt:Value) (C:Cs):Value:=.agg #[vg,va,vt,.string (tx C.ch),.string (tx C.mi),.string (tx C.ga),.string (tx C.re)]
def UI (vg va vt:Value) (C:Cs):Obj:=.cells #[vg,va,vt,.string (tx C.ch),.string (tx C.mi),.string (tx C.ga),.string (tx C.re)] 37
structure l9 (w:World) (vg va vt:Value) (P:bQ):Prop where
 g:Lgs w vg P.lg
 a:tX w va (P.xs.map tx)
 t:tX w vt (P.tp.map tx)
theorem l9.below {w w':World} {vg va vt:Value} {P:bQ} (h:l9 w vg va vt P) (hb:Below w.heap.size w w'):l9 w' vg va vt P:=⟨h.g.below hb,h.a.below hb,h.t.below hb⟩
theorem au {W:World} {B:Nat} {t:TypeId} {a b c d e f g:Value} (h:W.heap[B]?=some (.cells #[a,b,c,d,e,f,g] t (0,0))) :
  W.cell? ⟨B,0,none⟩=some a∧W.cell? ⟨B,1,none⟩=some b∧W.cell? ⟨B,2,none⟩=some c∧W.cell? ⟨B,3,none⟩=some d∧W.cell? ⟨B,4,none⟩=some e∧W.cell? ⟨B,5,none⟩=some f∧W.cell? ⟨B,6,none⟩=some g:=by
 refine ⟨by simp [World.cell?,h],by simp [World.cell?,h],by simp [World.cell?,h],by simp [World.cell?,h],by simp [World.cell?,h],by simp [World.cell?,h],by simp [World.cell?,h]⟩
theorem QJ {W:World} {B:Nat} {t:TypeId} {a b c d e f:Value} (h:W.heap[B]?=some (.cells #[a,b,c,d,e,f] t (0,0))) :
  W.frozen? ⟨B,0,none⟩=false∧W.frozen? ⟨B,1,none⟩=false∧W.frozen? ⟨B,2,none⟩=false∧W.frozen? ⟨B,3,none⟩=false∧W.frozen? ⟨B,4,none⟩=false∧W.frozen? ⟨B,5,none⟩=false:=by
 refine ⟨by simp [World.frozen?,h],by simp [World.frozen?,h],by simp [World.frozen?,h],by simp [World.frozen?,h],by simp [World.frozen?,h],by simp [World.frozen?,h]⟩
theorem ZT {W:World} {B:Nat} {t:TypeId} {a b c d e f:Value} (a' b' c' d' e' f':Value) (h:W.heap[B]?=some (.cells #[a,b,c,d,e,f] t (0,0))) :
  ((((((W.setCell ⟨B,0,none⟩ a').setCell ⟨B,1,none⟩ b').setCell ⟨B,2,none⟩ c').setCell ⟨B,3,none⟩ d').setCell ⟨B,4,none⟩ e').setCell ⟨B,5,none⟩ f').heap[B]?=some (.cells #[a',b',c',d',e',f'] t (0,0)):=by
 have h0:=aJ (i:=0) a' h
 have h1:=aJ (i:=1) b' h0
 have h2:=aJ (i:=2) c' h1
 have h3:=aJ (i:=3) d' h2
 have h4:=aJ (i:=4) e' h3
 have h5:=aJ (i:=5) f' h4
 simpa using h5
theorem z8 {w:World} (vg va vt:Value) (P:bQ) (k:Nat) (hk:k+1<P.lg.length) (_hn:P.lg.length≤100) (hP:l9 w vg va vt P) :
  Calls Tryz.prog 54 #[iX vg va vt P.cs,.int .i64 (k:Int)] w fun e w'=>∃ vl vr,e=.returned (uC vl vr P.cs)∧gm w vl (ai P k)∧gm w vr (ai P (k+1))∧Below w.heap.size w w':=by
 obtain ⟨pg,cg,rfl,hcg,jK⟩:=hP.g.slice
 obtain ⟨pa,ca,rfl,ET,ma⟩:=hP.a.slice
 obtain ⟨oQ,ct,rfl,hct,mf⟩:=hP.t.slice
 obtain ⟨b,off,vl,rfl,hbl,c0,hvl⟩:=hP.g.at (k:=k) (by omega)
 obtain ⟨b',off',vr,e,_,c1,eO⟩:=hP.g.at (k:=k+1) hk
 cases e
 unfold maxLen at jK
 have HL:=hid hvl
 have HR:=hid eO
 obtain ⟨pl,cl,rfl,_,_⟩:=hvl.slice
 obtain ⟨pr,cr,rfl,_,_⟩:=eO.slice
 generalize (P.lg.getD k []).length=nl at *
 generalize (P.lg.getD (k+1) []).length=nr at *
 have i1:(0:Int)≤(k:Int):=by omega
 have i2:(k:Int)<(P.lg.length:Int):=by omega
 have i3:IntKind.i64.wrap ((k:Int)+1)=(k:Int)+1:=IntWalk.i64_in _ (by omega)
 have i4:(0:Int)≤(k:Int)+1:=by omega
 have i5:(k:Int)+1<(P.lg.length:Int):=by omega
 have i6:((k:Int)+1).toNat=k+1:=by omega
 unfold iX uC
 clear hP hvl eO hk
 generalize tx P.cs.ch=t1 at *
 generalize tx P.cs.mi=t2 at *
 generalize tx P.cs.ga=t3 at *
 generalize tx P.cs.re=t4 at *
 generalize P.lg.length=n at *
 generalize (P.xs.map tx).length=na at *
 generalize (P.tp.map tx).length=nt at *
 go_enter Tryz.func54,Tryz.ntmps54
 go_wp2_with fail
 obtain ⟨wA,aS⟩ : ∃ wA,wA=(w.alloc (Obj.cells #[.slice (some ⟨b,off,none⟩) n cg,.slice pa na ca,.slice oQ nt ct,.string t1,.string t2,.string t3,.string t4] 37)).alloc (Obj.cells #[.slice none 0 0,.slice none 0 0,.string ⟨#[]⟩,.string ⟨#[]⟩,.string ⟨#[]⟩,.string ⟨#[]⟩] 122):=⟨_,rfl⟩
 obtain ⟨aP,hsA,kI,vN⟩:=jJ aS
 rw [←aS]
 clear aS
 obtain ⟨p0,_,_,p3,p4,p5,p6⟩:=au kI
 have l0:=aa kI
 have lb:=Nat.lt_of_lt_of_le hbl aP.size
 have c0:=(aP.cell (p:=⟨b,off+k,none⟩) hbl).trans c0
 have c1:=(aP.cell (p:=⟨b,off+(k+1),none⟩) hbl).trans c1
 have yN:=hid vN
 have eF:=hid aP
 clear kI vN aP
 refine aN (fun W'=>Below wA.heap.size wA W') [0,1,2,3,4,5,6,7,8,9,10,11,12,13] [] 14 (by kernel_rfl) (by kernel_rfl) ⟨rfl,rfl,rfl,Nat.le_refl _,fun _ _=>rfl⟩ ?_
 iterate 14
  refine aL rfl ?_ rfl ?_ ?_
  rotate_left
  ·intro W' hS'
   have s0:=(hS'.cell (p:=⟨w.heap.size,0,none⟩) l0).trans p0
   have s1:=(hS'.cell (p:=⟨w.heap.size,3,none⟩) l0).trans p3
   have s2:=(hS'.cell (p:=⟨w.heap.size,4,none⟩) l0).trans p4
   have s3:=(hS'.cell (p:=⟨w.heap.size,5,none⟩) l0).trans p5
   have s4:=(hS'.cell (p:=⟨w.heap.size,6,none⟩) l0).trans p6
   have s5:=(hS'.cell (p:=⟨b,off+k,none⟩) lb).trans c0
   have s6:=(hS'.cell (p:=⟨b,off+(k+1),none⟩) lb).trans c1
   go_simp
   try with_reducible rfl
  try simp only [zA,zB,zC,Act.put,zD,zE,zF]
 unfold kM
 unfold bE
 simp only [List.drop_succ_cons,List.drop_zero]
 have hrd:wA.drew.heap[w.heap.size+1]?=some (Obj.cells #[.slice none 0 0,.slice none 0 0,.string ⟨#[]⟩,.string ⟨#[]⟩,.string ⟨#[]⟩,.string ⟨#[]⟩] 122 (0,0)):=yN.out
 have hbD:Below w.heap.size w wA.drew:=eF.out.drew
 generalize wA.drew=wD at *
 obtain ⟨x0,x1,x2,x3,x4,x5⟩:=aW hrd
 obtain ⟨y0,y1,y2,y3,y4,y5⟩:=QJ hrd
 have HZ:=hid (ZT (.slice pl nl cl) (.slice pr nr cr) (.string t1) (.string t2) (.string t3) (.string t4) hrd)
 have je:=hid hbD
 clear p0 p3 p4 p5 p6 c0 c1 hrd hbD
 try simp only [zA,zB,zC,Act.put,zD,zE,zF]
 refine aB rfl (fun K hK=>?_)
 go_simp
 refine hK _ _ ⟨trivial,aQ ?_⟩
 clear hK K
 refine ag.mk ?_
 go_wp2
 obtain ⟨z0,z1,z2,z3,z4,z5⟩:=aW HZ.out
 have MZ:=(((((je.out.setCell (p:=⟨w.heap.size+1,0,none⟩) (Nat.le_succ _) (.slice pl nl cl)).setCell (p:=⟨w.heap.size+1,1,none⟩) (Nat.le_succ _) (.slice pr nr cr)).setCell (p:=⟨w.heap.size+1,2,none⟩) (Nat.le_succ _) (.string t1)).setCell (p:=⟨w.heap.size+1,3,none⟩) (Nat.le_succ _) (.string t2)).setCell (p:=⟨w.heap.size+1,4,none⟩) (Nat.le_succ _) (.string t3)).setCell (p:=⟨w.heap.size+1,5,none⟩) (Nat.le_succ _) (.string t4)
 refine bodyPost_ret (v:=.agg #[.slice pl nl cl,.slice pr nr cr,.string t1,.string t2,.string t3,.string t4]) (by simp [results,Tryz.results54,go_sem,z0,z1,z2,z3,z4,z5]) rfl ⟨_,_,rfl,HL.out,HR.out,MZ⟩
theorem ZU {k:Nat}:∀ (X:List Rat) (h:k<(X.map tx).length),(X.map tx)[k]=tx (X.getD k 0):=fun X h=>by
 rw [List.getElem_map,List.getD_eq_getElem?_getD,List.getElem?_eq_getElem (by simpa using h)]
 rfl
theorem jL {w:World} {v:Value} {X:List Rat} (h:tX w v (X.map tx)) (h0:0<X.length):∃ b off c,v=.slice (some ⟨b,off,none⟩) X.length c∧X.length≤c∧c≤maxLen∧b<w.heap.size∧∀ i,i<X.length→w.cell? ⟨b,off+i,none⟩=some (.string (tx (X.getD i 0))):=by
 obtain ⟨b,off,c,h1,h2,h3,h4,h5⟩:=h.pos (by rw [List.length_map];exact h0)
 rw [List.length_map] at h1 h2
 refine ⟨b,off,c,h1,h2,h3,h4,fun i hi=>?_⟩
 have hh:=h5 i (by rw [List.length_map];exact hi)
 rw [hh,ZU]
theorem UJ {w:World} (vg va vt:Value) (P:bQ) (hO:dm P) (hP:l9 w vg va vt P) (hw:Good w) :
  Calls Tryz.prog 44 #[iX vg va vt P.cs] w (RV (.int .i64 0) w):=by
 have Zi:=hid (fun (k:Nat) (hk:k+1<P.lg.length) W' (hb:Below w.heap.size w W')=>z8 vg va vt P k hk (by have:=hO.n20;omega) (hP.below hb))
 have HCC:=hid (fun (k:Nat) (hk:k+1<P.lg.length) (vl vr:Value) W' (hg:Good W') (hl:gm W' vl (ai P k)) (hr:gm W' vr (ai P (k+1)))=>Kq vl vr P.cs (ai P k) (ai P (k+1)) (hO.log k (by omega)).1 (hO.log (k+1) hk).1 (by have:=(hO.log k (by omega)).2;omega) (by have:=(hO.log (k+1) hk).2;omega) hO.ZR hl hr hg)
 have hok:∀ s∈P.xs.map tx++P.tp.map tx,∃ q,s=tx q∧oz q:=by
  intro s hs
  rw [List.mem_append,List.mem_map,List.mem_map] at hs
  rcases hs with ⟨q,hq,rfl⟩ | ⟨q,hq,rfl⟩
  ·obtain ⟨i,hi,rfl⟩:=List.mem_iff_getElem.1 hq
   refine ⟨_,rfl,?_⟩
   have h:=hO.xs i (by rw [←hO.nx];exact hi)
   unfold cZ at h
   rw [List.getD_eq_getElem?_getD,List.getElem?_eq_getElem hi] at h
   exact H2.ok h (by decide)
  ·obtain ⟨i,hi,rfl⟩:=List.mem_iff_getElem.1 hq
   refine ⟨_,rfl,?_⟩
   have h:=hO.tp i (by rw [←hO.nt];exact hi)
   unfold bG at h
   rw [List.getD_eq_getElem?_getD,List.getElem?_eq_getElem hi] at h
   exact H2.ok h (by decide)
 have N7:=hid hok
 have HCM:=hid (fun (i:Nat) (hi:i+1<P.lg.length) w' (hg:Good w')=>rq (cZ P (i+1)) (cZ P i) ((kK ((hO.xs (i+1) hi).ok (by decide))).mono (by decide)) ((kK ((hO.xs i (by omega)).ok (by decide))).mono (by decide)) w' hg)
 have HAS:=hid (fun (i:Nat) (hi:i+1<P.lg.length)=>show decide (dx (cZ P (i+1)) (cZ P i)≤0)=false from decide_eq_false (by have:=qM.2 (hO.I6 i hi);omega))
 have ZV:=hid (fun (B cap:Nat) W' (hb:Below w.heap.size w W') hB h0 h1=>CS B cap va vt (P.xs.map tx) (P.tp.map tx) W' hB h0 h1 ((hP.a.below hb).pos (by rw [List.length_map,hO.nx];have:=hO.n2;omega)) ((hP.t.below hb).pos (by rw [List.length_map,hO.nt];have:=hO.n2;omega)) (by rw [List.length_map,hO.nx];have:=hO.n2;omega) (by rw [List.length_map,hO.nx];have:=hO.n20;omega) (by rw [List.length_map,hO.nt];have:=hO.n20;omega))
 obtain ⟨ba,oa,ca,rfl,ET,ma,R5,hcell⟩:=jL hP.a (by rw [hO.nx];have:=hO.n2;omega)
 have HXC:=hid (fun wx (hb:Below w.heap.size w wx) i (hi:i<P.lg.length)=>show wx.cell? ⟨ba,oa+i,none⟩=some (.string (tx (cZ P i))) from (hb.cell (p:=⟨ba,oa+i,none⟩) R5).trans (hcell i (by rw [hO.nx];exact hi)))
 obtain ⟨pg,cg,rfl,hcg,jK⟩:=hP.g.slice
 obtain ⟨oQ,ct,rfl,hct,mf⟩:=hP.t.slice
 have hn2:=hO.n2
 have xE:=hO.n20
 unfold maxLen at jK ma mf
 rw [List.length_map] at Zi ZV hct ⊢
 rw [hO.nx] at Zi ZV ET ⊢
 rw [hO.nt] at Zi ZV hct ⊢
 unfold iX at *
 unfold Kt at ZV
 unfold RV at *
 clear hO hP hcell hok
 generalize tx P.cs.ch=t1 at *
 generalize tx P.cs.mi=t2 at *
 generalize tx P.cs.ga=t3 at *
 generalize tx P.cs.re=t4 at *
 generalize P.lg.length=n at *
 have d1:decide ((n:Int)<2)=false:=decide_eq_false (by omega)
 have d2:decide ((20:Int)<(n:Int))=false:=decide_eq_false (by omega)
 go_enter Tryz.func44,Tryz.ntmps44
 go_upto_region 1 with fail
 obtain ⟨wP,bX⟩ : ∃ wP,wP=w.alloc (Obj.cells #[.slice pg n cg,.slice (some ⟨ba,oa,none⟩) n ca,.slice oQ n ct,.string t1,.string t2,.string t3,.string t4] 37):=⟨_,rfl⟩
 have eT:Below w.heap.size w wP:=by rw [bX];exact ae _ _
 have hpq:wP.heap[w.heap.size]?=some (.cells #[.slice pg n cg,.slice (some ⟨ba,oa,none⟩) n ca,.slice oQ n ct,.string t1,.string t2,.string t3,.string t4] 37 (0,0)):=by rw [bX];exact World.alloc_heap_new _ _
 rw [←bX]
 clear bX
 obtain ⟨p0,p1,p2,p3,p4,p5,p6⟩:=au hpq
 obtain ⟨wS,qV⟩ : ∃ wS,wS=wP.alloc (Obj.cells #[.slice (some ⟨ba,oa,none⟩) n ca,.slice oQ n ct] 32):=⟨_,rfl⟩
 have hbS:Below wP.heap.size wP wS:=by rw [qV];exact ae _ _
 have hpS:wS.heap[wP.heap.size]?=some (.cells #[.slice (some ⟨ba,oa,none⟩) n ca,.slice oQ n ct] 32 (0,0)):=by rw [qV];exact World.alloc_heap_new _ _
 have yM:=hid qV
 obtain ⟨s0,s1,_,_⟩:=aj hpS
 have qE:=hid (eT.trans (hbS.mono eT.size))
 have ZI:=hid ((hbS.block _ (aa hpq)).trans hpq)
 have aea:=hid (ZV.out wP.heap.size 2 wS qE.out (aa hpS) s0 s1)
 clear qV hbS hpS s0 s1 hpq ZV eT
 go_wp2_with fail
 rw [←yM.out]
 refine aea.out.mono ?_
 rintro e wC ⟨vc,rfl,hrc,hbC⟩
 have DX:=hid (qE.out.trans (hbC.mono qE.out.size))
 have ZN:=hid ((hbC.block _ (aa ZI.out)).trans ZI.out)
 obtain ⟨LC,hLC⟩ : ∃ LC,LC=P.xs.map tx++P.tp.map tx:=⟨_,rfl⟩
 rw [←hLC] at N7 hrc
 have HRC:=hid hrc
 obtain ⟨pc,cc,rfl,hcc,af8⟩:=hrc.slice
 unfold maxLen at af8
 clear hbC hrc hLC p0 p1 p2 p3 p4 p5 p6 aea yM
 go_wp2_with fail
 go_loopw [2,5,6,36] (fun _ _ _ iv wr=>∃ k:Nat,k≤LC.length∧iv=.int .i64 (k:Int)∧Below wC.heap.size wC wr) (fun _ _ _ iv _=>LC.length-(intOf iv).toNat)
 case atStart=>exact ⟨0,Nat.zero_le _,rfl,Below.refl _ _⟩
 case round =>
  obtain ⟨k,hkl,rfl,hbr⟩:=hrel
  by_cases hk:k<LC.length
  ·obtain ⟨bc,oc,rfl,hbc,c0⟩:=HRC.out.at hk
   have c0:=(hbr.cell (p:=⟨bc,oc+k,none⟩) hbc).trans c0
   obtain ⟨q,hq1,hq2⟩:=N7.out _ (List.getElem_mem hk)
   rw [hq1] at c0
   have HK:=hid (fun w' (hg:Good w')=>gY q hq2 w' hg)
   unfold RV at HK
   have kn:decide ((k:Int)<(LC.length:Int))=true:=decide_eq_true (by omega)
   have i1:(0:Int)≤(k:Int):=by omega
   have i2:(k:Int)<(LC.length:Int):=by omega
   clear hq1 hq2
   generalize tx q=s at *
   go_wp2_with fail
   refine (HK.out wr (hw.below (DX.out.trans (hbr.mono DX.out.size)))).mono ?_
   rintro e w1 ⟨rfl,hb1⟩
   go_wp2
   refine ⟨⟨k+1,hk,aA k,hbr.trans (hb1.mono hbr.size)⟩,?_⟩
   show LC.length-((k:Int)+1).toNat<LC.length-((k:Int)).toNat
   omega
  ·obtain rfl:k=LC.length:=by omega
   have kn:decide ((LC.length:Int)<(LC.length:Int))=false:=decide_eq_false (by omega)
   have sZ:=hid (DX.out.trans (hbr.mono DX.out.size))
   have hpr:=(hbr.block _ (aa ZN.out)).trans ZN.out
   have FB:=hid hpr
   clear hbr hk hkl
   go_wp2_with fail
   go_loopw [2,7] (fun _ iv wx=>∃ k:Nat,k+1≤n∧iv=.int .i64 ((k:Int)+1)∧Below w.heap.size w wx∧wx.heap[w.heap.size]?=some (.cells #[.slice pg n cg,.slice (some ⟨ba,oa,none⟩) n ca,.slice oQ n ct,.string t1,.string t2,.string t3,.string t4] 37 (0,0))) (fun _ iv _=>n-(intOf iv).toNat)
   case atStart=>exact ⟨0,by omega,rfl,sZ.out,FB.out⟩
   case round =>
    obtain ⟨k,hkn,rfl,hbx,hpx⟩:=hrel
    have Ei:=hid hbx
    have HPX:=hid hpx
    clear hbx
    have w1:IntKind.i64.wrap ((k:Int)+1-1)=(k:Int):=(IntWalk.i64_in _ (by omega)).trans (by omega)
    have w2:IntKind.i64.wrap (k:Int)=(k:Int):=IntWalk.i64_in _ (by omega)
    have w3:IntKind.i64.wrap ((k:Int)+1+1)=(k:Int)+1+1:=IntWalk.i64_in _ (by omega)
    by_cases hk:k+1<n
    ·have kn:decide ((k:Int)+1<(n:Int))=true:=decide_eq_true (by omega)
     have Jc:decide (k+1<n)=true:=decide_eq_true hk
     have i1:(0:Int)≤(k:Int)+1:=by omega
     have i2:(k:Int)+1<(n:Int):=by omega
     have i3:(0:Int)≤(k:Int):=by omega
     have i4:(k:Int)<(n:Int):=by omega
     have i5:((k:Int)+1).toNat=k+1:=by omega
     have c0:=HXC.out wr Ei.out (k+1) hk
     have c1:=HXC.out wr Ei.out k (by omega)
     have lb:=Nat.lt_of_lt_of_le R5 Ei.out.size
     have lp:=aa hpx
     obtain ⟨p0,p1,p2,p3,p4,p5,p6⟩:=au hpx
     have H1:=hid (HCM.out k hk)
     have e1:=HAS.out k hk
     generalize tx (cZ P (k+1))=x1 at *
     generalize tx (cZ P k)=x0 at *
     generalize dx (cZ P (k+1)) (cZ P k)=cm at *
     clear hpx
     go_wp2_with fail
     refine aN (fun W'=>Below wr.heap.size wr W') [0,1,2,3,4,5,6,7,8,9,10] [11] 12 (by kernel_rfl) (by kernel_rfl) ⟨rfl,rfl,rfl,Nat.le_refl _,fun _ _=>rfl⟩ ?_
     iterate 11
      refine aL rfl ?_ rfl ?_ ?_
      rotate_left
      ·intro W' hS'
       have s0:=(hS'.cell (p:=⟨w.heap.size,1,none⟩) lp).trans p1
       have s1:=(hS'.cell (p:=⟨ba,oa+(k+1),none⟩) lb).trans c0
       have s2:=(hS'.cell (p:=⟨ba,oa+k,none⟩) lb).trans c1
       go_simp
       try with_reducible rfl
      try simp only [zA,zB,zC,Act.put,zD,zE,zF]
     have hH0:Below wr.heap.size wr wr.drew:=⟨rfl,rfl,rfl,Nat.le_refl _,fun _ _=>rfl⟩
     refine aD rfl rfl (fun K hK=>?_)
     go_simp
     refine (H1.out _ (hw.below (Ei.out.trans (hH0.mono Ei.out.size)))).mono ?_
     rintro e v1 ⟨rfl,rC⟩
     have hH1:=hH0.trans (rC.mono hH0.size)
     refine hK _ _ ⟨hH1,?_⟩
     clear hK K
     try simp only [zA,zB,zC,Act.put,zD,zE,zF]
     unfold bE
     simp only [List.drop_succ_cons,List.drop_zero]
     try simp only [zA,zB,zC,Act.put,zD,zE,zF]
     refine aB rfl (fun K hK=>?_)
     go_simp
     refine hK _ _ ⟨trivial,aQ ?_⟩
     clear hK K
     refine ag.mk ?_
     clear p0 p1 p2 p3 p4 p5 p6 c0 c1
     have HH:=hid hH1
     clear hH0 hH1 rC
     go_wp2
     refine ⟨⟨k+1,hk,by push_cast;rfl,Ei.out.trans (HH.out.mono Ei.out.size),(HH.out.block _ lp).trans HPX.out⟩,?_⟩
     show n-((k:Int)+1+1).toNat<n-((k:Int)+1).toNat
     omega
    ·have kn:decide ((k:Int)+1<(n:Int))=false:=decide_eq_false (by omega)
     have Jc:decide (k+1<n)=false:=decide_eq_false hk
     have w4:IntKind.i64.wrap ((n:Int)-1)=((n-1:Nat):Int):=(IntWalk.i64_in _ (by omega)).trans (by omega)
     obtain ⟨m,hm⟩ : ∃ m,m=n-1:=⟨_,rfl⟩
     rw [←hm] at w4
     have Hf:=hid hm
     have UK:m≤20:=by omega
     clear hpx hm hk hkn
     go_wp2_with fail
     go_loopw [2,8,9,66] (fun _ _ _ iv wx=>∃ k:Nat,k≤m∧iv=.int .i64 (k:Int)∧Below w.heap.size w wx∧wx.heap[w.heap.size]?=some (.cells #[.slice pg n cg,.slice (some ⟨ba,oa,none⟩) n ca,.slice oQ n ct,.string t1,.string t2,.string t3,.string t4] 37 (0,0))) (fun _ _ _ iv _=>m-(intOf iv).toNat)
     case atStart=>exact ⟨0,Nat.zero_le _,rfl,Ei.out,HPX.out⟩
     case round =>
      obtain ⟨k,YU,rfl,hbx,hpx⟩:=hrel
      have UD:=hid hbx
      have HPY:=hid hpx
      obtain ⟨p0,p1,p2,p3,p4,p5,p6⟩:=au hpx
      clear hbx hpx
      by_cases hk:k<m
      ·have kn:decide ((k:Int)<(m:Int))=true:=decide_eq_true (by omega)
       have Jc:decide (k<m)=true:=decide_eq_true hk
       have HK:=hid (show k+1<n by have:=Hf.out;omega)
       have w5:IntKind.i64.wrap ((k:Int)+1)=(k:Int)+1:=IntWalk.i64_in _ (by omega)
       go_wp2_with fail
       refine (Zi.out k HK.out wr UD.out).mono ?_
       rintro e v1 ⟨vl,vr,rfl,hl1,hr1,hb1⟩
       have HB1:=hid (UD.out.trans (hb1.mono UD.out.size))
       have Ep:=hid (HCC.out k HK.out vl vr v1 (hw.below HB1.out) (hl1.below hb1) (hr1.below hb1))
       have HP1:=hid ((hb1.block _ (aa HPY.out)).trans HPY.out)
       clear hl1 hr1 hb1 p0 p1 p2 p3 p4 p5 p6
       go_wp2_with fail
       refine Ep.out.mono ?_
       rintro e v2 ⟨rfl,hb2⟩
       have HB2:=hid (HB1.out.trans (hb2.mono HB1.out.size))
       have HP2:=hid ((hb2.block _ (aa HP1.out)).trans HP1.out)
       clear hb2
       go_wp2
       refine ⟨⟨k+1,hk,aA k,HB2.out,HP2.out⟩,?_⟩
       show m-((k:Int)+1).toNat<m-((k:Int)).toNat
       omega
      ·obtain rfl:k=m:=by omega
       go_wp2
       go_ret
       exact ⟨rfl,UD.out⟩
end Go.Proofs.YtglncfkoohgdaaaGreatDoor
