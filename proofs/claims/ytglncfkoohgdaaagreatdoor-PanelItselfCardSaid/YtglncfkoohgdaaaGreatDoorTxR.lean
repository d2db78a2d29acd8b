import Derived.Test.YtglncfkoohgdaaaGreatDoorStillR
import Derived.Test.YtglncfkoohgdaaaGreatDoorGcdR
import Derived.Test.YtglncfkoohgdaaaGreatDoorMathR
import Derived.Deep.DeepCutAuto
import Derived.Deep.RegionHeld3
import Derived.Deep.WholeRow
import Derived.Laws.AppendOwnNone
import Derived.RangeFuncRecord
import Derived.Deep.LoopGhost
import Derived.StillTailTactics
import Derived.Test.YtglncfkoohgdaaaGreatDoorBaseR
set_option maxRecDepth 100000
set_option maxHeartbeats 4000000
namespace Go.Proofs.YtglncfkoohgdaaaGreatDoor
open Go.RowKit Go.Shelf
open Go.Lib (decDigits itoa nDigits)
open Go.Lib (hid)
theorem ae (w:World) (o:Obj):Below w.heap.size w (w.alloc o):=(Below.refl _ _).alloc (Nat.le_refl _) _
theorem zP (w:World) (cs:Array Value) (t:TypeId) (i:Nat) (h:i<cs.size):(w.alloc (Obj.cells cs t)).cell? ⟨w.heap.size,i,none⟩=some cs[i]:=by
 rw [World.cell?_alloc_new];simp [h]
theorem ou {q:Rat} {n:Int} {d:Nat} (h1:q.num=n) (h2:q.den=d):aX q=dR n d:=by unfold aX;rw [h1,h2]
theorem qZ {n d:Nat} (h1:n<10) (h2:d<10):dR (n:Int) d=if d=1 then [UInt8.ofNat (48+n)] else [UInt8.ofNat (48+n),47,UInt8.ofNat (48+d)]:=by
 unfold dR
 rw [fu,bB h1,bB h2]
 rfl
theorem yC {n:Nat} (h1:10≤n) (h2:n<100):dR (n:Int) 1=[UInt8.ofNat (48+n/10),UInt8.ofNat (48+n % 10)]:=by
 unfold dR
 rw [if_pos rfl,fu,fZ h1,bB (by omega)]
 rfl
theorem ow (n:Nat) (h:n<10):aX (n:Rat)=[UInt8.ofNat (48+n)]:=by
 rw [show ((n:Nat):Rat)=((n:Int):Rat) from rfl,yo,fu,bB h]
theorem text0:aX 0=[48]:=by have:=ow 0 (by decide);simpa using this
theorem text1:aX 1=[49]:=by have:=ow 1 (by decide);simpa using this
theorem adR:aX 2=[50]:=ow 2 (by decide)
theorem adS:aX 3=[51]:=ow 3 (by decide)
theorem adT:aX 4=[52]:=ow 4 (by decide)
theorem adU:aX 5=[53]:=ow 5 (by decide)
theorem Zm:aX (1/2)=[49,47,50]:=by
 rw [ou (n:=((1:Nat):Int)) (d:=2) (by decide +kernel) (by decide +kernel),qZ (by decide) (by decide)];decide
theorem aj {W:World} {B:Nat} {t:TypeId} {a b:Value} (h:W.heap[B]?=some (.cells #[a,b] t (0,0))):W.cell? ⟨B,0,none⟩=some a∧W.cell? ⟨B,1,none⟩=some b∧W.frozen? ⟨B,0,none⟩=false∧W.frozen? ⟨B,1,none⟩=false:=by
 refine ⟨by simp [World.cell?,h],by simp [World.cell?,h],by simp [World.frozen?,h],by simp [World.frozen?,h]⟩
theorem aU {W:World} {B:Nat} {t:TypeId} {a b:Value} (v:Value) (h:W.heap[B]?=some (.cells #[a,b] t (0,0))):(W.setCell ⟨B,0,none⟩ v).heap[B]?=some (.cells #[v,b] t (0,0)):=by
 obtain ⟨hlt,hk⟩:=Array.getElem?_eq_some_iff.1 h
 show (W.heap.modify B _)[B]?=_
 rw [Array.getElem?_eq_getElem (by rw [Array.size_modify];exact hlt),Array.getElem_modify_self,hk]
 rfl
theorem aV {W:World} {B:Nat} {t:TypeId} {a b:Value} (v:Value) (h:W.heap[B]?=some (.cells #[a,b] t (0,0))):(W.setCell ⟨B,1,none⟩ v).heap[B]?=some (.cells #[a,v] t (0,0)):=by
 obtain ⟨hlt,hk⟩:=Array.getElem?_eq_some_iff.1 h
 show (W.heap.modify B _)[B]?=_
 rw [Array.getElem?_eq_getElem (by rw [Array.size_modify];exact hlt),Array.getElem_modify_self,hk]
 rfl
theorem lt_of_some {W:World} {k:Nat} {o:Obj} (h:W.heap[k]?=some o):k<W.heap.size:=(Array.getElem?_eq_some_iff.1 h).1
theorem aA (k:Nat):Value.int .i64 ((k:Int)+1)=.int .i64 ((k+1:Nat):Int):=by simp
theorem bU (q:Rat):gN ⟨(aX q).toArray⟩ q:=by unfold gN;simp
theorem JU (n:Int) (d:Nat) (hd:0<d):(mkRat n d).num.natAbs≤n.natAbs∧(mkRat n d).den≤d:=by
 rw [Rat.num_mkRat,Rat.den_mkRat,if_neg (by omega),if_neg (by omega)]
 refine ⟨?_,Nat.div_le_self _ _⟩
 rw [Int.natAbs_ediv_of_dvd (Int.ofNat_dvd_left.2 (by rw [Nat.gcd_comm];exact Nat.gcd_dvd_left _ _))]
 exact Nat.div_le_self _ _
abbrev tx (q:Rat):ByteArray:=⟨(aX q).toArray⟩
abbrev QP:=Rat × Rat
def Fr (N D:Nat) (q:Rat):Prop:=q.num.natAbs≤N∧q.den≤D
def Sz (_:Nat) (q:Rat):Prop:=bM q
theorem Sz.mono {m n:Nat} {q:Rat} (h:Sz m q) (_:m≤n):Sz n q:=h
theorem Sz.sm {m n:Nat} {q:Rat} (h:Sz m q):Sz n q:=h
def oz (q:Rat):Prop:=bM q
theorem oz.sz {q:Rat} (h:oz q):Sz 402 q:=h
theorem Sz.siz {m n:Nat} {q:Rat} (h:Sz m q) (hn:21≤n:=by decide):(tx q).size≤n:=Nat.le_trans (dN (bU q) h) hn
theorem oz.siz {n:Nat} {q:Rat} (h:oz q) (hn:21≤n:=by decide):(tx q).size≤n:=Sz.siz (m:=0) h hn
theorem GQ {q:Rat} {N D:Nat} (h:q.num.natAbs≤N∧q.den≤D) (h1:N<10 ^ 9) (h2:D<10 ^ 9):oz q:=⟨by omega,by omega⟩
theorem Fc.okB {N c:Nat} {q:Rat} (h:Fc N c q) (hc:0<c) (h1:N*c<10 ^ 9) (h2:c<10 ^ 9):oz q:=GQ (h.parts hc) h1 h2
theorem Fc.sm {N c n:Nat} {q:Rat} (h:Fc N c q) (hc:0<c:=by decide) (h1:N*c<10 ^ 9:=by decide) (h2:c<10 ^ 9:=by decide):Sz n q:=h.okB hc h1 h2
def rf (_:Nat) (p:QP):Prop:=Fc 64 4 p.1∧Fc 64 4 p.2
theorem rf.sm {m n:Nat} {p:QP} (h:rf m p):rf n p:=h
def RV (v:Value) (w:World) (e:Ending) (w':World):Prop:=e=.returned v∧Below w.heap.size w w'
theorem uz (p q:Rat) (hp:Sz 1000000000 p) (hq:Sz 1000000000 q) (w:World) (hw:Good w):Calls Tryz.prog 55 #[.string (tx p),.string (tx q)] w (RV (.string (tx (p+q))) w):=
 (pI (tx p) (tx q) p q (bU p) (bU q) hp hq w hw).mono fun e w' ⟨r,he,hr,hb⟩=>⟨by rw [he,hr.unique (bU (p+q))],hb⟩
theorem uA (p q:Rat) (hp:Sz 1000000000 p) (hq:Sz 1000000000 q) (w:World) (hw:Good w):Calls Tryz.prog 73 #[.string (tx p),.string (tx q)] w (RV (.string (tx (p*q))) w):=
 (kZ (tx p) (tx q) p q (bU p) (bU q) hp hq w hw).mono fun e w' ⟨r,he,hr,hb⟩=>⟨by rw [he,hr.unique (bU (p*q))],hb⟩
theorem jX (p q:Rat) (hp:Sz 999999999 p) (hq:Sz 999999999 q) (w:World) (hw:Good w):Calls Tryz.prog 72 #[.string (tx p),.string (tx q)] w (RV (.string (tx (p-q))) w):=
 (GM (tx p) (tx q) p q (bU p) (bU q) hp hq w hw).mono fun e w' ⟨r,he,hr,hb⟩=>⟨by rw [he,hr.unique (bU (p-q))],hb⟩
theorem abo (p q:Rat) (h0:q≠0) (hp:Sz 900000000 p) (hq:Sz 900000000 q) (w:World) (hw:Good w):Calls Tryz.prog 71 #[.string (tx p),.string (tx q)] w (RV (.tuple #[.string (tx (p*q⁻¹)),.int .i64 0]) w):=
 (GN (tx p) (tx q) p q (bU p) (bU q) h0 hp hq w hw).mono fun e w' ⟨r,he,hr,hb⟩=>⟨by rw [he,hr.unique (bU (p*q⁻¹))],hb⟩
theorem gY (q:Rat) (h:oz q) (w:World) (hw:Good w):Calls Tryz.prog 50 #[.string (tx q)] w (RV (.int .i64 0) w):=Cb (tx q) q (bU q) h w hw
theorem rq (p q:Rat) (hp:Sz 1000000000 p) (hq:Sz 1000000000 q) (w:World) (hw:Good w):Calls Tryz.prog 69 #[.string (tx p),.string (tx q)] w (RV (.int .i64 (dx p q)) w):=
 fF (tx p) (tx q) p q (bU p) (bU q) hp hq w hw
def xm (p:QP):Value:=.agg #[.string (tx p.1),.string (tx p.2)]
theorem ME {w wA:World} {a b c d:Value} {t:TypeId} (aS:wA=(w.alloc (Obj.cells #[a,b] t)).alloc (Obj.cells #[c,d] t)) :
  Below w.heap.size w wA∧wA.heap[w.heap.size]?=some (.cells #[a,b] t (0,0))∧wA.heap[w.heap.size+1]?=some (.cells #[c,d] t (0,0)):=by
 have e1:=World.alloc_heap_new w (Obj.cells #[a,b] t)
 have e2:=World.alloc_heap_new (w.alloc (Obj.cells #[a,b] t)) (Obj.cells #[c,d] t)
 have hb:=ae (w.alloc (Obj.cells #[a,b] t)) (Obj.cells #[c,d] t)
 rw [aS]
 refine ⟨(ae _ _).trans (hb.mono (by simp)),?_,by simpa using e2⟩
 rw [hb.block _ (by simp)]
 exact e1
theorem MF {w wA:World} {a b c d e f:Value} {t:TypeId} (aS:wA=((w.alloc (Obj.cells #[a,b] t)).alloc (Obj.cells #[c,d] t)).alloc (Obj.cells #[e,f] t)) :
  Below w.heap.size w wA∧wA.heap[w.heap.size]?=some (.cells #[a,b] t (0,0))∧wA.heap[w.heap.size+1]?=some (.cells #[c,d] t (0,0))∧wA.heap[w.heap.size+1+1]?=some (.cells #[e,f] t (0,0)):=by
 obtain ⟨b1,e1,e2⟩:=ME (w:=w) (a:=a) (b:=b) (c:=c) (d:=d) (t:=t) rfl
 have e3:=World.alloc_heap_new ((w.alloc (Obj.cells #[a,b] t)).alloc (Obj.cells #[c,d] t)) (Obj.cells #[e,f] t)
 have hb:=ae ((w.alloc (Obj.cells #[a,b] t)).alloc (Obj.cells #[c,d] t)) (Obj.cells #[e,f] t)
 rw [aS]
 refine ⟨b1.trans (hb.mono b1.size),?_,?_,by simpa using e3⟩
 ·rw [hb.block _ (by simp;omega)];exact e1
 ·rw [hb.block _ (by simp)];exact e2
theorem aa {w:World} {b:Nat} {o:Obj} (h:w.heap[b]?=some o):b<w.heap.size:=(Array.getElem?_eq_some_iff.1 h).1
theorem tx1:tx 1=⟨#[49]⟩:=by show (⟨(aX 1).toArray⟩ : ByteArray)=_;rw [text1]
theorem tx0:tx 0=⟨#[48]⟩:=by show (⟨(aX 0).toArray⟩ : ByteArray)=_;rw [text0]
def Txs (w:World) (v:Value) (C:List Rat):Prop:=∃ b c,v=.slice (some ⟨b,0,none⟩) C.length c∧C.length≤c∧c≤maxLen∧b<w.heap.size∧∀ i (h:i<C.length),w.cell? ⟨b,i,none⟩=some (.string (tx C[i]))
theorem Zn (a b:Rat) (w:World):Txs (w.alloc (Obj.cells #[.string (tx a),.string (tx b)] 33)) (.slice (some ⟨w.heap.size,0,none⟩) 2 2) [a,b]:=by
 refine ⟨_,_,rfl,Nat.le_refl _,by decide,by simp,fun i hi=>?_⟩
 match i,hi with
 | 0,_=>exact zP w #[_,_] _ 0 (by simp)
 | 1,_=>exact zP w #[_,_] _ 1 (by simp)
theorem JV (v:Value) (C:List Rat) (hC:∀ c∈C,oz c) (w:World) (hw:Good w) (hv:Txs w v C) (hl:C.length≤1000) :
  Calls Tryz.prog 183 #[v] w (RV (.int .i64 0) w):=by
 obtain ⟨b,c,rfl,hcn,hcm,hbl,hcell⟩:=hv
 have Zo:=hid (fun i (h:i<C.length) w' (hg:Good w')=>gY C[i] (hC _ (List.getElem_mem h)) w' hg)
 unfold RV at Zo
 have hbw:=Below.refl w.heap.size w
 clear hC
 go_enter Tryz.func183,Tryz.ntmps183
 go_wp2_with fail
 go_loopw [2,4,5,8] (fun _ _ _ iv wr=>∃ k:Nat,k≤C.length∧iv=.int .i64 (k:Int)∧Below w.heap.size w wr) (fun _ _ _ iv _=>C.length-(intOf iv).toNat)
 case atStart=>exact ⟨0,Nat.zero_le _,rfl,hbw⟩
 case round =>
  obtain ⟨k,hkl,rfl,hbr⟩:=hrel
  by_cases hk:k<C.length
  ·have c0:=hcell k hk
   rw [←hbr.cell (p:=⟨b,k,none⟩) hbl] at c0
   have hkn:decide ((k:Int)<(C.length:Int))=true:=decide_eq_true (by omega)
   have i1:(0:Int)≤(k:Int):=by omega
   have i2:(k:Int)<(C.length:Int):=by omega
   have H1:=hid (Zo.out k hk)
   generalize tx C[k]=t at *
   go_wp2_with fail
   refine (H1.out _ (hw.below hbr)).mono ?_
   rintro e w1 ⟨rfl,hb1⟩
   go_wp2
   refine ⟨⟨k+1,hk,aA k,hbr.trans (hb1.mono hbr.size)⟩,?_⟩
   show C.length-((k:Int)+1).toNat<C.length-((k:Int)).toNat
   omega
  ·have hkn:decide ((k:Int)<(C.length:Int))=false:=decide_eq_false (by omega)
   go_wp2
   go_ret
   exact ⟨rfl,hbr⟩
def tT (q:Rat):Rat:=if q<0 then -q else q
theorem cell_one_new (w:World) (a:Value) (t:TypeId):∀ (j:Nat) (u:Value),[a][j]?=some u→(w.alloc (.cells #[a] t)).cell? ((⟨w.heap.size,0,none⟩ : Addr).add j)=some u:=by
 intro j u hj
 rw [sO,World.cell?_alloc_new]
 simpa using hj
theorem yD:SliceOf 32 33 (.string ⟨#[]⟩) 1 16:=⟨Tryz.underlying32,by kernel_rfl,rfl,by decide⟩
theorem aJ {W:World} {B i:Nat} {cs:Array Value} {t:TypeId} {fz:Nat × Nat} (v:Value) (h:W.heap[B]?=some (.cells cs t fz)):(W.setCell ⟨B,i,none⟩ v).heap[B]?=some (.cells (cs.setIfInBounds i v) t fz):=by
 obtain ⟨hlt,hk⟩:=Array.getElem?_eq_some_iff.1 h
 show (W.heap.modify B _)[B]?=_
 rw [Array.getElem?_eq_getElem (by rw [Array.size_modify];exact hlt),Array.getElem_modify_self,hk]
 rfl
theorem iT {W:World} {B:Nat} {t:TypeId} {a b c d:Value} (h:W.heap[B]?=some (.cells #[a,b,c,d] t (0,0))) :
  W.cell? ⟨B,0,none⟩=some a∧W.cell? ⟨B,1,none⟩=some b∧W.cell? ⟨B,2,none⟩=some c∧W.cell? ⟨B,3,none⟩=some d:=by
 refine ⟨?_,?_,?_,?_⟩ <;> simp [World.cell?,h]
abbrev jh:=ByteArray × ByteArray
def jC (w:World) (v:Value) (L:List jh):Prop:=
 ∃ p c,v=.slice p L.length c∧L.length≤c∧c≤maxLen∧(0<L.length→∃ b off,p=some ⟨b,off,none⟩∧b<w.heap.size∧∀ i (h:i<L.length),w.cell? ⟨b,off+i*2,none⟩=some (.string L[i].1)∧w.cell? ⟨b,off+i*2+1,none⟩=some (.string L[i].2))
theorem jC.below {w w':World} {v:Value} {L:List jh} (h:jC w v L) (hb:Below w.heap.size w w'):jC w' v L:=by
 obtain ⟨p,c,hv,hc,hm,hx⟩:=h
 refine ⟨p,c,hv,hc,hm,fun h0=>?_⟩
 obtain ⟨b,off,hp,hbl,hcell⟩:=hx h0
 refine ⟨b,off,hp,Nat.lt_of_lt_of_le hbl hb.size,fun i hi=>?_⟩
 rw [hb.cell (p:=⟨b,off+i*2,none⟩) hbl,hb.cell (p:=⟨b,off+i*2+1,none⟩) hbl]
 exact hcell i hi
def aR (p:QP):jh:=(tx p.1,tx p.2)
def cellsS (L:List jh):List Value:=L.flatMap fun p=>[.string p.1,.string p.2]
theorem jI (L:List jh):(cellsS L).length=L.length*2:=by
 induction L with
 | nil=>rfl
 | cons p r ih=>unfold cellsS at *; rw [List.flatMap_cons,List.length_append,ih,List.length_cons];simp;omega
theorem zQ (L:List jh) (p:jh):cellsS (L ++ [p])=cellsS L ++ [.string p.1,.string p.2]:=by unfold cellsS;simp
theorem eQ:∀ (L:List jh) (i:Nat) (hi:i<L.length) (j:Nat) (hj:j<2),(cellsS L)[i*2+j]?=some ([Value.string L[i].1,.string L[i].2][j])
 | [],i,hi,_,_=>by simp at hi
 | q :: r,0,_,j,hj=>by
  unfold cellsS
  rw [List.flatMap_cons,List.getElem?_append_left (by simp;omega)]
  simp only [Nat.zero_mul,Nat.zero_add,List.getElem_cons_zero]
  rw [List.getElem?_eq_getElem (by simpa using hj)]
 | q :: r,i+1,hi,j,hj=>by
  unfold cellsS
  rw [List.flatMap_cons,List.getElem?_append_right (by simp;omega)]
  have:=eQ r i (by simpa using hi) j hj
  unfold cellsS at this
  rw [show (i+1)*2+j - [Value.string q.1,.string q.2].length=i*2+j by simp;omega]
  simpa using this
theorem lU {w:World} {base:Nat} {e:TypeId} {v:Value} {L:List jh} (h:w.ownsRow base e 2 v L.length (cellsS L)):jC w v L:=by
 obtain ⟨_,p,c,rfl,hc,hm,hx⟩:=Reads.bu h
 refine ⟨p,c,rfl,hc,hm,fun h0=>?_⟩
 obtain ⟨b,off,hp,hbl,hcell⟩:=hx h0
 refine ⟨b,off,hp,hbl,fun i hi=>?_⟩
 have hl:=jI L
 have go:∀ j (hj:j<2),w.cell? ⟨b,off+(i*2+j),none⟩=some ([Value.string L[i].1,.string L[i].2][j]):=by
  intro j hj
  have h1:=hcell (i*2+j) (by omega)
  rw [h1,←eQ L i hi j hj,List.getElem?_eq_getElem]
 exact ⟨go 0 (by decide),go 1 (by decide)⟩
theorem uB {q:Rat} {l:List UInt8} (h:aX q=l):tx q=⟨l.toArray⟩:=by show (⟨(aX q).toArray⟩ : ByteArray)=_;rw [h]
theorem Zp:tx (1/2)=⟨#[49,47,50]⟩:=uB Zm
theorem adV:tx 3=⟨#[51]⟩:=uB adS
theorem afP:tx 4=⟨#[52]⟩:=uB adT
theorem afQ:tx 5=⟨#[53]⟩:=uB adU
end Go.Proofs.YtglncfkoohgdaaaGreatDoor
namespace Go.Proofs.YtglncfkoohgdaaaGreatDoor
open Go.RowKit
open Go.Lib (decDigits itoa nDigits)
open Go.Lib (hid)
theorem Av (a b:ByteArray) (p q:Rat) (ha:gN a p) (hb:gN b q) (hp:bM p) (hq:bM q) (hs:bM (p+q)) (w:World) (hw:Good w) :
  Calls Tryz.prog 174 #[.string a,.string b] w fun e w'=>∃ r:ByteArray,e=.returned (.string r)∧gN r ((p+q)*(1/2))∧Below w.heap.size w w':=by
 have HA:=hid ha
 have HB:=hid hb
 clear ha hb
 go_enter Tryz.func174,Tryz.ntmps174
 go_wp2_with fail
 refine (pI a b p q HA.out HB.out hp hq _ hw).mono ?_
 rintro e w1 ⟨c,rfl,hc,hb1⟩
 have HC:=hid hc
 clear hc
 go_wp2_with fail
 refine (kZ c _ (p+q) (1/2) HC.out Tf hs ⟨by decide +kernel,by decide +kernel⟩ _ (hw.below hb1)).mono ?_
 rintro e w2 ⟨r,rfl,hr,hb2⟩
 have HR:=hid hr
 clear hr
 go_wp2
 go_ret
 exact ⟨_,rfl,HR.out,hb1.trans (hb2.mono hb1.size)⟩
end Go.Proofs.YtglncfkoohgdaaaGreatDoor
namespace Go.Proofs.YtglncfkoohgdaaaGreatDoor
open Go.RowKit Go.Shelf
open Go.Lib (decDigits itoa nDigits)
abbrev ix (n:Int):ByteArray:=⟨(itoa n).toArray⟩
theorem nL (n:Int):eP (ix n) n:=by unfold eP;simp
def Iz (k:Nat) (n:Int):Prop:=(ix n).size≤k
theorem Cc (n:Int):(ix n).size=(itoa n).length:=(nL n).size
theorem Iz.mono {j k:Nat} {n:Int} (h:Iz j n) (hk:j≤k):Iz k n:=Nat.le_trans h hk
theorem Iz.lt {k:Nat} {n:Int} (h:Iz k n):n.natAbs<10 ^ k:=bS (by rw [←Cc];exact h)
theorem ix0:ix 0=⟨#[48]⟩:=by show (⟨(itoa 0).toArray⟩ : ByteArray)=_;rw [yj]
theorem ix1:ix 1=⟨#[49]⟩:=by show (⟨(itoa 1).toArray⟩ : ByteArray)=_;rw [vU]
theorem ajr (n:Int):tx (n:Rat)=ix n:=by show (⟨(aX (n:Rat)).toArray⟩ : ByteArray)=_;rw [yo]
theorem adW (n:Int) (h0:-9223372036854775808≤n) (h1:n≤9223372036854775807) (w:World) (hw:Good w):Calls Tryz.prog 95 #[.int .i64 n] w (RV (.string (ix n)) w):=
 (afJ n h0 h1 w hw).mono fun e w' ⟨r,he,hr,hb⟩=>⟨by rw [he,hr.unique (nL n)],hb⟩
theorem Ce (n:Int) (h0:n.natAbs≤4000000000000000000) (w:World) (hw:Good w):Calls Tryz.prog 130 #[.int .i64 n] w (RV (.string (ix n)) w):=
 (pG n h0 w hw).mono fun e w' ⟨r,he,hr,_,hb⟩=>⟨by rw [he,hr.unique (nL n)],hb⟩
theorem Zq {n:Int} (h0:n.natAbs≤4000000000000000000):Iz 20 n:=by
 unfold Iz
 rw [Cc]
 exact itoa_length_le n (k:=19) (by omega) (by omega)
theorem Tj (n:Int) (h:Iz 18 n) (w:World):Calls Tryz.prog 198 #[.string (ix n)] w (RV (.tuple #[.int .i64 n,.nilIface]) w):=by
 have hn:=h.lt
 unfold Iz at h
 refine (Tryz.strconv_Atoi_ok (ix n) (by omega) n (by rw [nL n];exact vX hn) w).mono ?_
 rintro e w' ⟨rfl,hw'⟩
 refine ⟨rfl,?_⟩
 rcases hw' with rfl | ⟨t,rfl⟩
 ·exact Below.refl _ _
 ·exact Lib.bytesWorld_below _ _ _
theorem ah1 (A B:List UInt8) (h:∀ c∈A,c≠47):Lib.indexByte (A++47 :: B) 47=(A.length:Int):=by
 have:=El A B h
 rwa [Lib.index_one] at this
theorem ahY (A:List UInt8) (h:∀ c∈A,c≠47):Lib.indexByte A 47 = -1:=by
 have:=indexByte_none A h
 rwa [Lib.index_one] at this
theorem aiD {s:ByteArray} {A B:List UInt8} (h:s.data.toList=A++B):(s.extract 0 A.length).data.toList=A:=by
 rw [Lib.extract_data,h];simp
theorem aiM {s:ByteArray} {A B:List UInt8} {c:UInt8} (h:s.data.toList=A++c :: B):(s.extract (A.length+1) s.size).data.toList=B:=by
 have h2:s.size=A.length+1+B.length:=by rw [Lib.size_eq,h];simp;omega
 rw [Lib.extract_data,h,h2]
 simp
theorem AR (q:Rat):(tx q).data.toList=aX q:=bU q
open Go.Lib (hid)
theorem adX (n d:Int) (hd:0<d) (hn:n.natAbs≤4000000000000000000) (hdl:d≤4000000000000000000) (w:World) (hw:Good w) :
  Calls Tryz.prog 58 #[.int .i64 n,.int .i64 d] w (RV (.string (tx (Rat.divInt n d))) w):=by
 obtain ⟨r,hr⟩ : ∃ r,r=tx (Rat.divInt n d):=⟨_,rfl⟩
 obtain ⟨G,hG⟩ : ∃ G,G=Int.gcd n d:=⟨_,rfl⟩
 have hlt:=mO (n:=n) hd
 rw [←hG] at hlt
 obtain ⟨-,v2,v3,v4,v5,v6,v7,v8⟩:=ve hd hG (x:=(G:Int)) (by simp)
 have HT1:=hid (show d/(G:Int)=1→ix (n/(G:Int))=r from fun h=>kW (by rw [hr,AR,hlt,h];exact nL _))
 have HT2:=hid (show ¬ d/(G:Int)=1→ix (n/(G:Int)) ++ ⟨#[47]⟩++ix (d/(G:Int))=r from fun h=>kW (by rw [hr,AR,hlt];exact oq (nL _) (nL _) (by omega)))
 have GR:=hid (fun w' hg=>Ce (n/(G:Int)) (by omega) w' hg)
 have Tk:=hid (fun w' hg=>Ce (d/(G:Int)) (by omega) w' hg)
 have Qf:=hid (Zq (n:=n/(G:Int)) (by omega))
 have Qg:=hid (Zq (n:=d/(G:Int)) (by omega))
 unfold RV at GR Tk
 have Lt:=hid v3
 have HV4:=hid v4
 have hG0:((G:Int) == 0)=false:=by simp;omega
 have RL:=hid hG
 rw [←hr]
 have hmx:max n (-n)=(n.natAbs:Int):=by omega
 have hda:(d.natAbs:Int)=d:=by omega
 by_cases hd1:d=1
 ·have hg1:G=1:=by rw [hG,hd1];exact Int.gcd_one
  have HE:=hid (show ix n=r by have:=HT1.out (by rw [hg1,hd1];rfl);rw [hg1] at this;simpa using this)
  clear hG hr hlt v2 v3 v4 v5 v6 v7 v8 hg1 hG0
  subst hd1
  go_enter Tryz.func58,Tryz.ntmps58
  go_wp2_with fail
  refine (Ce n hn w hw).mono ?_
  rintro e w1 ⟨rfl,hb1⟩
  go_wp2
  go_ret
  exact ⟨jl HE.out,hb1⟩
 ·have ahk:(d == 1)=false:=by simpa using hd1
  have ahl:(d != 1)=true:=by simpa using hd1
  clear hG hr hlt v3 v4 hd1
  go_enter Tryz.func58,Tryz.ntmps58
  go_wp2_with fail
  go_loopw [5,6] (fun xv yv wr=>∃ x y:Nat,xv=.int .i64 (x:Int)∧yv=.int .i64 (y:Int)∧Nat.gcd x y=G∧x≤4000000000000000000∧y≤4000000000000000000∧Below w.heap.size w wr) (fun _ yv _=>(intOf yv).natAbs)
  case atStart=>exact ⟨n.natAbs,d.natAbs,congrArg (Value.int .i64) (by omega),congrArg (Value.int .i64) (by omega),by rw [RL.out];exact (Int.gcd_eq_natAbs_gcd_natAbs n d).symm,by omega,by omega,Below.refl _ _⟩
  case round =>
   obtain ⟨x,y,rfl,rfl,hg,hxl,hyl,hbr⟩:=hrel
   have HG:=hid hg
   clear hg
   by_cases hy0:y=0
   ·subst hy0
    obtain rfl:G=x:=by have:=HG.out;simpa using this.symm
    go_wp2_with fail
    go_quiet (fail)
    have hb0:Below w.heap.size w (wr.drewN nq):=⟨hbr.os,hbr.tape,hbr.output,hbr.size,hbr.block⟩
    by_cases h1:d/(G:Int)=1
    ·have h1':(d/(G:Int) == 1)=true:=by simpa using h1
     have HE:=hid (show ix (n/(G:Int))=r from HT1.out h1)
     clear h1
     go_wp2_with fail
     try rw [Lt.out]
     refine (GR.out _ (hw.below hb0)).mono ?_
     rintro e w1 ⟨rfl,hb1⟩
     go_wp2
     go_ret
     exact ⟨jl HE.out,hb0.trans (hb1.mono hb0.size)⟩
    ·have h1':(d/(G:Int) == 1)=false:=by simpa using h1
     have HE:=hid (show ix (n/(G:Int)) ++ ⟨#[47]⟩++ix (d/(G:Int))=r from HT2.out h1)
     clear h1
     have s1:=Qf.out
     have s2:=Qg.out
     unfold Iz at s1 s2
     go_wp2_with fail
     try rw [Lt.out]
     refine (GR.out _ (hw.below hb0)).mono ?_
     rintro e w1 ⟨rfl,hb1⟩
     have jH:=hb0.trans (hb1.mono hb0.size)
     generalize ix (n/(G:Int))=t1 at *
     go_wp2_with fail
     try rw [HV4.out]
     refine (Tk.out _ (hw.below jH)).mono ?_
     rintro e w2 ⟨rfl,hb2⟩
     generalize ix (d/(G:Int))=t2 at *
     go_wp2
     go_ret
     exact ⟨jl HE.out,jH.trans (hb2.mono jH.size)⟩
   ·have hz:((y:Int) != 0)=true:=by simpa using hy0
    have hz2:((y:Int) == 0)=false:=by simpa using hy0
    have hmod:(x:Int).tmod (y:Int)=((x % y:Nat):Int):=rfl
    have HS:=hid (show Nat.gcd y (x % y)=G by rw [Nat.gcd_comm,←Nat.gcd_rec,Nat.gcd_comm];exact HG.out)
    have YN:=Nat.mod_lt x (show 0<y by omega)
    go_wp2_with fail
    go_quiet (fail)
    go_wp2
    exact ⟨⟨y,x % y,rfl,rfl,HS.out,hyl,by omega,⟨hbr.os,hbr.tape,hbr.output,hbr.size,hbr.block⟩⟩,by show (((x % y:Nat):Int)).natAbs<((y:Int)).natAbs;omega⟩
theorem zR (m n d e:Int) (hd:0<d) (hn:n.natAbs<1000000000) (hdl:d<1000000000) (hs:(e<0∧m = -n∧e = -d)∨(¬ e<0∧m=n∧e=d)) (w:World) (hw:Good w) :
  Calls Tryz.prog 131 #[.string (ix m),.string (ix e)] w (RV (.string (tx (Rat.divInt n d))) w):=by
 have hm9:Iz 18 m:=by unfold Iz;rw [Cc];exact itoa_length_le m (k:=17) (by omega) (by omega)
 have he9:Iz 18 e:=by unfold Iz;rw [Cc];exact itoa_length_le e (k:=17) (by omega) (by omega)
 have HAM:=hid (fun w'=>Tj m hm9 w')
 have HAE:=hid (fun w'=>Tj e he9 w')
 unfold RV at HAM HAE
 obtain ⟨r,hr⟩ : ∃ r,r=tx (Rat.divInt n d):=⟨_,rfl⟩
 obtain ⟨G,hG⟩ : ∃ G,G=Int.gcd n d:=⟨_,rfl⟩
 have hlt:=mO (n:=n) hd
 rw [←hG] at hlt
 obtain ⟨-,v2,v3,v4,v5,v6,v7,v8⟩:=ve hd hG (x:=(G:Int)) (by simp)
 have HT1:=hid (show d/(G:Int)=1→ix (n/(G:Int))=r from fun h=>kW (by rw [hr,AR,hlt,h];exact nL _))
 have HT2:=hid (show ¬ d/(G:Int)=1→ix (n/(G:Int)) ++ ⟨#[47]⟩++ix (d/(G:Int))=r from fun h=>kW (by rw [hr,AR,hlt];exact oq (nL _) (nL _) (by omega)))
 have GR:=hid (fun w' hg=>Ce (n/(G:Int)) (by omega) w' hg)
 have Tk:=hid (fun w' hg=>Ce (d/(G:Int)) (by omega) w' hg)
 have Qf:=hid (Zq (n:=n/(G:Int)) (by omega))
 have Qg:=hid (Zq (n:=d/(G:Int)) (by omega))
 unfold RV at GR Tk
 have Lt:=hid v3
 have HV4:=hid v4
 have hG0:((G:Int) == 0)=false:=by simp;omega
 have RL:=hid hG
 rw [←hr]
 clear hG hr hlt v3 v4 hm9 he9
 go_enter Tryz.func131,Tryz.ntmps131
 go_wp2_with fail
 refine (HAM.out w).mono ?_
 rintro e' w1 ⟨rfl,hb1⟩
 generalize ix m=tm at *
 go_wp2_with fail
 refine (HAE.out w1).mono ?_
 rintro e' w2 ⟨rfl,hb2⟩
 generalize ix e=te at *
 have Ej:=hb1.trans (hb2.mono hb1.size)
 clear hb1 hb2
 obtain ⟨he0,rfl,rfl⟩ | ⟨he0,rfl,rfl⟩:=hs
 ·have n1:- -n=n:=by omega
  have n2:- -d=d:=by omega
  by_cases hn0:n<0
  iterate 2
   ·go_wp2_with fail
    go_loopw [9,10] (fun xv yv wr=>∃ x y:Nat,xv=.int .i64 (x:Int)∧yv=.int .i64 (y:Int)∧Nat.gcd x y=G∧x≤4000000000000000000∧y≤4000000000000000000∧Below w.heap.size w wr) (fun _ yv _=>(intOf yv).natAbs)
    case atStart=>exact ⟨n.natAbs,d.natAbs,congrArg (Value.int .i64) (by omega),congrArg (Value.int .i64) (by omega),by rw [RL.out];exact (Int.gcd_eq_natAbs_gcd_natAbs n d).symm,by omega,by omega,Ej⟩
    case round =>
     obtain ⟨x,y,rfl,rfl,hg,hxl,hyl,hbr⟩:=hrel
     have HG:=hid hg
     clear hg
     by_cases hy0:y=0
     ·subst hy0
      obtain rfl:G=x:=by have:=HG.out;simpa using this.symm
      go_wp2_with fail
      go_quiet (fail)
      have hb0:Below w.heap.size w (wr.drewN nq):=⟨hbr.os,hbr.tape,hbr.output,hbr.size,hbr.block⟩
      by_cases h1:d/(G:Int)=1
      ·have h1':(d/(G:Int) == 1)=true:=by simpa using h1
       have HE:=hid (show ix (n/(G:Int))=r from HT1.out h1)
       clear h1
       go_wp2_with fail
       try rw [Lt.out]
       refine (GR.out _ (hw.below hb0)).mono ?_
       rintro e w1 ⟨rfl,hb1⟩
       go_wp2
       go_ret
       exact ⟨jl HE.out,hb0.trans (hb1.mono hb0.size)⟩
      ·have h1':(d/(G:Int) == 1)=false:=by simpa using h1
       have HE:=hid (show ix (n/(G:Int)) ++ ⟨#[47]⟩++ix (d/(G:Int))=r from HT2.out h1)
       clear h1
       have s1:=Qf.out
       have s2:=Qg.out
       unfold Iz at s1 s2
       go_wp2_with fail
       try rw [Lt.out]
       refine (GR.out _ (hw.below hb0)).mono ?_
       rintro e w1 ⟨rfl,hb1⟩
       have jH:=hb0.trans (hb1.mono hb0.size)
       generalize ix (n/(G:Int))=t1 at *
       go_wp2_with fail
       try rw [HV4.out]
       refine (Tk.out _ (hw.below jH)).mono ?_
       rintro e w2 ⟨rfl,hb2⟩
       generalize ix (d/(G:Int))=t2 at *
       go_wp2
       go_ret
       exact ⟨jl HE.out,jH.trans (hb2.mono jH.size)⟩
     ·have hz:((y:Int) != 0)=true:=by simpa using hy0
      have hz2:((y:Int) == 0)=false:=by simpa using hy0
      have hmod:(x:Int).tmod (y:Int)=((x % y:Nat):Int):=rfl
      have HS:=hid (show Nat.gcd y (x % y)=G by rw [Nat.gcd_comm,←Nat.gcd_rec,Nat.gcd_comm];exact HG.out)
      have YN:=Nat.mod_lt x (show 0<y by omega)
      go_wp2_with fail
      go_quiet (fail)
      go_wp2
      exact ⟨⟨y,x % y,rfl,rfl,HS.out,hyl,by omega,⟨hbr.os,hbr.tape,hbr.output,hbr.size,hbr.block⟩⟩,by show (((x % y:Nat):Int)).natAbs<((y:Int)).natAbs;omega⟩
 ·by_cases hn0:m<0
  iterate 2
   ·go_wp2_with fail
    go_loopw [9,10] (fun xv yv wr=>∃ x y:Nat,xv=.int .i64 (x:Int)∧yv=.int .i64 (y:Int)∧Nat.gcd x y=G∧x≤4000000000000000000∧y≤4000000000000000000∧Below w.heap.size w wr) (fun _ yv _=>(intOf yv).natAbs)
    case atStart=>exact ⟨m.natAbs,e.natAbs,congrArg (Value.int .i64) (by omega),congrArg (Value.int .i64) (by omega),by rw [RL.out];exact (Int.gcd_eq_natAbs_gcd_natAbs m e).symm,by omega,by omega,Ej⟩
    case round =>
     obtain ⟨x,y,rfl,rfl,hg,hxl,hyl,hbr⟩:=hrel
     have HG:=hid hg
     clear hg
     by_cases hy0:y=0
     ·subst hy0
      obtain rfl:G=x:=by have:=HG.out;simpa using this.symm
      go_wp2_with fail
      go_quiet (fail)
      have hb0:Below w.heap.size w (wr.drewN nq):=⟨hbr.os,hbr.tape,hbr.output,hbr.size,hbr.block⟩
      by_cases h1:e/(G:Int)=1
      ·have h1':(e/(G:Int) == 1)=true:=by simpa using h1
       have HE:=hid (show ix (m/(G:Int))=r from HT1.out h1)
       clear h1
       go_wp2_with fail
       try rw [Lt.out]
       refine (GR.out _ (hw.below hb0)).mono ?_
       rintro e w1 ⟨rfl,hb1⟩
       go_wp2
       go_ret
       exact ⟨jl HE.out,hb0.trans (hb1.mono hb0.size)⟩
      ·have h1':(e/(G:Int) == 1)=false:=by simpa using h1
       have HE:=hid (show ix (m/(G:Int)) ++ ⟨#[47]⟩++ix (e/(G:Int))=r from HT2.out h1)
       clear h1
       have s1:=Qf.out
       have s2:=Qg.out
       unfold Iz at s1 s2
       go_wp2_with fail
       try rw [Lt.out]
       refine (GR.out _ (hw.below hb0)).mono ?_
       rintro e w1 ⟨rfl,hb1⟩
       have jH:=hb0.trans (hb1.mono hb0.size)
       generalize ix (m/(G:Int))=t1 at *
       go_wp2_with fail
       try rw [HV4.out]
       refine (Tk.out _ (hw.below jH)).mono ?_
       rintro e w2 ⟨rfl,hb2⟩
       generalize ix (e/(G:Int))=t2 at *
       go_wp2
       go_ret
       exact ⟨jl HE.out,jH.trans (hb2.mono jH.size)⟩
     ·have hz:((y:Int) != 0)=true:=by simpa using hy0
      have hz2:((y:Int) == 0)=false:=by simpa using hy0
      have hmod:(x:Int).tmod (y:Int)=((x % y:Nat):Int):=rfl
      have HS:=hid (show Nat.gcd y (x % y)=G by rw [Nat.gcd_comm,←Nat.gcd_rec,Nat.gcd_comm];exact HG.out)
      have YN:=Nat.mod_lt x (show 0<y by omega)
      go_wp2_with fail
      go_quiet (fail)
      go_wp2
      exact ⟨⟨y,x % y,rfl,rfl,HS.out,hyl,by omega,⟨hbr.os,hbr.tape,hbr.output,hbr.size,hbr.block⟩⟩,by show (((x % y:Nat):Int)).natAbs<((y:Int)).natAbs;omega⟩
theorem lt9 {n:Int} (h:(ix n).size≤9):n.natAbs<1000000000:=Iz.lt (k:=9) h
theorem Zr (m e:Int) (h0:e≠0) (hm:(ix m).size≤9) (he:(ix e).size≤9) (w:World) (hw:Good w) :
  Calls Tryz.prog 131 #[.string (ix m),.string (ix e)] w (RV (.string (tx (Rat.divInt m e))) w):=by
 have h1:=lt9 hm
 have h2:=lt9 he
 by_cases hn:e<0
 ·rw [←Ea m e]
  exact zR m (-m) (-e) e (by omega) (by omega) (by omega) (.inl ⟨hn,by omega,by omega⟩) w hw
 ·exact zR m m e e (by omega) h1 (by omega) (.inr ⟨hn,rfl,rfl⟩) w hw
theorem MG (m e:Int) (h0:e≠0) (hm:Iz 9 m) (he:Iz 9 e) (w:World) (hw:Good w) :
  Calls Tryz.prog 60 #[.string (ix m),.string (ix e)] w (RV (.string (tx (Rat.divInt m e))) w):=by
 have hl:(ix m).size≤9∧(ix e).size≤9:=⟨hm,he⟩
 ·have HS:=hid (fun w' hg=>Zr m e h0 hl.1 hl.2 w' hg)
  unfold RV at HS
  obtain ⟨l1,l2⟩:=hl
  have i1:((ix m).size:Int)≤9:=by omega
  have i2:((ix e).size:Int)≤9:=by omega
  clear hm he
  generalize tx (Rat.divInt m e)=r at *
  generalize ix m=tm at *
  generalize ix e=te at *
  go_enter Tryz.func60,Tryz.ntmps60
  go_wp2_with fail
  refine (HS.out w hw).mono ?_
  rintro e' w1 ⟨rfl,hb1⟩
  go_wp2
  go_ret
  exact ⟨rfl,hb1⟩
theorem iz9 {n:Int} (h0:n.natAbs≤4000000):Iz 9 n:=by
 unfold Iz
 rw [Cc]
 exact itoa_length_le n (k:=8) (by omega) (by omega)
theorem ab1 (m e:Int) (h0:e≠0) (hm:m.natAbs≤4000000) (he:e.natAbs≤4000000) (w:World) (hw:Good w) :
  Calls Tryz.prog 37 #[.int .i64 m,.int .i64 e] w (RV (.string (tx (Rat.divInt m e))) w):=by
 have H1:=hid (fun w' hg=>adW m (by omega) (by omega) w' hg)
 have H2:=hid (fun w' hg=>adW e (by omega) (by omega) w' hg)
 have H3:=hid (fun w' hg=>MG m e h0 (iz9 hm) (iz9 he) w' hg)
 unfold RV at H1 H2 H3
 generalize tx (Rat.divInt m e)=r at *
 generalize ix m=tm at *
 generalize ix e=te at *
 go_enter Tryz.func37,Tryz.ntmps37
 go_wp2_with fail
 refine (H1.out w hw).mono ?_
 rintro e' w1 ⟨rfl,hb1⟩
 go_wp2_with fail
 refine (H2.out w1 (hw.below hb1)).mono ?_
 rintro e' w2 ⟨rfl,hb2⟩
 have Ej:=hb1.trans (hb2.mono hb1.size)
 go_wp2_with fail
 refine (H3.out w2 (hw.below Ej)).mono ?_
 rintro e' w3 ⟨rfl,hb3⟩
 go_wp2
 go_ret
 exact ⟨rfl,Ej.trans (hb3.mono Ej.size)⟩
theorem ai0 (q:Rat):(itoa q.num).length≤(aX q).length:=by rw [Oc];omega
theorem ai1 (q:Rat):nDigits q.den≤(aX q).length:=by
 rw [Oc]
 split
 ·rename_i h
  have h1:0<(itoa q.num).length:=List.length_pos_iff.2 (mJ _)
  rw [h,Go.Lib.nDigits_small (by decide)];omega
 ·omega
theorem aiN (q:Rat):(tx q).size=(aX q).length:=(bU q).size
theorem ai2 {k:Nat} {q:Rat} (h:(tx q).size≤k):Iz k q.num:=by
 have:=ai0 q
 unfold Iz
 rw [aiN] at h
 rw [Cc]
 omega
theorem ai3 {k:Nat} {q:Rat} (h:(tx q).size≤k):Iz k (q.den:Int):=by
 have:=ai1 q
 unfold Iz
 rw [aiN] at h
 rw [Cc,fu,aO]
 omega
theorem u6 {q:Rat} (h:(tx q).size≤9):bM q:=
 ⟨Iz.lt (k:=9) (ai2 h),by have:=Iz.lt (k:=9) (ai3 h);omega⟩
theorem ah0 (q:Rat) (hss:(tx q).size≤9) (w:World):Calls Tryz.prog 57 #[.string (tx q)] w (RV (.tuple #[.int .i64 q.num,.int .i64 (q.den:Int),.bool true]) w):=by
 obtain ⟨s,hs0⟩ : ∃ s,s=tx q:=⟨_,rfl⟩
 have h:gN s q:=by rw [hs0];exact bU q
 rw [←hs0] at hss ⊢
 clear hs0
 have hp0:=h.pos
 obtain ⟨A,hA⟩ : ∃ A,A=sM q.num:=⟨_,rfl⟩
 obtain ⟨D,hD⟩ : ∃ D,D=decDigits q.num.natAbs:=⟨_,rfl⟩
 obtain ⟨E,hE⟩ : ∃ E,E=decDigits q.den:=⟨_,rfl⟩
 obtain ⟨T,hT⟩ : ∃ T,T=o8 q.den:=⟨_,rfl⟩
 have hs:s.data.toList=A++(D++T):=by
  have h1:s.data.toList=aX q:=h
  rw [h1,Jr,hA,hD,hT]
 have HS:=hid hs
 have HDG:=hid (show ∀ c∈D,bO c=true from fun c hc=>bn _ c (by rw [hD] at hc;exact hc))
 have HEG:=hid (show ∀ c∈E,bO c=true from fun c hc=>bn _ c (by rw [hE] at hc;exact hc))
 have HNV:=hid (show q.num.natAbs=aT D by rw [hD,bH])
 have HEV:=hid (show q.den=aT E by rw [hE,bH])
 have hszA:s.size≤A.length+D.length+T.length:=Nat.le_of_eq (oh hs)
 have ahe:A.length+D.length+T.length≤s.size:=Nat.le_of_eq (oh hs).symm
 have hDl:0<D.length:=by rw [hD];exact List.length_pos_iff.2 (dz _)
 have HD:=hid hD
 have HE:=hid hE
 have HT:=hid hT
 have ahf:decide (0<s.size)=true:=by simpa using hp0
 clear hs hD hE hT
 have hq0:q<0↔q.num<0:=gJ
 by_cases hneg:q.num<0
 ·have hneg':q<0:=hq0.2 hneg
  have HNS:=hid (show q.num = -(q.num.natAbs:Int) by omega)
  clear hq0
  have hb0:A.length=1:=by rw [hA];unfold sM;rw [if_pos hneg];rfl
  have hfb:((s[0].toNat:Int) == 45)=true:=by rw [h.first hp0];simpa using hneg'
  clear hA
  go_enter Tryz.func57,Tryz.ntmps57
  go_wp2_with fail
  go_loopw [2,5] (fun nv iv wr=>∃ j:Nat,1≤j∧(j-1)≤D.length∧nv=.int .i64 ((aT (D.take (j-1)):Nat):Int)∧iv=.int .i64 (j:Int)∧Below w.heap.size w wr) (fun _ iv _=>s.size-(intOf iv).toNat)
  case atStart=>exact ⟨1,Nat.le_refl _,by simp,by simp [aT],rfl,Below.refl _ _⟩
  case round =>
   obtain ⟨j,hj1,hjD,rfl,rfl,hbr⟩:=hrel
   have hj9:(j-1)≤9:=by omega
   have hnl:=jO HDG.out (j-1) hj9
   by_cases hlt:(j-1)<D.length
   ·have hjs:j<s.size:=by omega
    obtain ⟨hc1,hc2,hc3⟩:=sU HS.out HDG.out (j-1) j hlt (by omega) hjs
    have hn47:((s[j].toNat:Int) != 47)=true:=by simp;omega
    have Te:((s[j].toNat:Int) == 47)=false:=by simp;omega
    have YO:=hid (show ((aT (D.take (j+1-1)):Nat):Int)=10*((aT (D.take (j-1)):Nat):Int)+((s[j].toNat:Int)-48) by rw [show j+1-1=(j-1)+1 by omega];exact hc3)
    clear hc3
    go_wp2
    refine ⟨⟨j+1,by omega,by omega,congrArg (Value.int .i64) (by rw [YO.out]),congrArg (Value.int .i64) (by omega),hbr⟩,?_⟩
    show s.size-((j:Int)+1).toNat<s.size-((j:Int)).toNat
    omega
   ·have hje:(j-1)=D.length:=by omega
    have hts:D.take (j-1)=D:=by rw [hje];exact List.take_length
    rw [hts]
    rw [hts] at hnl
    have hdv:=HNV.out
    have HRN:=hid (show -((aT D:Nat):Int)=q.num by have:=HNS.out;rw [←hdv];omega)
    by_cases hden:q.den=1
    ·have hsz2:s.size=j:=by rw [oh HS.out,HT.out];unfold o8;rw [if_pos hden];simp;omega
     have hlt2:decide (j<s.size)=false:=by simp;omega
     have hlt3:¬ j<s.size:=by omega
     have Mx:=hid hden
     clear hts hje hden hsz2 hdv
     go_wp2
     go_ret3
     exact ⟨by rw [←HRN.out,Mx.out];rfl,hbr⟩
    ·have hTe:T=47 :: E:=by rw [HT.out];unfold o8;rw [if_neg hden,HE.out]
     have hsz2:s.size=j+1+E.length:=by rw [oh HS.out,hTe];simp;omega
     have hjs:j<s.size:=by omega
     have hsl:s[j]=47:=by
      have h1:=Ma (A:=A++D) (D:=T) (T:=[]) (s:=s) (by rw [HS.out];simp) (k:=0) (by rw [hTe];simp) (by simp;omega)
      have hidx:(A++D).length+0=j:=by simp;omega
      simp only [hidx] at h1
      rw [h1]
      simp [hTe]
     have hn47:((s[j].toNat:Int) != 47)=false:=by rw [hsl];rfl
     have Te:((s[j].toNat:Int) == 47)=true:=by rw [hsl];rfl
     have HS2:Hid (s.data.toList=(A++D ++ [47])++(E ++ [])):=hid (by rw [HS.out,hTe];simp)
     have hl2:(A++D ++ [47]).length=j+1:=by simp;omega
     have Mx:=hid hden
     clear hts hje hden hTe hsl hdv
     go_wp2
     go_loopw [3,5] (fun dv iv wz=>∃ i:Nat,j+1≤i∧i-(j+1)≤E.length∧dv=.int .i64 ((aT (E.take (i-(j+1))):Nat):Int)∧iv=.int .i64 (i:Int)∧Below w.heap.size w wz) (fun _ iv _=>s.size-(intOf iv).toNat)
     case atStart=>exact ⟨j+1,Nat.le_refl _,by simp,by simp [aT],congrArg (Value.int .i64) (by omega),hbr⟩
     case round =>
      obtain ⟨i,hi1,hiE,rfl,rfl,hbz⟩:=hrel
      have hi9:i-(j+1)≤9:=by omega
      have hel:=jO HEG.out (i-(j+1)) hi9
      by_cases hlt2:i-(j+1)<E.length
      ·have his:i<s.size:=by omega
       obtain ⟨hc1,hc2,hc3⟩:=sU HS2.out HEG.out (i-(j+1)) i hlt2 (by omega) his
       have YO:=hid (show ((aT (E.take (i+1-(j+1))):Nat):Int)=10*((aT (E.take (i-(j+1))):Nat):Int)+((s[i].toNat:Int)-48) by rw [show i+1-(j+1)=i-(j+1)+1 by omega];exact hc3)
       clear hc3
       go_wp2
       refine ⟨⟨i+1,by omega,by omega,congrArg (Value.int .i64) (by rw [YO.out]),congrArg (Value.int .i64) (by omega),hbz⟩,?_⟩
       show s.size-((i:Int)+1).toNat<s.size-((i:Int)).toNat
       omega
      ·have hie:i-(j+1)=E.length:=by omega
       have hts:E.take (i-(j+1))=E:=by rw [hie];exact List.take_length
       rw [hts]
       rw [hts] at hel
       have hlt3:decide (i<s.size)=false:=by simp;omega
       have ajs:¬ i<s.size:=by omega
       have hev:=HEV.out
       have HRD:=hid (show ((aT E:Nat):Int)=(q.den:Int) by rw [hev])
       clear hts hie hev
       go_wp2
       go_ret3
       exact ⟨by rw [←HRN.out,←HRD.out];rfl,hbz⟩
 ·have hneg':¬ q<0:=fun hh=>hneg (hq0.1 hh)
  have HNS:=hid (show q.num=(q.num.natAbs:Int) by omega)
  clear hq0
  have hb0:A.length=0:=by rw [hA];unfold sM;rw [if_neg hneg];rfl
  have hfb:((s[0].toNat:Int) == 45)=false:=by rw [h.first hp0];simpa using hneg'
  clear hA
  go_enter Tryz.func57,Tryz.ntmps57
  go_wp2_with fail
  go_loopw [2,5] (fun nv iv wr=>∃ j:Nat,j≤D.length∧nv=.int .i64 ((aT (D.take j):Nat):Int)∧iv=.int .i64 (j:Int)∧Below w.heap.size w wr) (fun _ iv _=>s.size-(intOf iv).toNat)
  case atStart=>exact ⟨0,by simp,by simp [aT],rfl,Below.refl _ _⟩
  case round =>
   obtain ⟨j,hjD,rfl,rfl,hbr⟩:=hrel
   have hj9:j≤9:=by omega
   have hnl:=jO HDG.out j hj9
   by_cases hlt:j<D.length
   ·have hjs:j<s.size:=by omega
    obtain ⟨hc1,hc2,hc3⟩:=sU HS.out HDG.out j j hlt (by omega) hjs
    have hn47:((s[j].toNat:Int) != 47)=true:=by simp;omega
    have Te:((s[j].toNat:Int) == 47)=false:=by simp;omega
    have YO:=hid (show ((aT (D.take (j+1)):Nat):Int)=10*((aT (D.take j):Nat):Int)+((s[j].toNat:Int)-48) by rw [show j+1=j+1 by omega];exact hc3)
    clear hc3
    go_wp2
    refine ⟨⟨j+1,by omega,congrArg (Value.int .i64) (by rw [YO.out]),congrArg (Value.int .i64) (by omega),hbr⟩,?_⟩
    show s.size-((j:Int)+1).toNat<s.size-((j:Int)).toNat
    omega
   ·have hje:j=D.length:=by omega
    have hts:D.take j=D:=by rw [hje];exact List.take_length
    rw [hts]
    rw [hts] at hnl
    have hdv:=HNV.out
    have HRN:=hid (show ((aT D:Nat):Int)=q.num by have:=HNS.out;rw [←hdv];omega)
    by_cases hden:q.den=1
    ·have hsz2:s.size=j:=by rw [oh HS.out,HT.out];unfold o8;rw [if_pos hden];simp;omega
     have hlt2:decide (j<s.size)=false:=by simp;omega
     have hlt3:¬ j<s.size:=by omega
     have Mx:=hid hden
     clear hts hje hden hsz2 hdv
     go_wp2
     go_ret3
     exact ⟨by rw [←HRN.out,Mx.out];rfl,hbr⟩
    ·have hTe:T=47 :: E:=by rw [HT.out];unfold o8;rw [if_neg hden,HE.out]
     have hsz2:s.size=j+1+E.length:=by rw [oh HS.out,hTe];simp;omega
     have hjs:j<s.size:=by omega
     have hsl:s[j]=47:=by
      have h1:=Ma (A:=A++D) (D:=T) (T:=[]) (s:=s) (by rw [HS.out];simp) (k:=0) (by rw [hTe];simp) (by simp;omega)
      have hidx:(A++D).length+0=j:=by simp;omega
      simp only [hidx] at h1
      rw [h1]
      simp [hTe]
     have hn47:((s[j].toNat:Int) != 47)=false:=by rw [hsl];rfl
     have Te:((s[j].toNat:Int) == 47)=true:=by rw [hsl];rfl
     have HS2:Hid (s.data.toList=(A++D ++ [47])++(E ++ [])):=hid (by rw [HS.out,hTe];simp)
     have hl2:(A++D ++ [47]).length=j+1:=by simp;omega
     have Mx:=hid hden
     clear hts hje hden hTe hsl hdv
     go_wp2
     go_loopw [3,5] (fun dv iv wz=>∃ i:Nat,j+1≤i∧i-(j+1)≤E.length∧dv=.int .i64 ((aT (E.take (i-(j+1))):Nat):Int)∧iv=.int .i64 (i:Int)∧Below w.heap.size w wz) (fun _ iv _=>s.size-(intOf iv).toNat)
     case atStart=>exact ⟨j+1,Nat.le_refl _,by simp,by simp [aT],congrArg (Value.int .i64) (by omega),hbr⟩
     case round =>
      obtain ⟨i,hi1,hiE,rfl,rfl,hbz⟩:=hrel
      have hi9:i-(j+1)≤9:=by omega
      have hel:=jO HEG.out (i-(j+1)) hi9
      by_cases hlt2:i-(j+1)<E.length
      ·have his:i<s.size:=by omega
       obtain ⟨hc1,hc2,hc3⟩:=sU HS2.out HEG.out (i-(j+1)) i hlt2 (by omega) his
       have YO:=hid (show ((aT (E.take (i+1-(j+1))):Nat):Int)=10*((aT (E.take (i-(j+1))):Nat):Int)+((s[i].toNat:Int)-48) by rw [show i+1-(j+1)=i-(j+1)+1 by omega];exact hc3)
       clear hc3
       go_wp2
       refine ⟨⟨i+1,by omega,by omega,congrArg (Value.int .i64) (by rw [YO.out]),congrArg (Value.int .i64) (by omega),hbz⟩,?_⟩
       show s.size-((i:Int)+1).toNat<s.size-((i:Int)).toNat
       omega
      ·have hie:i-(j+1)=E.length:=by omega
       have hts:E.take (i-(j+1))=E:=by rw [hie];exact List.take_length
       rw [hts]
       rw [hts] at hel
       have hlt3:decide (i<s.size)=false:=by simp;omega
       have ajs:¬ i<s.size:=by omega
       have hev:=HEV.out
       have HRD:=hid (show ((aT E:Nat):Int)=(q.den:Int) by rw [hev])
       clear hts hie hev
       go_wp2
       go_ret3
       exact ⟨by rw [←HRN.out,←HRD.out];rfl,hbz⟩
theorem ajj (p q:Rat) (hs1:(tx p).size≤9) (hs2:(tx q).size≤9) (w:World) (hw:Good w) :
  Calls Tryz.prog 20 #[.string (tx p),.string (tx q)] w (RV (.string (tx (p+q))) w):=by
 have ai4:=hid (fun w'=>ah0 p hs1 w')
 have ai5:=hid (fun w'=>ah0 q hs2 w')
 unfold RV at ai4 ai5
 have hsp:=@u6 p
 have hsq:=@u6 q
 have HLW:=hid (fun (h1:bM p) (h2:bM q) w' hg=>(by obtain ⟨r1,r2⟩:=h1.Zk h2;obtain ⟨r3,r4⟩:=h2.Zk h1;obtain ⟨r5,r6⟩:=h1.Zb h2;obtain ⟨r7,r8⟩:=h1.nums h2;exact adX (p.num*(q.den:Int)+q.num*(p.den:Int)) ((p.den:Int)*(q.den:Int)) r5 (by omega) (by omega) w' hg:Calls Tryz.prog 58 #[.int .i64 (p.num*(q.den:Int)+q.num*(p.den:Int)),.int .i64 ((p.den:Int)*(q.den:Int))] w' _))
 unfold RV at HLW
 have HRE:=hid (show tx (Rat.divInt (p.num*(q.den:Int)+q.num*(p.den:Int)) ((p.den:Int)*(q.den:Int)))=tx (p+q) by rw [MB p q])
 rw [HRE.out] at HLW
 clear HRE
 generalize tx (p+q)=r at *
 obtain ⟨r1,r2⟩:=(hsp hs1).Zk (hsq hs2)
 obtain ⟨r3,r4⟩:=(hsq hs2).Zk (hsp hs1)
 obtain ⟨r5,r6⟩:=(hsp hs1).Zb (hsq hs2)
 obtain ⟨r7,r8⟩:=(hsp hs1).nums (hsq hs2)
 have HL:=hid (HLW.out (hsp hs1) (hsq hs2))
 have HA:=ai4
 have HB:=ai5
 clear hs1 hs2 hsp hsq HLW ai4 ai5
 generalize tx p=tp at *
 generalize tx q=tq at *
 have z1:IntKind.i64.wrap (p.num*(q.den:Int))=p.num*(q.den:Int):=IntWalk.i64_in _ (by omega)
 have z2:IntKind.i64.wrap (q.num*(p.den:Int))=q.num*(p.den:Int):=IntWalk.i64_in _ (by omega)
 have z3:IntKind.i64.wrap ((p.den:Int)*(q.den:Int))=(p.den:Int)*(q.den:Int):=IntWalk.i64_in _ (by omega)
 have z4:IntKind.i64.wrap (p.num*(q.den:Int)+q.num*(p.den:Int))=p.num*(q.den:Int)+q.num*(p.den:Int):=IntWalk.i64_in _ (by omega)
 clear r1 r2 r3 r4 r5 r6 r7 r8
 go_enter Tryz.func20,Tryz.ntmps20
 go_wp2_with fail
 refine (HA.out _).mono ?_
 rintro e w1 ⟨rfl,hw1⟩
 have aci:=hw1
 go_wp2_with fail
 refine (HB.out _).mono ?_
 rintro e w2 ⟨rfl,hw2⟩
 have hbw2:=aci.trans (hw2.mono aci.size)
 go_wp2_with fail
 refine (HL.out _ (hw.below hbw2)).mono ?_
 rintro e w3 ⟨rfl,hw3⟩
 have agb:=hbw2.trans (hw3.mono hbw2.size)
 go_wp2
 go_ret
 exact ⟨rfl,agb⟩
end Go.Proofs.YtglncfkoohgdaaaGreatDoor
