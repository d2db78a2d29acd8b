import Derived.Test.YtglncfkoohgdaaaGreatDoorU64R
import Derived.Test.YtglncfkoohgdaaaGreatDoorBaseR
import Derived.Deep.RegionLaw
set_option maxRecDepth 100000
set_option maxHeartbeats 2000000
namespace Go.Proofs.YtglncfkoohgdaaaGreatDoor
open Go.Lib (decDigits itoa nDigits compareBytes hasPrefix trimPrefix parseUintB)
open Go.RowKit
open Go.Lib (hid)
structure kY (l:List UInt8) (N j:Nat) (os:List Nat):Prop where
 le:j≤l.length
 small:∀ x∈os,x<1000000000
 eq:aT (l.take j)*1000000000 ^ os.length+val os=N
 room:9*os.length≤l.length-j∨j=0
 len:os.length≤l.length/9+1
theorem Mh {l:List UInt8} (h:∀ c∈l,bO c=true) (hl:l.length≤9):aT l<1000000000:=by
 have:=vS h
 have h2:10 ^ l.length≤10 ^ 9:=Nat.pow_le_pow_right (by decide) hl
 omega
theorem kY.step {l:List UInt8} {N j:Nat} {os:List Nat} (hd:∀ c∈l,bO c=true) (h:kY l N j os) (hj:0<j):kY l N (j-9) (os ++ [aT ((l.take j).drop (j-9))]):=by
 obtain ⟨h1,h2,h3,h4,h5⟩:=h
 have hlen:((l.take j).drop (j-9)).length=min 9 j:=by simp;omega
 have hdd:∀ c∈(l.take j).drop (j-9),bO c=true:=fun c hc=>hd c (List.mem_of_mem_take (List.mem_of_mem_drop hc))
 have hsm:=Mh hdd (by omega)
 have hsp:aT (l.take j)=aT (l.take (j-9))*10 ^ (min 9 j)+aT ((l.take j).drop (j-9)):=by
  have e:l.take j=l.take (j-9)++(l.take j).drop (j-9):=by
   have:=(List.take_append_drop (j-9) (l.take j)).symm
   rwa [List.take_take,Nat.min_eq_left (by omega)] at this
  conv=>lhs;rw [e]
  rw [kT,hlen]
 generalize aT ((l.take j).drop (j-9))=p at *
 refine ⟨by omega,?_,?_,?_,?_⟩
 ·intro x hx
  rcases List.mem_append.1 hx with hx | hx
  ·exact h2 x hx
  ·simp at hx;omega
 ·rw [Bv,List.length_append,List.length_singleton,Nat.pow_succ,←h3,hsp,Nat.add_mul]
  by_cases h9:9≤j
  ·rw [Nat.min_eq_left h9,show (10:Nat) ^ 9=1000000000 from rfl,Nat.mul_comm (1000000000 ^ os.length) 1000000000,←Nat.mul_assoc,Nat.mul_comm p]
   omega
  ·have e0:j-9=0:=by omega
   rw [e0]
   simp
   rw [Nat.mul_comm p];omega
 ·simp;omega
 ·simp;omega
theorem kY.start {l:List UInt8}:kY l (aT l) l.length []:=⟨Nat.le_refl _,by simp,by simp,by simp,by simp⟩
theorem kY.fin {l:List UInt8} {N:Nat} {os:List Nat} (h:kY l N 0 os):val os=N:=by
 have:=h.eq;simpa using this
def SI:Value→Nat | .string x=>x.size | _=>0
theorem wW (s:ByteArray) (n:Int) (h:eP s n) (hs:s.size≤9000000000) (w:World) :
  Calls Tryz.prog 180 #[.string s] w fun e w'=>∃ p,e=.returned (.agg #[.bool (decide (n<0)),p])∧dI w' p (aI n.natAbs)∧Below w.heap.size w w':=by
 obtain ⟨i0,hi,hz0,hz1,hz2⟩:=info_parts abV.info
 go_enter Tryz.func180,Tryz.ntmps180
 go_wp2_with fail
 refine (Gz s n h _).mono ?_
 rintro e w' ⟨t,rfl,ht,rfl⟩
 have hz:t.size≤9000000000:=Nat.le_trans (Jy h ht) hs
 have HT:=hid ht
 have hdd:t.data.toList=decDigits n.natAbs:=by rw [ht,fu]
 have HD:=hid hdd
 have adO:=hid (show ∀ c∈t.data.toList,bO c=true by rw [hdd];exact bn _)
 have HN:=hid (show aT t.data.toList=n.natAbs by rw [hdd];exact bH _)
 have Mi:=hid (Lib.size_eq t)
 clear ht hdd h
 obtain ⟨w1,hmk,hown,hgr⟩:=run_make_own (P:=Tryz.prog) (w.alloc (Obj.cells #[Value.bool false,Value.slice none 0 0] 228)) (w.heap.size+1) 226 263 i0 (.int .u64 0) 1 Tryz.underlying226 hi hz0 hz1 .i64 .i64 (t.size/9+1) (by rw [hz2];omega) (by unfold maxLen;omega) (by simp)
 rw [show ((t.size/9+1:Nat):Int)=(t.size:Int)/9+1 from by omega] at hmk
 have hbx:Below (w.heap.size+1) (w.alloc (Obj.cells #[Value.bool false,Value.slice none 0 0] 228)) w1:=(Below.refl _ _).grown hgr (by simp) (fun k h=>by simp at h)
 clear hgr
 have SK:=hid hown
 clear hown
 go_wp2
 go_loopw [3,5] (fun sv pv wr=>∃ (j:Nat) (x:ByteArray) (os:List Nat),sv=.string x∧x.data.toList=t.data.toList.take j∧kY t.data.toList n.natAbs j os∧wr.ownsRow (w.heap.size+1) 263 1 pv os.length (os.map lQ)∧Below (w.heap.size+1) (w.alloc (Obj.cells #[Value.bool false,Value.slice none 0 0] 228)) wr) (fun sv _ _=>SI sv)
 case atStart=>exact ⟨t.data.toList.length,t,[],rfl,by rw [List.take_length],by rw [←HN.out];exact kY.start,by have:=SK.out;rw [World.size_alloc] at this;exact this,hbx⟩
 case round =>
  obtain ⟨j,x,os,rfl,hx,hinv,hown,hbw⟩:=hrel
  have hxs:x.size=j:=by rw [Lib.size_eq,hx,List.length_take];exact Nat.min_eq_left hinv.le
  have hjl:j≤t.size:=by rw [Mi.out];exact hinv.le
  have HI:=hid hinv
  have HO:=hid hown
  have HX:=hid hx
  have hz8:os.length≤1000000001:=by have:=hinv.len;rw [←Mi.out] at this;omega
  clear hinv hown hx
  by_cases hj:0<j
  ·obtain ⟨k,hk⟩ : ∃ k:Nat,k=j-9:=⟨_,rfl⟩
   have hmx:max ((x.size:Int)-9) 0=(k:Int):=by omega
   have hkx:k≤x.size:=by omega
   have hx0:0<x.size:=by omega
   have hxl:x.size≤9000000000:=by omega
   have HP:=hid (show (x.extract k x.size).data.toList=(t.data.toList.take j).drop (j-9) by
    rw [Lib.extract_data,HX.out,hxs,←hk,List.take_of_length_le]
    simp;omega)
   have Mj:=hid (show parseUintB 64 (x.extract k x.size).data.toList=.ok (aT ((t.data.toList.take j).drop (j-9))) by
    rw [HP.out]
    refine vZ ?_ (fun c hc=>adO.out c (List.mem_of_mem_take (List.mem_of_mem_drop hc))) ?_
    ·rw [←List.length_pos_iff,List.length_drop,List.length_take,Nat.min_eq_left HI.out.le];omega
    ·rw [List.length_drop,List.length_take,Nat.min_eq_left HI.out.le];omega)
   have mF:=hid (show (x.extract k x.size).size≤9223372036854775806 by rw [Lib.size_eq,HP.out,List.length_drop,List.length_take,Nat.min_eq_left HI.out.le];omega)
   have HK:=hid hk
   have HXS:=hid hxs
   clear hxs hk
   have qR:=hid (HI.out.step adO.out hj)
   go_wp2_with fail
   refine (Tryz.strconv_ParseUint_10_at64_ok _ mF.out _ Mj.out _).mono ?_
   rintro e w2 ⟨rfl,hw2⟩
   have hb2:Below wr.heap.size wr w2:=by
    rcases hw2 with rfl | rfl
    ·exact Below.refl _ _
    ·exact Lib.bytesWorld_below _ _ _
   clear hw2
   have hsz:w.heap.size+1≤wr.heap.size:=by have:=hbw.size;rwa [World.size_alloc] at this
   have hsz2:w.heap.size+1≤w2.heap.size:=Nat.le_trans hsz hb2.size
   have RJ:=hid (di HO.out hb2)
   have hbw2:=hbw.trans (hb2.mono hsz)
   generalize aT ((t.data.toList.take j).drop (j-9))=y at qR ⊢
   have h08:0<8:=by decide
   have hk8:(os.length+1)*8≤140737488355328:=by omega
   clear hb2 hmx
   go_wp2_with fail
   go_region_law (refine Ec abV rfl _ _ rfl (w.heap.size+1) _ os.length _ rfl RJ.out 1 1 _ rfl rfl JA hk8 h08 hsz2 _ (SA rfl) ?_;intro v1 w3 hown3 hb3)
   have HO3:=hid hown3
   clear hown3
   have HE:=hid (show (x.extract 0 k).data.toList=t.data.toList.take (j-9) by
    rw [Lib.extract_data,List.drop_zero,Nat.sub_zero,HX.out,List.take_take,HK.out,Nat.min_eq_left (by omega)])
   go_simp
   go_wp2
   go_roundw
   case rel=>exact ⟨j-9,_,os ++ [y],rfl,HE.out,qR.out,by simpa using HO3.out,hbw2.trans hb3⟩
   case measure =>
    have:(x.extract 0 k).size=j-9:=by rw [Lib.size_eq,HE.out,List.length_take];have:=HI.out.le;omega
    simp [SI,HXS.out,this]
    omega
  ·obtain rfl:j=0:=by omega
   have hx0:x.size=0:=hxs
   have hF:=HI.out.fin
   have HF:=hid hF
   have HSM:=hid HI.out.small
   clear hF hxs hjl
   go_wp2_with fail
   refine (pz _ _ (by omega) HSM.out _ (dI.bu HO.out rfl)).mono ?_
   rintro e w3 ⟨v',rfl,hv',rfl,hfr,-⟩
   have HFR:=hid (hfr (w.heap.size+1) (From.bu HO.out))
   clear hfr
   have hc0:wr.cell? ⟨w.heap.size,0,none⟩=some (.bool false):=by rw [hbw.cell (by simp)];simp [World.cell?_alloc_new]
   have hc1:wr.cell? ⟨w.heap.size,1,none⟩=some (.slice none 0 0):=by rw [hbw.cell (by simp)];simp [World.cell?_alloc_new]
   have hf0:wr.frozen? ⟨w.heap.size,0,none⟩=false:=by rw [hbw.frozen (by simp)];simp
   have hf1:wr.frozen? ⟨w.heap.size,1,none⟩=false:=by rw [hbw.frozen (by simp)];simp
   obtain ⟨p,c,rfl,_,_⟩:=hv'.slice
   have HV:=hid hv'
   clear hv'
   go_wp2
   refine bodyPost_ret (v:=.agg #[.bool (decide (n<0)),.slice p (aI (val os)).length c]) (by simp [results,Tryz.results180,go_sem,hc0,hc1]) rfl ⟨_,rfl,?_,?_⟩
   ·rw [←HF.out]
    exact (HV.out.setCell HFR.out (by simp) _).setCell HFR.out (by simp) _
   ·refine Below.setCell (p:=⟨w.heap.size,1,none⟩) (Below.setCell (p:=⟨w.heap.size,0,none⟩) ?_ (Nat.le_refl _) _) (Nat.le_refl _) _
    exact ((Below.refl _ _).alloc (Nat.le_refl _) _).trans (hbw.mono (by omega))
end Go.Proofs.YtglncfkoohgdaaaGreatDoor
namespace Go.Proofs.YtglncfkoohgdaaaGreatDoor
open Go.RowKit Go.Shelf
open Go.Lib (decDigits itoa nDigits)
open Go.Lib (hid)
attribute [local go_sem] Oper.semAt_some
def Ar (v:Nat):List UInt8:=List.replicate (9-nDigits v) 48++decDigits v
def dQ (len:Nat) (pre:List (Pc len)):List UInt8:=pre.flatMap fun x=>if x.i+1<len then Ar x.v else decDigits x.v
theorem jb (len:Nat) (pre:List (Pc len)) (x:Pc len):dQ len (pre ++ [x])=dQ len pre++(if x.i+1<len then Ar x.v else decDigits x.v):=by simp [dQ]
theorem mP {v:Nat} (h:v<1000000000):nDigits v≤9:=gW (k:=9) (by omega) (by omega)
theorem zK {v:Nat} (h:v<1000000000):(Ar v).length=9:=by
 have:=mP h
 simp [Ar,aO];omega
theorem SL (v:Nat):∀ c∈Ar v,bO c=true:=by
 intro c hc
 rcases List.mem_append.1 hc with h | h
 ·rw [List.mem_replicate] at h;rw [h.2];decide
 ·exact bn v c h
theorem JK (k:Nat) (l:List UInt8):aT (List.replicate k 48++l)=aT l:=by
 induction k with
 | zero=>simp
 | succ k ih =>
  rw [List.replicate_succ,List.cons_append,jF,ih]
  have:dv 48=0:=by have:=nY (n:=0) (by decide);simpa using this
  rw [this];omega
theorem Mk (v:Nat):aT (Ar v)=v:=by rw [Ar,JK,bH]
theorem JL (N:Nat):∀ k,k<(aI N).length →
  dQ (aI N).length (down (aI N) (iO N) (k+1))=decDigits (val ((aI N).drop ((aI N).length-1-k)))∧val ((aI N).drop ((aI N).length-1-k))≠0:=by
 intro k
 induction k with
 | zero =>
  intro hk
  have hv:=qQ (xs:=aI N) (hx:=iO N) (j:=(aI N).length-1-0) (by omega)
  have hlast:(aI N).drop ((aI N).length-1-0)=[(aI N)[(aI N).length-1-0]'(by omega)]:=by
   rw [List.drop_eq_getElem_cons (by omega),List.drop_eq_nil_of_le (by omega)]
  have hne:(aI N)[(aI N).length-1-0]'(by omega)≠0:=by
   have:=Jo N (by intro h;rw [h] at hk;simp at hk)
   rw [List.getLast_eq_getElem] at this
   simpa using this
  rw [hlast]
  refine ⟨?_,by simpa using hne⟩
  rw [sP,jb,hv.1,hv.2,if_neg (by omega)]
  simp [down,dQ]
 | succ k ih =>
  intro hk
  obtain ⟨h1,h2⟩:=ih (by omega)
  have hv:=qQ (xs:=aI N) (hx:=iO N) (j:=(aI N).length-1-(k+1)) (by omega)
  have hd:(aI N).drop ((aI N).length-1-(k+1))=(aI N)[(aI N).length-1-(k+1)]'(by omega) :: (aI N).drop ((aI N).length-1-k):=by
   rw [List.drop_eq_getElem_cons (by omega)]
   congr 2
   omega
  have hs:(aI N)[(aI N).length-1-(k+1)]'(by omega)<1000000000:=iO N _ (List.getElem_mem _)
  rw [sP,jb,h1,hv.1,hv.2,if_pos (by omega),hd,gH]
  generalize val ((aI N).drop ((aI N).length-1-k))=T at *
  generalize (aI N)[(aI N).length-1-(k+1)]'(by omega)=y at *
  refine ⟨?_,by omega⟩
  have hval:aT (decDigits T++Ar y)=y+1000000000*T:=by
   rw [kT,bH,Mk,zK hs]
   have:(10:Nat) ^ 9=1000000000:=rfl
   rw [this];omega
  rw [←hval]
  refine (ql _ (by simp [dz]) ?_ ?_).symm
  ·intro c hc
   rcases List.mem_append.1 hc with h | h
   ·exact bn T c h
   ·exact SL y c h
  ·obtain ⟨c,r,he,hc⟩:=lL T h2
   exact .inr ⟨c,r++Ar y,by rw [he];rfl,hc⟩
theorem BO (N:Nat) (hN:N≠0):dQ (aI N).length (down (aI N) (iO N) (aI N).length)=decDigits N:=by
 have hp:=dF hN
 obtain ⟨h1,_⟩:=JL N ((aI N).length-1) (by omega)
 rw [show (aI N).length-1+1=(aI N).length by omega,show (aI N).length-1-((aI N).length-1)=0 by omega,List.drop_zero,gX] at h1
 exact h1
theorem BP (len:Nat) (pre:List (Pc len)):(dQ len pre).length≤9*pre.length:=by
 induction pre with
 | nil=>simp [dQ]
 | cons x pre ih =>
  have:dQ len (x :: pre)=(if x.i+1<len then Ar x.v else decDigits x.v)++dQ len pre:=by simp [dQ]
  rw [this,List.length_append,List.length_cons]
  have h9:=mP x.hv
  split
  ·rw [zK x.hv];omega
  ·rw [aO];omega
theorem iR {B0:Nat} {W W':World} {row:Option Nat} (hg:W.grownBy W' row) (hr:∀ r,row=some r→B0≤r∧∃ o:Obj,W.heap[r]?=some o∧o.isCells=false) {k:Nat} {c:Array Value} {e:TypeId} {fz:Nat × Nat} (hk:W.heap[k]?=some (.cells c e fz)):W'.heap[k]?=some (.cells c e fz):=by
 have hlt:k<W.heap.size:=by
  rcases Nat.lt_or_ge k W.heap.size with h | h
  ·exact h
  ·rw [Array.getElem?_eq_none h] at hk;simp at hk
 rw [hg.block k hlt ?_]
 ·exact hk
 ·intro e
  obtain ⟨_,o,ho,hc⟩:=hr k e.symm
  rw [hk] at ho
  cases ho
  simp [Obj.isCells] at hc
theorem aM {B:Nat} {W W':World} (h:Below W.heap.size W W'):KeepsFrom B W W':=⟨h.size,fun k o _ hk _=>by
 rw [h.block k ?_]
 ·exact hk
 ·rcases Nat.lt_or_ge k W.heap.size with h | h
  ·exact h
  ·rw [Array.getElem?_eq_none h] at hk;simp at hk⟩
theorem fD {B b:Nat} {W W':World} (h:JJ b W W') (hs:W.heap.size≤W'.heap.size) (hb:b<B):KeepsFrom B W W':=
 ⟨hs,fun k o hB hk ho=>h k o hk (by simp;omega) (fun c fz e=>by subst e;simp [Obj.isCells] at ho)⟩
theorem jG {b k:Nat} {W W':World} {c:Array Value} {e:TypeId} {fz:Nat × Nat} (h:JJ b W W') (hk:W.heap[k]?=some (.cells c e fz)) (hb:k≠b) (he:e≠5):W'.heap[k]?=some (.cells c e fz):=
 h k _ hk (by simpa using hb) (fun c' fz' e'=>by cases e';exact he rfl)
theorem Oa {B b B0:Nat} {bs:List Value} {W W':World} {row:Option Nat} (h:RI B b bs W) (hg:W.grownBy W' row) (hr:∀ r,row=some r→B0≤r∧∃ o:Obj,W.heap[r]?=some o∧o.isCells=false):RI B b bs W':=by
 have one:∀ {p},BAt B b p bs W→BAt B b p bs W':=by
  rintro p ⟨h1,v,hv,hown,hne⟩
  refine ⟨h1,v,iR hg hr hv,⟨hown.1,?_⟩,hne⟩
  rcases hown.2 with h2 | ⟨g,cap,cur,e1,e2,e3,r⟩
  ·exact .inl h2
  ·exact .inr ⟨g,cap,cur,e1,e2,iR hg hr e3,r⟩
 exact h.imp one one
theorem sQ {B b:Nat} {bs:List Value} {W W':World} (h:RI B b bs W) (hb:Below W.heap.size W W'):RI B b bs W':=
 Oa (B0:=0) h (row:=none) ⟨hb.os,hb.tape,hb.output,hb.size,fun k hk _=>hb.block k hk⟩ (fun r e=>by cases e)
theorem uw (k:Nat) (hk:k≤9):(⟨#[48,48,48,48,48,48,48,48,48]⟩ : ByteArray).extract k 9=⟨(List.replicate (9-k) 48).toArray⟩:=by
 apply kW
 rw [Lib.extract_data]
 have:∀ k:Fin 10,(([48,48,48,48,48,48,48,48,48]:List UInt8).drop k.val).take (9-k.val)=List.replicate (9-k.val) 48:=by decide
 exact this ⟨k,by omega⟩
theorem EO (w:World) (B:Nat) (hB:B≤w.heap.size):RI B w.heap.size (Lib.byteCells []) (w.alloc (.cells #[.pointer none,.slice none 0 0] 274)):=
 .inl ⟨hB,.slice none 0 0,World.alloc_heap_new w _,World.ownsRow_nil _ _ _ _,by simp [Value.ownBlock]⟩
structure BR (w wA:World) (p:Option Addr) (c len Bs:Nat) (ini:List UInt8) (pre:List (Pc len)) (W:World):Prop where
 b:RI (w.heap.size+1) (w.heap.size+1) (Lib.byteCells (ini++dQ len pre)) W
 low:Below (w.heap.size+1) wA W
 box:W.heap[Bs]?=some (.cells #[.slice p len c] 226 (0,0))
theorem wX {w wA:World} {p:Option Addr} {c len Bs:Nat} {ini:List UInt8} {B:Nat} (hA:wA.heap.size=w.heap.size+1) (hB:w.heap.size+1≤B):OwnFrom B (BR w wA p c len Bs ini):=fun _ _ _ _ hs hg hr =>
 ⟨Oa hs.b hg hr,ownFrom_below (β:=Unit) (by omega) hB () _ _ _ hs.low hg hr,iR hg hr hs.box⟩
theorem pE (W:World) (D:Nat) (o:Obj) {B:Nat} (h:B≤D):Below B W (W.putObj D o):=
 ⟨rfl,rfl,rfl,by simp,fun k hk=>by
  simp only [World.putObj]
  rw [Array.getElem?_setIfInBounds,if_neg (by omega)]⟩
def BS (neg:Bool) (N:Nat):Int:=if neg then -(N:Int) else N
theorem xc (pv:Value) (N:Nat) (hN:N≠0) (hlen:(aI N).length≤1099511627776) (w:World) (hw:Good w) (hI:dI w pv (aI N)) :
  CallsIn Fence.wide 9 Tryz.prog 182 #[.agg #[.bool true,pv]] w fun e w'=>∃ r:ByteArray,e=.returned (.string r)∧eP r (-(N:Int))∧Below w.heap.size w w':=by
 obtain ⟨p,c,rfl,hc,hm⟩:=hI.slice
 obtain ⟨wA,aS⟩ : ∃ wA,wA=w.alloc (Obj.cells #[Value.bool true,Value.slice p (aI N).length c] 228):=⟨_,rfl⟩
 have hl0:((((aI N).length:Int)) == 0)=false:=by have:=dF hN;simp only [beq_eq_false_iff_ne];omega
 have hl1:(((aI N).length) == 0)=false:=by have:=dF hN;simp only [beq_eq_false_iff_ne];omega
 have hsA:wA.heap.size=w.heap.size+1:=by rw [aS];simp
 have hA1:wA.cell? ⟨w.heap.size,1,none⟩=some (.slice p (aI N).length c):=by rw [aS];simp [World.cell?_alloc_new]
 have hF:=EO wA (w.heap.size+1) (by omega)
 rw [hsA] at hF
 have HF:=hid hF
 clear hF
 refine callsIn_of_wp_marks Tryz.func182 rfl trivial ?_ rfl
 simp only [Tryz.ntmps182,List.size_toArray,List.length_cons,List.length_nil,Nat.reduceAdd,Nat.reduceSub,Array.replicate_succ,Array.replicate_zero,List.push_toArray,List.append_toArray,List.nil_append,List.cons_append]
 gi_wp2
 rw [←aS]
 refine ⟨trivial,?_⟩
 refine (callsIn_wide.2 (wV (w.heap.size+1) (w.heap.size+1) _ 45 _ HF.out (by simp [Lib.byteCells]) (by simp [hsA]))).mono ?_
 rintro e w1 ⟨rfl,hb1,JM,_⟩
 have hlow:Below (w.heap.size+1) wA w1:=((Below.refl _ _).alloc (by omega) _).trans JM
 have hc1:w1.cell? ⟨w.heap.size,1,none⟩=some (.slice p (aI N).length c):=(hlow.cell (by simp)).trans hA1
 gi_wp2
 refine ⟨trivial,?_⟩
 refine (GG Fence.wide _ trivial rfl _ _ _ _).mono ?_
 rintro e w2 ⟨rfl,rfl⟩
 gi_wp2
 obtain ⟨w2,hw2⟩ : ∃ w2,w2=w1.alloc (Obj.cells #[Value.slice p (aI N).length c] 226):=⟨_,rfl⟩
 have hs2:w2.heap.size=w1.heap.size+1:=by rw [hw2];simp
 have hs1:w.heap.size+2≤w1.heap.size:=by have:=JM.size;rw [World.size_alloc] at this;omega
 have JN:Below (w.heap.size+1) wA w2:=by rw [hw2];exact hlow.alloc (by omega) _
 have GH:w2.cell? ⟨w1.heap.size,0,none⟩=some (.slice p (aI N).length c):=by rw [hw2];simp [World.cell?_alloc_new]
 have SN:Below w.heap.size w wA:=by rw [aS];exact (Below.refl _ _).alloc (Nat.le_refl _) _
 have hI2:dI w2 (.slice p (aI N).length c) (aI N):=hI.below (SN.trans (JN.mono (by omega)))
 have hfr:∀ a k c',Value.slice p (aI N).length c=.slice (some a) k c'→a.block<w.heap.size:=by
  intro a k c' he
  obtain ⟨b,off,rfl,hbb,_⟩:=hI.cells (dF hN)
  simp only [Value.slice.injEq,Option.some.injEq] at he
  rw [←he.1];exact hbb
 rw [←hw2]
 refine wpIn_rangeFunc_ownG (n:=9) rfl (by decide) (gf:=253) (lb:=#[.pointer (some ⟨w1.heap.size,0,none⟩)]) rfl trivial (enters_of Tryz.func253 (by kernel_rfl) rfl)
  (uW Fence.wide 8 trivial rfl (by decide) w1.heap.size w.heap.size _ (aI N) (iO N) (by omega) w2 (by omega) hfr GH hI2) iF.trans (iF.put (by omega) (by omega)) (Below.refl _ _) (fun _=>rfl)
  (BR w wA p c (aI N).length w1.heap.size [45]) (fun _ _ _=>False) (wX hsA (by omega)) (fun _ _ _ _ _ hs _ _=>hs)
  ⟨by exact (sQ (.inr hb1) (by rw [hw2];exact (Below.refl _ _).alloc (Nat.le_refl _) _):RI _ _ (Lib.byteCells [] ++ [.int .u8 45]) w2),JN,by rw [hw2];exact World.alloc_heap_new w1 _⟩
  (fun x=>{ tmps:=#[.agg #[.bool true,.slice p (aI N).length c],.pointer (some ⟨w.heap.size,0,none⟩),.string ⟨#[]⟩,.pointer (some ⟨w.heap.size+1,0,none⟩),.int .i64 (x.i:Int),.int .u64 (x.v:Int),undef,.pointer (some ⟨w.heap.size,1,none⟩),.slice p (aI N).length c,.int .i64 ((aI N).length:Int),.bool false,.pointer (some ⟨w.heap.size,0,none⟩),.bool true,.nilIface,.pointer (some ⟨w.heap.size,1,none⟩),.slice p (aI N).length c,.func (.func 253) #[] #[.pointer (some ⟨w1.heap.size,0,none⟩)],.int .i64 (x.i:Int),.int .u64 (x.v:Int),undef,undef,undef,undef,undef,undef,undef,undef,undef,undef,undef,undef,undef,undef,undef],defers:=[] }) ?assign ?body ?done ?stop
 case assign =>
  intro l x W K hK
  gi_wp2
  exact hK
 case body =>
  rintro l pre x W ⟨hb,jW,hbx⟩ hpl
  have hg:Good W:=(hw.below SN).mono jW (by have:=hw.big;omega)
  have hcW:W.cell? ⟨w.heap.size,1,none⟩=some (.slice p (aI N).length c):=(jW.cell (by simp)).trans hA1
  have hsW:w.heap.size+1≤W.heap.size:=by have:=jW.size;omega
  have hxv:=x.hv
  have hB:=hid hb
  clear hb
  gi_wp2
  refine ⟨trivial,?_⟩
  refine (CallsIn.inRound l (callsIn_wide.2 (qm x.v (by omega) W hg))).mono ?_
  rintro e W1 ⟨s,rfl,hs,hbW1⟩
  have hss:s.size=nDigits x.v:=by rw [Lib.size_eq,hs,aO]
  have hs9:s.size≤9:=by rw [hss];exact mP hxv
  have afK:W1.cell? ⟨w.heap.size,1,none⟩=some (.slice p (aI N).length c):=(hbW1.cell (by simp;omega)).trans hcW
  have HB1:=hid (sQ hB.out hbW1)
  have HS:=hid hs
  have mF:=hid hss
  have afL:(Lib.byteCells ([45]++dQ (aI N).length pre)).length≤9*(aI N).length+1:=by
   rw [Lib.byteCells_length];have:=BP _ pre;simp;omega
  have hKW:KeepsFrom w2.heap.size W W1:=aM hbW1
  have Ei:=hid hbx
  have hsz1:=hbW1.size
  have SQ:w1.heap.size<W.heap.size:=by
   rcases Nat.lt_or_ge w1.heap.size W.heap.size with h | h
   ·exact h
   ·rw [Array.getElem?_eq_none h] at hbx;simp at hbx
  have SS:=hid ((hbW1.block _ SQ).trans hbx)
  clear hs hss hI hbx
  by_cases hi:x.i+1<(aI N).length
  ·have hi1:decide ((x.i:Int)<((aI N).length:Int)-1)=true:=by simp;omega
   have hz:(⟨#[48,48,48,48,48,48,48,48,48]⟩ : ByteArray).extract s.size 9=⟨(List.replicate (9-s.size) 48).toArray⟩:=uw s.size hs9
   have HZ:=hid hz
   have hzl:((⟨#[48,48,48,48,48,48,48,48,48]⟩ : ByteArray).extract s.size 9).size≤9:=by rw [hz,Lib.size_eq];simp
   clear hz
   gi_wp2
   refine ⟨trivial,?_⟩
   refine (CallsIn.inRound l (callsIn_wide.2 (dw _ _ _ _ W1 HB1.out (by omega) (by omega)))).mono ?_
   rintro e W2 ⟨rfl,hB2,hbW2,hk2⟩
   gi_wp2
   refine ⟨trivial,?_⟩
   have hl2:(Lib.byteCells ([45]++dQ (aI N).length pre)++Lib.strCells ((⟨#[48,48,48,48,48,48,48,48,48]⟩ : ByteArray).extract s.size 9)).length≤9*(aI N).length+10:=by
    rw [List.length_append,Lib.strCells_length];omega
   refine (CallsIn.inRound l (callsIn_wide.2 (dw _ _ _ s W2 (.inr hB2) (by omega) (by have:=hbW2.size;omega)))).mono ?_
   rintro e W3 ⟨rfl,hB3,BU,hk3⟩
   gi_wp2
   have hks:KeepsFrom w2.heap.size W W3:=(hKW.trans (fD hk2 hbW2.size (by omega))).trans (fD hk3 BU.size (by omega))
   have SV:=jG hk2 SS.out (by omega) (by decide)
   have yx:=jG hk3 SV (by omega) (by decide)
   have qU:Below (w.heap.size+1) W W3:=((hbW1.mono hsW).trans hbW2).trans BU
   refine ⟨hks,?_,?_,jW.trans qU,yx⟩
   ·intro k hk
    rcases hk with hk | rfl
    ·exact qU.block k (by omega)
    ·rw [yx,Ei.out]
   ·refine .inr ?_
    have e1:Lib.byteCells ([45]++dQ (aI N).length pre)++Lib.strCells ((⟨#[48,48,48,48,48,48,48,48,48]⟩ : ByteArray).extract s.size 9)++Lib.strCells s=Lib.byteCells ([45]++dQ (aI N).length (pre ++ [x])):=by
     rw [jb,if_pos hi,HZ.out]
     simp only [Lib.byteCells,Lib.strCells,Ar,HS.out,mF.out,List.map_append,List.append_assoc]
    rw [←e1];exact hB3
  ·have hi1:decide ((x.i:Int)<((aI N).length:Int)-1)=false:=by simp;omega
   gi_wp2
   refine ⟨trivial,?_⟩
   refine (CallsIn.inRound l (callsIn_wide.2 (dw _ _ _ s W1 HB1.out (by omega) (by omega)))).mono ?_
   rintro e W3 ⟨rfl,hB3,BU,hk3⟩
   gi_wp2
   have hks:KeepsFrom w2.heap.size W W3:=hKW.trans (fD hk3 BU.size (by omega))
   have yx:=jG hk3 SS.out (by omega) (by decide)
   have qU:Below (w.heap.size+1) W W3:=(hbW1.mono hsW).trans BU
   refine ⟨hks,?_,?_,jW.trans qU,yx⟩
   ·intro k hk
    rcases hk with hk | rfl
    ·exact qU.block k (by omega)
    ·rw [yx,Ei.out]
   ·refine .inr ?_
    have e1:Lib.byteCells ([45]++dQ (aI N).length pre)++Lib.strCells s=Lib.byteCells ([45]++dQ (aI N).length (pre ++ [x])):=by
     rw [jb,if_neg hi]
     simp only [Lib.byteCells,Lib.strCells,HS.out,List.map_append,List.append_assoc]
    rw [←e1];exact hB3
 case done =>
  rintro D ys W hD rfl ⟨hb,jW,hbx⟩ hK
  have hsW:w.heap.size+1≤W.heap.size:=by have:=jW.size;omega
  have SX:=hid (BO N hN)
  gi_wp2
  refine ⟨trivial,?_⟩
  refine (callsIn_wide.2 (Tryz.Builder_String_any_k (w.heap.size+1) (w.heap.size+1) _ W (Lib.IsBuilderF.of hb) (by omega))).mono ?_
  rintro e W1 ⟨rfl,_,hb1,hk1⟩
  have hK1:W1.heap[D]?=some (.deferred (some [])):=hk1 D _ hK (by simp;omega) (fun c fz e=>by cases e)
  gi_wp2
  refine ⟨by simp,.inl ⟨_,_,rfl,run_takeDeferred hK1,?_⟩⟩
  refine ⟨_,results_tmp rfl _ _ _,⟨_,rfl,?_,?_⟩⟩
  ·refine eP.mk ?_
   rw [itoa_neg (by omega),show (-(N:Int)).natAbs=N by omega,←SX.out]
  ·exact (SN.trans ((jW.trans hb1).mono (by omega))).trans (pE _ _ _ (by omega))
 case stop =>
  rintro D c pre W _ _ h _
  exact h.elim
theorem xe (pv:Value) (N:Nat) (hN:N≠0) (hlen:(aI N).length≤1099511627776) (w:World) (hw:Good w) (hI:dI w pv (aI N)) :
  CallsIn Fence.wide 9 Tryz.prog 182 #[.agg #[.bool false,pv]] w fun e w'=>∃ r:ByteArray,e=.returned (.string r)∧eP r (N:Int)∧Below w.heap.size w w':=by
 obtain ⟨p,c,rfl,hc,hm⟩:=hI.slice
 obtain ⟨wA,aS⟩ : ∃ wA,wA=w.alloc (Obj.cells #[Value.bool false,Value.slice p (aI N).length c] 228):=⟨_,rfl⟩
 have hl0:((((aI N).length:Int)) == 0)=false:=by have:=dF hN;simp only [beq_eq_false_iff_ne];omega
 have hl1:(((aI N).length) == 0)=false:=by have:=dF hN;simp only [beq_eq_false_iff_ne];omega
 have hsA:wA.heap.size=w.heap.size+1:=by rw [aS];simp
 have hA1:wA.cell? ⟨w.heap.size,1,none⟩=some (.slice p (aI N).length c):=by rw [aS];simp [World.cell?_alloc_new]
 have hF:=EO wA (w.heap.size+1) (by omega)
 rw [hsA] at hF
 have HF:=hid hF
 clear hF
 refine callsIn_of_wp_marks Tryz.func182 rfl trivial ?_ rfl
 simp only [Tryz.ntmps182,List.size_toArray,List.length_cons,List.length_nil,Nat.reduceAdd,Nat.reduceSub,Array.replicate_succ,Array.replicate_zero,List.push_toArray,List.append_toArray,List.nil_append,List.cons_append]
 gi_wp2
 obtain ⟨w1,hw1⟩ : ∃ w1,w1=wA.alloc (Obj.cells #[Value.pointer none,Value.slice none 0 0] 274):=⟨_,rfl⟩
 rw [←aS,←hw1]
 have hb1:RI (w.heap.size+1) (w.heap.size+1) (Lib.byteCells []) w1:=by rw [hw1];exact HF.out
 have JM:Below (w.heap.size+1) (wA.alloc (Obj.cells #[Value.pointer none,Value.slice none 0 0] 274)) w1:=by rw [←hw1];exact Below.refl _ _
 clear hw1
 have hlow:Below (w.heap.size+1) wA w1:=((Below.refl _ _).alloc (by omega) _).trans JM
 have hc1:w1.cell? ⟨w.heap.size,1,none⟩=some (.slice p (aI N).length c):=(hlow.cell (by simp)).trans hA1
 refine ⟨trivial,?_⟩
 refine (GG Fence.wide _ trivial rfl _ _ _ _).mono ?_
 rintro e w2 ⟨rfl,rfl⟩
 gi_wp2
 obtain ⟨w2,hw2⟩ : ∃ w2,w2=w1.alloc (Obj.cells #[Value.slice p (aI N).length c] 226):=⟨_,rfl⟩
 have hs2:w2.heap.size=w1.heap.size+1:=by rw [hw2];simp
 have hs1:w.heap.size+2≤w1.heap.size:=by have:=JM.size;rw [World.size_alloc] at this;omega
 have JN:Below (w.heap.size+1) wA w2:=by rw [hw2];exact hlow.alloc (by omega) _
 have GH:w2.cell? ⟨w1.heap.size,0,none⟩=some (.slice p (aI N).length c):=by rw [hw2];simp [World.cell?_alloc_new]
 have SN:Below w.heap.size w wA:=by rw [aS];exact (Below.refl _ _).alloc (Nat.le_refl _) _
 have hI2:dI w2 (.slice p (aI N).length c) (aI N):=hI.below (SN.trans (JN.mono (by omega)))
 have hfr:∀ a k c',Value.slice p (aI N).length c=.slice (some a) k c'→a.block<w.heap.size:=by
  intro a k c' he
  obtain ⟨b,off,rfl,hbb,_⟩:=hI.cells (dF hN)
  simp only [Value.slice.injEq,Option.some.injEq] at he
  rw [←he.1];exact hbb
 rw [←hw2]
 refine wpIn_rangeFunc_ownG (n:=9) rfl (by decide) (gf:=253) (lb:=#[.pointer (some ⟨w1.heap.size,0,none⟩)]) rfl trivial (enters_of Tryz.func253 (by kernel_rfl) rfl)
  (uW Fence.wide 8 trivial rfl (by decide) w1.heap.size w.heap.size _ (aI N) (iO N) (by omega) w2 (by omega) hfr GH hI2) iF.trans (iF.put (by omega) (by omega)) (Below.refl _ _) (fun _=>rfl)
  (BR w wA p c (aI N).length w1.heap.size []) (fun _ _ _=>False) (wX hsA (by omega)) (fun _ _ _ _ _ hs _ _=>hs)
  ⟨by exact (sQ hb1 (by rw [hw2];exact (Below.refl _ _).alloc (Nat.le_refl _) _):RI _ _ (Lib.byteCells []) w2),JN,by rw [hw2];exact World.alloc_heap_new w1 _⟩
  (fun x=>{ tmps:=#[.agg #[.bool false,.slice p (aI N).length c],.pointer (some ⟨w.heap.size,0,none⟩),.string ⟨#[]⟩,.pointer (some ⟨w.heap.size+1,0,none⟩),.int .i64 (x.i:Int),.int .u64 (x.v:Int),undef,.pointer (some ⟨w.heap.size,1,none⟩),.slice p (aI N).length c,.int .i64 ((aI N).length:Int),.bool false,.pointer (some ⟨w.heap.size,0,none⟩),.bool false,undef,.pointer (some ⟨w.heap.size,1,none⟩),.slice p (aI N).length c,.func (.func 253) #[] #[.pointer (some ⟨w1.heap.size,0,none⟩)],.int .i64 (x.i:Int),.int .u64 (x.v:Int),undef,undef,undef,undef,undef,undef,undef,undef,undef,undef,undef,undef,undef,undef,undef],defers:=[] }) ?assign ?body ?done ?stop
 case assign =>
  intro l x W K hK
  gi_wp2
  exact hK
 case body =>
  rintro l pre x W ⟨hb,jW,hbx⟩ hpl
  have hg:Good W:=(hw.below SN).mono jW (by have:=hw.big;omega)
  have hcW:W.cell? ⟨w.heap.size,1,none⟩=some (.slice p (aI N).length c):=(jW.cell (by simp)).trans hA1
  have hsW:w.heap.size+1≤W.heap.size:=by have:=jW.size;omega
  have hxv:=x.hv
  have hB:=hid hb
  clear hb
  gi_wp2
  refine ⟨trivial,?_⟩
  refine (CallsIn.inRound l (callsIn_wide.2 (qm x.v (by omega) W hg))).mono ?_
  rintro e W1 ⟨s,rfl,hs,hbW1⟩
  have hss:s.size=nDigits x.v:=by rw [Lib.size_eq,hs,aO]
  have hs9:s.size≤9:=by rw [hss];exact mP hxv
  have afK:W1.cell? ⟨w.heap.size,1,none⟩=some (.slice p (aI N).length c):=(hbW1.cell (by simp;omega)).trans hcW
  have HB1:=hid (sQ hB.out hbW1)
  have HS:=hid hs
  have mF:=hid hss
  have afL:(Lib.byteCells ([]++dQ (aI N).length pre)).length≤9*(aI N).length+1:=by
   rw [Lib.byteCells_length];have:=BP _ pre;simp;omega
  have hKW:KeepsFrom w2.heap.size W W1:=aM hbW1
  have Ei:=hid hbx
  have hsz1:=hbW1.size
  have SQ:w1.heap.size<W.heap.size:=by
   rcases Nat.lt_or_ge w1.heap.size W.heap.size with h | h
   ·exact h
   ·rw [Array.getElem?_eq_none h] at hbx;simp at hbx
  have SS:=hid ((hbW1.block _ SQ).trans hbx)
  clear hs hss hI hbx
  by_cases hi:x.i+1<(aI N).length
  ·have hi1:decide ((x.i:Int)<((aI N).length:Int)-1)=true:=by simp;omega
   have hz:(⟨#[48,48,48,48,48,48,48,48,48]⟩ : ByteArray).extract s.size 9=⟨(List.replicate (9-s.size) 48).toArray⟩:=uw s.size hs9
   have HZ:=hid hz
   have hzl:((⟨#[48,48,48,48,48,48,48,48,48]⟩ : ByteArray).extract s.size 9).size≤9:=by rw [hz,Lib.size_eq];simp
   clear hz
   gi_wp2
   refine ⟨trivial,?_⟩
   refine (CallsIn.inRound l (callsIn_wide.2 (dw _ _ _ _ W1 HB1.out (by omega) (by omega)))).mono ?_
   rintro e W2 ⟨rfl,hB2,hbW2,hk2⟩
   gi_wp2
   refine ⟨trivial,?_⟩
   have hl2:(Lib.byteCells ([]++dQ (aI N).length pre)++Lib.strCells ((⟨#[48,48,48,48,48,48,48,48,48]⟩ : ByteArray).extract s.size 9)).length≤9*(aI N).length+10:=by
    rw [List.length_append,Lib.strCells_length];omega
   refine (CallsIn.inRound l (callsIn_wide.2 (dw _ _ _ s W2 (.inr hB2) (by omega) (by have:=hbW2.size;omega)))).mono ?_
   rintro e W3 ⟨rfl,hB3,BU,hk3⟩
   gi_wp2
   have hks:KeepsFrom w2.heap.size W W3:=(hKW.trans (fD hk2 hbW2.size (by omega))).trans (fD hk3 BU.size (by omega))
   have SV:=jG hk2 SS.out (by omega) (by decide)
   have yx:=jG hk3 SV (by omega) (by decide)
   have qU:Below (w.heap.size+1) W W3:=((hbW1.mono hsW).trans hbW2).trans BU
   refine ⟨hks,?_,?_,jW.trans qU,yx⟩
   ·intro k hk
    rcases hk with hk | rfl
    ·exact qU.block k (by omega)
    ·rw [yx,Ei.out]
   ·refine .inr ?_
    have e1:Lib.byteCells ([]++dQ (aI N).length pre)++Lib.strCells ((⟨#[48,48,48,48,48,48,48,48,48]⟩ : ByteArray).extract s.size 9)++Lib.strCells s=Lib.byteCells ([]++dQ (aI N).length (pre ++ [x])):=by
     rw [jb,if_pos hi,HZ.out]
     simp only [Lib.byteCells,Lib.strCells,Ar,HS.out,mF.out,List.map_append,List.append_assoc]
    rw [←e1];exact hB3
  ·have hi1:decide ((x.i:Int)<((aI N).length:Int)-1)=false:=by simp;omega
   gi_wp2
   refine ⟨trivial,?_⟩
   refine (CallsIn.inRound l (callsIn_wide.2 (dw _ _ _ s W1 HB1.out (by omega) (by omega)))).mono ?_
   rintro e W3 ⟨rfl,hB3,BU,hk3⟩
   gi_wp2
   have hks:KeepsFrom w2.heap.size W W3:=hKW.trans (fD hk3 BU.size (by omega))
   have yx:=jG hk3 SS.out (by omega) (by decide)
   have qU:Below (w.heap.size+1) W W3:=(hbW1.mono hsW).trans BU
   refine ⟨hks,?_,?_,jW.trans qU,yx⟩
   ·intro k hk
    rcases hk with hk | rfl
    ·exact qU.block k (by omega)
    ·rw [yx,Ei.out]
   ·refine .inr ?_
    have e1:Lib.byteCells ([]++dQ (aI N).length pre)++Lib.strCells s=Lib.byteCells ([]++dQ (aI N).length (pre ++ [x])):=by
     rw [jb,if_neg hi]
     simp only [Lib.byteCells,Lib.strCells,HS.out,List.map_append,List.append_assoc]
    rw [←e1];exact hB3
 case done =>
  rintro D ys W hD rfl ⟨hb,jW,hbx⟩ hK
  have hsW:w.heap.size+1≤W.heap.size:=by have:=jW.size;omega
  have SX:=hid (BO N hN)
  gi_wp2
  refine ⟨trivial,?_⟩
  refine (callsIn_wide.2 (Tryz.Builder_String_any_k (w.heap.size+1) (w.heap.size+1) _ W (Lib.IsBuilderF.of hb) (by omega))).mono ?_
  rintro e W1 ⟨rfl,_,hb1,hk1⟩
  have hK1:W1.heap[D]?=some (.deferred (some [])):=hk1 D _ hK (by simp;omega) (fun c fz e=>by cases e)
  gi_wp2
  refine ⟨by simp,.inl ⟨_,_,rfl,run_takeDeferred hK1,?_⟩⟩
  refine ⟨_,results_tmp rfl _ _ _,⟨_,rfl,?_,?_⟩⟩
  ·refine eP.mk ?_
   rw [fu,←SX.out]
  ·exact (SN.trans ((jW.trans hb1).mono (by omega))).trans (pE _ _ _ (by omega))
 case stop =>
  rintro D c pre W _ _ h _
  exact h.elim
theorem uX (neg:Bool) (pv:Value) (w:World) (hI:dI w pv (aI 0)) :
  Calls Tryz.prog 182 #[.agg #[.bool neg,pv]] w fun e w'=>∃ r:ByteArray,e=.returned (.string r)∧eP r 0∧Below w.heap.size w w':=by
 obtain ⟨p,c,rfl,hc,hm⟩:=hI.slice
 have h0:(aI 0).length=0:=by rw [eG];rfl
 rw [h0]
 go_enter Tryz.func182,Tryz.ntmps182
 go_wp2
 go_ret
 exact ⟨_,rfl,Su,(Below.refl _ _).alloc (Nat.le_refl _) _⟩
theorem uy (neg:Bool) (pv:Value) (N:Nat) (hlen:(aI N).length≤1099511627776) (w:World) (hw:Good w) (hI:dI w pv (aI N)) :
  Calls Tryz.prog 182 #[.agg #[.bool neg,pv]] w fun e w'=>∃ r:ByteArray,e=.returned (.string r)∧eP r (BS neg N)∧Below w.heap.size w w':=by
 by_cases hN:N=0
 ·subst hN
  have:BS neg 0=0:=by cases neg <;> rfl
  rw [this]
  exact uX neg pv w hI
 ·cases neg
  ·exact callsIn_wide.1 (xe pv N hN hlen w hw hI)
  ·exact callsIn_wide.1 (xc pv N hN hlen w hw hI)
end Go.Proofs.YtglncfkoohgdaaaGreatDoor
