import Derived.Test.YtglncfkoohgdaaaGreatDoorProg
import Derived.Test.YtglncfkoohgdaaaGreatDoorMathR
import Derived.WalkKit
import Derived.WalkSmall
import Derived.Lib.LaidTab
import Derived.Lib.Hide
import Derived.Lib.Strings
import Derived.Test.YtglncfkoohgdaaaGreatDoorShelfZ
import Derived.Handy
import Derived.Lib.AtoiErrMem
import Derived.BigQuiet
import Derived.Deep.QuietTactic
set_option maxRecDepth 100000
set_option maxHeartbeats 400000
namespace Go.Proofs.YtglncfkoohgdaaaGreatDoor
open Go.Lib (decDigits itoa nDigits compareBytes)
open Go.RowKit
structure Good (w:World):Prop where
 pow : Lib.TabIs Tryz.prog w "internal/strconv.uint64pow10" .u64 Lib.pow10Tab
 maxLen:∃ m,w.cell? ⟨0,0,none⟩=some (.int .i64 m)
 big:6≤w.heap.size
theorem adM : Tryz.prog.globalNamed "internal/strconv.uint64pow10" = some 1 := by kernel_rfl
theorem Good.mono {w w':World} {B:Nat} (h:Good w) (hb:Below B w w') (hB:6≤B):Good w':=by
 obtain ⟨hp,⟨m,hm⟩,hs⟩:=h
 exact ⟨var?_below hb adM (by omega) hp,⟨m,by rw [hb.cell (by show 0<B;omega)];exact hm⟩,Nat.le_trans hs hb.size⟩
theorem Good.below {w w':World} (h:Good w) (hb:Below w.heap.size w w'):Good w':=h.mono hb h.big
def eP (s:ByteArray) (n:Int):Prop:=s.data.toList=itoa n
def gN (s:ByteArray) (q:Rat):Prop:=s.data.toList=aX q
theorem eP.mk {l:List UInt8} {n:Int} (h:l=itoa n):eP ⟨l.toArray⟩ n:=by unfold eP;simpa using h
theorem wT (n:Int):eP ⟨(itoa n).toArray⟩ n:=eP.mk rfl
theorem eP.size {s:ByteArray} {n:Int} (h:eP s n):s.size=(itoa n).length:=by rw [Lib.size_eq,h]
theorem gN.size {s:ByteArray} {q:Rat} (h:gN s q):s.size=(aX q).length:=by rw [Lib.size_eq,h]
theorem eP.pos {s:ByteArray} {n:Int} (h:eP s n):0<s.size:=by
 rw [h.size];exact List.length_pos_iff.2 (mJ n)
theorem gN.pos {s:ByteArray} {q:Rat} (h:gN s q):0<s.size:=by
 rw [h.size];exact List.length_pos_iff.2 (vV q)
theorem kW {s t:ByteArray} (h:s.data.toList=t.data.toList):s=t:=by
 rw [←Lib.mk_data s,←Lib.mk_data t,h]
theorem eP.unique {s t:ByteArray} {n:Int} (h:eP s n) (k:eP t n):s=t:=kW (h.trans k.symm)
theorem gN.unique {s t:ByteArray} {q:Rat} (h:gN s q) (k:gN t q):s=t:=kW (h.trans k.symm)
theorem eP.beq {s:ByteArray} {n m:Int} {l:List UInt8} (h:eP s n) (hl:l=Go.Lib.itoa m):(s.toList == l)=decide (n=m):=by
 rw [Lib.toList_data,h,hl]
 by_cases e:n=m
 ·subst e;simp
 ·have:Go.Lib.itoa n≠Go.Lib.itoa m:=fun hh=>e (Bz hh)
  simp [e,this]
theorem gN.beq {s:ByteArray} {p q:Rat} {l:List UInt8} (h:gN s p) (hl:l=aX q):(s.toList == l)=decide (p=q):=by
 rw [Lib.toList_data,h,hl]
 by_cases e:p=q
 ·subst e;simp
 ·have:aX p≠aX q:=fun hh=>e (sI hh)
  simp [e,this]
theorem gN.afI {s t:ByteArray} {p q:Rat} (h:gN s p) (k:gN t q):(s.toList == t.toList)=decide (p=q):=
 h.beq (by rw [Lib.toList_data];exact k)
theorem BI:aX 0=[48]:=by
 have:=yo 0
 rw [yj] at this
 simpa using this
theorem P6:aX 1=[49]:=by
 have:=yo 1
 rw [vU] at this
 simpa using this
theorem eP.zero {s:ByteArray} {n:Int} (h:eP s n):(s.toList == [48])=decide (n=0):=h.beq yj.symm
theorem eP.one {s:ByteArray} {n:Int} (h:eP s n):(s.toList == [49])=decide (n=1):=h.beq vU.symm
theorem gN.zero {s:ByteArray} {q:Rat} (h:gN s q):(s.toList == [48])=decide (q=0):=h.beq BI.symm
theorem gN.one {s:ByteArray} {q:Rat} (h:gN s q):(s.toList == [49])=decide (q=1):=h.beq P6.symm
theorem Su:eP ⟨#[48]⟩ 0:=yj.symm
theorem NY:eP ⟨#[49]⟩ 1:=vU.symm
theorem Ju:gN ⟨#[48]⟩ 0:=BI.symm
theorem BJ (s:ByteArray) (h:0<s.size):∃ r,s.data.toList=s[0] :: r:=by
 have h':0<s.data.toList.length:=by rw [←Lib.size_eq];exact h
 cases hl:s.data.toList with
 | nil=>rw [hl] at h';simp at h'
 | cons c r =>
  refine ⟨r,?_⟩
  have e:s[0]=s.data.toList[0]:=rfl
  rw [e]
  simp [hl]
theorem Zc {s:ByteArray} (h:0<s.size):((s[0].toNat:Int) == 45)=true↔∃ r,s.data.toList=45 :: r:=by
 obtain ⟨r,hr⟩:=BJ s h
 rw [hr]
 simp only [beq_iff_eq]
 constructor
 ·intro he
  exact ⟨r,by congr 1;apply UInt8.toNat_inj.1;show s[0].toNat=45;omega⟩
 ·rintro ⟨r',he⟩
  have:=(List.cons.inj he).1
  rw [this];rfl
theorem Eb {n:Int}:(∃ r,Go.Lib.itoa n=45 :: r)↔n<0:=by
 constructor
 ·rintro ⟨r,h⟩
  apply Int.lt_of_not_ge
  intro h0
  rw [itoa_nonneg h0] at h
  exact fw _ _ h
 ·intro h;exact ⟨_,itoa_neg h⟩
theorem eP.first {s:ByteArray} {n:Int} (h:eP s n) (h0:0<s.size):((s[0].toNat:Int) == 45)=decide (n<0):=by
 rw [Bool.eq_iff_iff,Zc h0,h,Eb];simp
theorem gN.first {s:ByteArray} {q:Rat} (h:gN s q) (h0:0<s.size):((s[0].toNat:Int) == 45)=decide (q<0):=by
 rw [Bool.eq_iff_iff,Zc h0,h,qK];simp
theorem dJ {k:IntKind} {a b:Int} (h:a=b):Ending.returned (.int k a)=.returned (.int k b):=by rw [h]
theorem BK {a b:Bool} (h:a=b):Ending.returned (.bool a)=.returned (.bool b):=by rw [h]
theorem jl {a b:ByteArray} (h:a=b):Ending.returned (.string a)=.returned (.string b):=by rw [h]
def lenOf:Value→Nat | .slice _ n _=>n | _=>0
def Reads (w:World) (size:Nat) (v:Value) (n:Nat) (cs:List Value):Prop:=
 cs.length=n*size∧∃ p c,v=.slice p n c∧n≤c∧c≤maxLen∧(0<n→∃ b off,p=some ⟨b,off,none⟩∧b<w.heap.size∧∀ i (h:i<cs.length),w.cell? ⟨b,off+i,none⟩=some cs[i])
theorem Reads.below {w w':World} {size n:Nat} {v:Value} {cs:List Value} (h:Reads w size v n cs) (hb:Below w.heap.size w w'):Reads w' size v n cs:=by
 obtain ⟨hl,p,c,hv,hc,hm,hx⟩:=h
 refine ⟨hl,p,c,hv,hc,hm,fun h0=>?_⟩
 obtain ⟨b,off,hp,hbl,hcell⟩:=hx h0
 exact ⟨b,off,hp,Nat.lt_of_lt_of_le hbl hb.size,fun i hi=>by rw [hb.cell (p:=⟨b,off+i,none⟩) hbl];exact hcell i hi⟩
theorem Reads.take {w:World} {size n k c:Nat} {p:Option Addr} {cs:List Value} (h:Reads w size (.slice p n c) n cs) (hk:k≤n):Reads w size (.slice p k c) k (cs.take (k*size)):=by
 obtain ⟨hl,p',c',hv,hc,hm,hx⟩:=h
 simp only [Value.slice.injEq,true_and] at hv
 obtain ⟨rfl,rfl⟩:=hv
 have hks:k*size≤n*size:=Nat.mul_le_mul_right _ hk
 refine ⟨by simp;omega,p,c,rfl,by omega,hm,fun h0=>?_⟩
 obtain ⟨b,off,hp,hbl,hcell⟩:=hx (by omega)
 refine ⟨b,off,hp,hbl,fun i hi=>?_⟩
 rw [List.getElem_take]
 exact hcell i (by simp at hi;omega)
theorem Reads.bu {w:World} {base size n:Nat} {e:TypeId} {v:Value} {cs:List Value} (h:w.ownsRow base e size v n cs):Reads w size v n cs:=by
 obtain ⟨hl,h | ⟨g,cap,cur,hv,hb,hg,hn,hm,hs,ht⟩⟩:=h
 ·obtain ⟨rfl,rfl⟩:=h
  exact ⟨hl,none,0,rfl,Nat.le_refl _,Nat.zero_le _,fun h0=>by omega⟩
 ·refine ⟨hl,some ⟨g,0,none⟩,cap,hv,hn,hm,fun _=>⟨g,0,rfl,?_,fun i hi=>?_⟩⟩
  ·rcases Nat.lt_or_ge g w.heap.size with h | h
   ·exact h
   ·rw [Array.getElem?_eq_none h] at hg;simp at hg
  ·have hi':i<cur.toList.length:=by
    have:=congrArg List.length ht
    simp at this
    simp only [Array.length_toList]
    omega
   have e1:cs[i]=cur.toList[i]:=by
    simp only [←ht,List.getElem_take]
   simp only [World.cell?,hg,e1]
   simp at hi'
   simp [hi']
theorem di {w w':World} {base:Nat} {e:TypeId} {size n:Nat} {v:Value} {xs:List Value} (h:w.ownsRow base e size v n xs) (hb:Below w.heap.size w w'):w'.ownsRow base e size v n xs:=by
 refine ⟨h.1,?_⟩
 rcases h.2 with h2 | ⟨g,cap,cur,hv,hg,hh,r⟩
 ·exact .inl h2
 ·refine .inr ⟨g,cap,cur,hv,hg,?_,r⟩
  rw [hb.block g ?_]
  ·exact hh
  ·rcases Nat.lt_or_ge g w.heap.size with h' | h'
   ·exact h'
   ·simp [Array.getElem?_eq_none h'] at hh
structure SliceOf (t e:TypeId) (z:Value) (size bytes:Nat):Prop where
 ht:Tryz.prog.underlying t=some (.slice e)
 info:(Tryz.prog.info? e).map (fun i=>(i.zero,i.size,i.bytes))=some (some z,size,bytes)
 hzs:z.cells.size=size
 hsz:0<size
theorem sO (b j:Nat):(⟨b,0,none⟩ : Addr).add j=⟨b,j,none⟩:=by
 unfold Addr.add;split
 ·rename_i h;rw [h]
 ·simp
theorem NZ {t e:TypeId} {z:Value} {size bytes:Nat} (S:SliceOf t e z size bytes) {ops:Array Oper} {rest:List Oper} {o:Oper} {a:Act} {Q:Exit→Act→World→Prop} {w:World}
  (hgd:o.guard=none) (s x:Operand) (ho:o.op=.call { callee:=.builtin .append,args:=#[s,x],argTypes:=#[t,t] })
  (base:Nat) (v:Value) (n:Nat) (xs:List Value) (hs:a.eval s=v) (hown:w.ownsRow base e size v n xs)
  (m c:Nat) (news:Array Value) (hx:a.eval x=.slice (some ⟨w.heap.size,0,none⟩) m c) (hl:news.size=m*size) (h1:∀ u∈news.toList,u.oneCell'=true)
  (hn:(n+m)*bytes≤140737488355328) (hby:0<bytes) (hbase:base≤w.heap.size) (xs':List Value) (hxs:xs++news.toList=xs')
  (h:∀ v' w',w'.ownsRow base e size v' (n+m) xs'→Below base w w'→wpList Tryz.prog ops Q rest (a.put o.dst v') w'):wpList Tryz.prog ops Q (o :: rest) a (w.alloc (.cells news e)):=by
 obtain ⟨i,hi,hz0,hz1,hz2⟩:=info_parts S.info
 have hb1:Below base w (w.alloc (.cells news e)):=(Below.refl _ _).alloc hbase _
 have hle:n+m≤(n+m)*bytes:=Nat.le_mul_of_pos_right _ hby
 refine wpList_append_own _ hgd s x t ho base e i z size bytes S.ht hi hz0 hz1 hz2 S.hzs S.hsz v n xs hs ?_ ⟨w.heap.size,0,none⟩ m c news.toList hx (by simpa using hl) ?_ h1 (by unfold maxLen;omega) hn (by simp;omega) ?_
 ·exact hown.alloc _
 ·intro j u hj
  rw [sO,World.cell?_alloc_new]
  simpa using hj
 ·intro v' w' ho hg _
  rw [hxs] at ho
  refine h v' w' ho (hb1.grown hg (by simp;omega) (fun k hk=>(hown.lt k hk).1))
theorem Gx {t e:TypeId} {z:Value} {size bytes:Nat} (S:SliceOf t e z size bytes) {ops:Array Oper} {o:Oper} {a:Act} {K:Act→World→Prop} {Q:Exit→Act→World→Prop} {E:Prop} {w:World}
  (hgd:o.guard=none) (s x:Operand) (ho:o.op=.call { callee:=.builtin .append,args:=#[s,x],argTypes:=#[t,t] })
  (base:Nat) (v:Value) (n:Nat) (xs:List Value) (hs:a.eval s=v) (hown:w.ownsRow base e size v n xs)
  (m c:Nat) (news:Array Value) (hx:a.eval x=.slice (some ⟨w.heap.size,0,none⟩) m c) (hl:news.size=m*size) (h1:∀ u∈news.toList,u.oneCell'=true)
  (hn:(n+m)*bytes≤140737488355328) (hby:0<bytes) (hbase:base≤w.heap.size) (xs':List Value) (hxs:xs++news.toList=xs')
  (h:∀ v' w',w'.ownsRow base e size v' (n+m) xs'→Below base w w'→K (a.put o.dst v') w') :
  if Region.wanted o (yielded ops a.tmps)=true then Oper.wp Tryz.prog o a (w.alloc (.cells news e)) K Q else E:=by
 have hw:Region.wanted o (yielded ops a.tmps)=true:=by simp [Region.wanted,hgd]
 rw [if_pos hw]
 obtain ⟨i,hi,hz0,hz1,hz2⟩:=info_parts S.info
 have hb1:Below base w (w.alloc (.cells news e)):=(Below.refl _ _).alloc hbase _
 have hle:n+m≤(n+m)*bytes:=Nat.le_mul_of_pos_right _ hby
 refine wp_append_own (w.alloc (.cells news e)) s x t ho base e i z size bytes S.ht hi hz0 hz1 hz2 S.hzs S.hsz v n xs hs ?_ ⟨w.heap.size,0,none⟩ m c news.toList hx (by simpa using hl) ?_ h1 (by unfold maxLen;omega) hn (by simp;omega) ?_
 ·exact hown.alloc _
 ·intro j u hj
  rw [sO,World.cell?_alloc_new]
  simpa using hj
 ·intro v' w' ho hg _
  rw [hxs] at ho
  refine h v' w' ho (hb1.grown hg (by simp;omega) (fun k hk=>(hown.lt k hk).1))
theorem Ec {t e:TypeId} {z:Value} {size bytes:Nat} (S:SliceOf t e z size bytes) {ops:Array Oper} {o:Oper} {a:Act} {K:Act→World→Prop} {Q:Exit→Act→World→Prop} {E:Prop} {w:World}
  (hgd:o.guard=none) (s x:Operand) (ho:o.op=.call { callee:=.builtin .append,args:=#[s,x],argTypes:=#[t,t] })
  (base:Nat) (v:Value) (n:Nat) (xs:List Value) (hs:a.eval s=v) (hown:w.ownsRow base e size v n xs)
  (m c:Nat) (news:Array Value) (hx:a.eval x=.slice (some ⟨w.heap.size,0,none⟩) m c) (hl:news.size=m*size) (h1:∀ u∈news.toList,u.oneCell'=true)
  (hn:(n+m)*bytes≤140737488355328) (hby:0<bytes) (hbase:base≤w.heap.size) (xs':List Value) (hxs:xs++news.toList=xs')
  (h:∀ v' w',w'.ownsRow base e size v' (n+m) xs'→Below base w w'→K (a.put o.dst v') w') :
  if Region.wanted o (yielded ops a.tmps)=true then Oper.wp Tryz.prog o a (w.alloc (.cells news e)).drew K Q else E:=
 Gx S (w:=w.drew) hgd s x ho base v n xs hs hown m c news hx hl h1 hn hby hbase xs' hxs fun v' w' h2 h3=>h v' w' h2 ⟨h3.os,h3.tape,h3.output,h3.size,h3.block⟩
end Go.Proofs.YtglncfkoohgdaaaGreatDoor
namespace Go.Proofs.YtglncfkoohgdaaaGreatDoor
open Go.Lib (decDigits itoa nDigits compareBytes hasPrefix trimPrefix)
open Go.RowKit Go.Sort
open Go.Lib (hid)
theorem Jv (n:Int):jB (itoa n)=itoa n.natAbs:=by rw [BA,fu]
theorem Gy (s:ByteArray) (n:Int) (h:eP s n) (w:World) :
  Calls Tryz.prog 218 #[.string s,.string ⟨#[45]⟩] w fun e w'=>e=.returned (.bool (decide (n<0)))∧w=w':=by
 refine (Tryz.strings_HasPrefix s ⟨#[45]⟩ w).mono fun e w' he=>⟨?_,he.2.symm⟩
 rw [he.1]
 exact BK (by rw [h];exact qN n)
theorem uo (s:ByteArray) (n:Int) (h:eP s n) (w:World) :
  Calls Tryz.prog 178 #[.string s,.string ⟨#[45]⟩] w fun e w'=>∃ r:ByteArray,e=.returned (.string r)∧eP r n.natAbs∧w=w':=by
 refine (Tryz.strings_TrimPrefix s ⟨#[45]⟩ w).mono fun e w' he=>⟨_,he.1,eP.mk ?_,he.2.symm⟩
 rw [h]
 exact (o7 _).trans (Jv n)
theorem Gz (s:ByteArray) (n:Int) (h:eP s n) (w:World) :
  Calls Tryz.prog 176 #[.string s,.string ⟨#[45]⟩] w fun e w'=>∃ r:ByteArray,e=.returned (.tuple #[.string r,.bool (decide (n<0))])∧eP r n.natAbs∧w=w':=by
 refine (Tryz.strings_CutPrefix s ⟨#[45]⟩ w).mono fun e w' he=>⟨⟨(itoa n.natAbs).toArray⟩,?_,eP.mk rfl,he.2.symm⟩
 rw [he.1,h]
 have e1:trimPrefix (itoa n) (⟨#[45]⟩ : ByteArray).data.toList=itoa n.natAbs:=(o7 _).trans (Jv n)
 have e2:hasPrefix (itoa n) (⟨#[45]⟩ : ByteArray).data.toList=decide (n<0):=qN n
 rw [e1,e2]
theorem jm (s:ByteArray) (n:Int) (h:eP s n) (w:World) :
  Calls Tryz.prog 177 #[.string s] w fun e w'=>e=.returned (.int .i64 (mK n))∧w=w':=by
 have h0:=h.zero
 go_enter Tryz.func177,Tryz.ntmps177
 go_wp2_with (go_at_call 218;refine (Gy s n h _).mono ?_;rintro e w' ⟨rfl,rfl⟩)
 ·go_ret
  exact ⟨dJ (wu (by assumption)).symm,rfl⟩
 ·go_ret
  exact ⟨dJ (wh (by assumption)).symm,rfl⟩
 ·go_ret
  have h1:¬ n=0:=by assumption
  have h2:0≤n:=by assumption
  exact ⟨dJ (sK (by omega)).symm,rfl⟩
theorem Ao {s:ByteArray} {n:Int} (h:eP s n) (hn:0<n):eP (⟨#[45]⟩++s) (-n):=by
 unfold eP
 have e:((⟨#[45]⟩ : ByteArray)++s).data.toList=45 :: s.data.toList:=by simp
 rw [e,h,itoa_neg (n:=-n) (by omega),itoa_nonneg (n:=n) (by omega)]
 congr 2;omega
theorem GA {s:ByteArray} {n:Int} (h:eP s n) (hn:n<0):eP (s.extract 1 s.size) (-n):=by
 unfold eP
 rw [Lib.extract_data,h,itoa_neg hn,itoa_nonneg (n:=-n) (by omega)]
 have:s.size=(decDigits n.natAbs).length+1:=by rw [h.size,itoa_neg hn];rfl
 rw [this]
 simp
 congr 1;omega
theorem Jw {n:Int}:(mK n == 1)=decide (0<n):=by
 rcases dA n with ⟨h,e⟩ | ⟨h,e⟩ | ⟨h,e⟩ <;> rw [e] <;> simp <;> omega
theorem Ed {n:Int}:(mK n == -1)=decide (n<0):=by
 rcases dA n with ⟨h,e⟩ | ⟨h,e⟩ | ⟨h,e⟩ <;> rw [e] <;> simp <;> omega
theorem zJ (s:ByteArray) (n:Int) (h:eP s n) (w:World) (_hs:s.size≤9000000000) :
  Calls Tryz.prog 153 #[.string s] w fun e w'=>∃ r:ByteArray,e=.returned (.string r)∧eP r (-n)∧w=w':=by
 have h1:(mK n == 1)=decide (0<n):=Jw
 have h2:(mK n == -1)=decide (n<0):=Ed
 have hp:=h.pos
 have H:=hid h
 clear h
 go_enter Tryz.func153,Tryz.ntmps153
 go_wp2_with (go_at_call 177;refine (jm s n H.out _).mono ?_;rintro e w' ⟨rfl,rfl⟩)
 ·go_ret
  exact ⟨_,rfl,Ao H.out (by assumption),rfl⟩
 ·go_ret
  exact ⟨_,rfl,GA H.out (by assumption),rfl⟩
 ·go_ret
  have h1:n≤0:=by assumption
  have h2:0≤n:=by assumption
  obtain rfl:n=0:=by omega
  exact ⟨_,rfl,H.out,rfl⟩
theorem below_grown (w:World) (k:Nat) (os:Array Obj):Below w.heap.size w (grow (w.drewN k) os):=
 ⟨rfl,rfl,rfl,by simp [grow,World.drewN],fun i hi=>by simp [grow,World.drewN,Array.getElem?_append,hi]⟩
theorem uV (n:Int) (h0:-9223372036854775808≤n) (h1:n≤9223372036854775807) (w:World) (hw:Good w) :
  Calls Tryz.prog 168 #[.int .i64 n] w fun e w'=>∃ r:ByteArray,e=.returned (.string r)∧eP r n∧Below w.heap.size w w':=by
 go_enter Tryz.func168,Tryz.ntmps168
 go_wp2_with (go_at_call 130;refine (Tryz.strconv_Itoa n h0 h1 _ hw.pow).mono ?_;rintro e w' ⟨rfl,k,os,rfl⟩)
 go_ret
 exact ⟨_,rfl,wT n,below_grown _ _ _⟩
end Go.Proofs.YtglncfkoohgdaaaGreatDoor
namespace Go.Proofs.YtglncfkoohgdaaaGreatDoor
open Go.Lib (decDigits itoa nDigits compareBytes hasPrefix trimPrefix)
open Go.RowKit
open Go.Lib (hid)
theorem EM (n:Int):-1≤mK n∧mK n≤1:=by rcases dA n with ⟨_,e⟩ | ⟨_,e⟩ | ⟨_,e⟩ <;> omega
theorem Me (a b:Int):-1≤ek a b∧ek a b≤1:=by unfold ek;split <;> (try split) <;> omega
theorem eP.BL {s:ByteArray} {n:Int} (h:eP s (n.natAbs:Int)):s.size=(decDigits n.natAbs).length:=by rw [h.size,fu]
theorem Jy {s t:ByteArray} {n:Int} (h:eP s n) (k:eP t (n.natAbs:Int)):t.size≤s.size:=by
 rw [k.BL,h.size,dS,aO];omega
theorem Sv {s t:ByteArray} {m n:Int} (hs:eP s (m.natAbs:Int)) (ht:eP t (n.natAbs:Int)):compareBytes s.data.toList t.data.toList=compareBytes (decDigits m.natAbs) (decDigits n.natAbs):=by
 rw [hs,ht,fu,fu]
theorem Ap (a b:ByteArray) (m n:Int) (ha:eP a m) (hb:eP b n) (_hs:a.size≤9000000000) (_ht:b.size≤9000000000) (w:World) :
  Calls Tryz.prog 110 #[.string a,.string b] w fun e w'=>e=.returned (.int .i64 (ek m n))∧w=w':=by
 obtain ⟨r1,r2⟩:=EM m
 obtain ⟨r3,r4⟩:=EM n
 by_cases hss:mK m=mK n
 ·have h1:(mK m != mK n)=false:=by simp [hss]
  have mF:=hid hss
  clear hss
  go_enter Tryz.func110,Tryz.ntmps110
  go_wp2_with (first | (go_at_call 177;refine (jm _ _ (by assumption) _).mono ?_;rintro e w' ⟨rfl,rfl⟩) | (go_at_call 178;fail))
  refine (uo a m ha _).mono ?_
  rintro e w' ⟨s,rfl,hs,rfl⟩
  go_wp2_with fail
  refine (uo b n hb _).mono ?_
  rintro e w' ⟨t,rfl,ht,rfl⟩
  have zs:=hs.BL
  have zt:=ht.BL
  have hns:s.size≤a.size:=by rw [zs,ha.size,dS,aO];omega
  have hnt:t.size≤b.size:=by rw [zt,hb.size,dS,aO];omega
  by_cases hl:s.size=t.size
  ·have h2:((s.size:Int) != (t.size:Int))=false:=by simp [hl]
   have h3:(s.size != t.size)=false:=by simp [hl]
   have HF:=hid (L9 mF.out (by rw [←zs,←zt];exact hl))
   have HC:=hid (Sv hs ht)
   have hb1:=Me m n
   have HP:=hid (show mK m*compareBytes s.data.toList t.data.toList=ek m n by rw [HC.out,HF.out])
   have hp1:-1≤mK m*compareBytes s.data.toList t.data.toList:=by rw [HP.out];exact hb1.1
   have hp2:mK m*compareBytes s.data.toList t.data.toList≤1:=by rw [HP.out];exact hb1.2
   clear hl zs zt
   go_wp2_with (go_at_call 66;refine (Tryz.strings_Compare s t _).mono ?_;rintro e w' ⟨rfl,rfl⟩)
   go_ret
   exact ⟨dJ HP.out,rfl⟩
  ·have h2:((s.size:Int) != (t.size:Int))=true:=by simp;omega
   have h3:(s.size != t.size)=true:=by simpa using hl
   have HL:=hid (fun h=>L6 mF.out (show (decDigits m.natAbs).length<(decDigits n.natAbs).length by rw [←zs,←zt];exact h))
   have HG:=hid (fun h=>L8 mF.out (show (decDigits n.natAbs).length<(decDigits m.natAbs).length by rw [←zs,←zt];exact h))
   clear zs zt
   go_wp2
   ·go_ret
    exact ⟨dJ (HL.out (by assumption)).symm,rfl⟩
   ·go_ret
    have h:¬ s.size<t.size:=by first | assumption | (intro h;omega)
    exact ⟨dJ (HG.out (by omega)).symm,rfl⟩
 ·have h1:(mK m != mK n)=true:=by simpa using hss
  have HL:=hid (fun h=>@LY m n h)
  have HG:=hid (fun h=>@LZ m n h)
  go_enter Tryz.func110,Tryz.ntmps110
  go_wp2_with (first | (go_at_call 177;refine (jm _ _ (by assumption) _).mono ?_;rintro e w' ⟨rfl,rfl⟩))
  ·go_ret
   exact ⟨dJ (HL.out (by assumption)).symm,rfl⟩
  ·go_ret
   have h:mK n≤mK m:=by assumption
   exact ⟨dJ (HG.out (by omega)).symm,rfl⟩
theorem kH (s:ByteArray) (n:Int) (most:Int) (h:eP s n) (hm:(s.size:Int)≤most) (hm2:most≤18) (w:World) :
  Calls Tryz.prog 179 #[.string s,.int .i64 most] w fun e w'=>e=.returned (.tuple #[.int .i64 n,.bool true])∧Below w.heap.size w w':=by
 have hn:n.natAbs<10 ^ 18:=bS (k:=18) (by rw [←h.size];omega)
 go_enter Tryz.func179,Tryz.ntmps179
 go_wp2_with (go_at_call 198;refine (Tryz.strconv_Atoi_ok s (by omega) n (by rw [h];exact vX hn) _).mono ?_;rintro e w' ⟨rfl,hw'⟩)
 have hb:Below w.heap.size w w':=by
  rcases hw' with rfl | ⟨t,rfl⟩
  ·exact Below.refl _ _
  ·exact Lib.bytesWorld_below _ _ _
 clear hw'
 go_quiet (fail)
 go_wp2
 go_ret2
 exact ⟨rfl,below_drewN hb _⟩
def GD (l:List UInt8) (w:World) (e:Ending) (w':World):Prop:=e=.returned (.int .i64 (if gI l then 0 else 2))∧w=w'
theorem kX {l:List UInt8} {w:World} (h:gI l=false):GD l w (.returned (.int .i64 2)) w:=⟨by rw [h];rfl,rfl⟩
theorem Sw {l:List UInt8} {w:World} (h:gI l=true):GD l w (.returned (.int .i64 0)) w:=⟨by rw [h];rfl,rfl⟩
theorem Jz {l:List UInt8} {t:ByteArray} (ht:t.data.toList=jB l):gI l=(!(decide (t.size=0) || decide (200<t.size) || (t.data.toList.head? == some 48 && (decide (1<t.size) || hasPrefix l [45]))) && t.data.toList.all bO):=by
 unfold gI
 have e1:hasPrefix l [45]=(l.head? == some 45):=by
  rw [Bool.eq_iff_iff,mM]
  cases l <;> simp
 have e2:(jB l).length=t.size:=by rw [Lib.size_eq,ht]
 have e3:(jB l).isEmpty=decide (t.size=0):=by
  rw [←e2,Bool.eq_iff_iff];simp
 simp only [ht,e1,e2,e3]
theorem abU {t:ByteArray} (h:0<t.size):(t.data.toList.head? == some 48)=((t[0].toNat:Int) == 48):=by
 obtain ⟨r,hr⟩:=BJ t h
 rw [hr,Bool.eq_iff_iff]
 simp only [List.head?_cons,beq_iff_eq,Option.some.injEq]
 constructor
 ·intro e;rw [e];rfl
 ·intro e;apply UInt8.toNat_inj.1;show t[0].toNat=48;omega
theorem BM {t:ByteArray} {k:Nat} (h:k<t.size):bO t[k]=true↔48≤(t[k].toNat:Int)∧(t[k].toNat:Int)≤57:=by
 unfold bO;simp;omega
theorem jP {t:ByteArray} {k:Nat} (h:k<t.size) (hd:(t[k].toNat:Int)<48∨57<(t[k].toNat:Int)):t.data.toList.all bO=false:=by
 rw [List.all_eq_false]
 refine ⟨t[k],?_,?_⟩
 ·have:t[k]=t.data.toList[k]'(by rw [←Lib.size_eq];exact h):=rfl
  rw [this];exact List.getElem_mem _
 ·rw [BM h];omega
def Sy (t:ByteArray) (k:Nat):Prop:=∀ j (h:j<t.size),j<k→bO t[j]=true
theorem EN {t:ByteArray} (h:Sy t t.size):t.data.toList.all bO=true:=by
 rw [List.all_eq_true]
 intro c hc
 obtain ⟨j,hj,rfl⟩:=List.mem_iff_getElem.1 hc
 have hj':j<t.size:=by rw [Lib.size_eq];exact hj
 exact h j hj' hj'
theorem nI (s:ByteArray) (hs:s.size≤9000000000) (w:World) :
  Calls Tryz.prog 109 #[.string s] w (GD s.data.toList w):=by
 obtain ⟨t,hT⟩ : ∃ t:ByteArray,t=⟨(trimPrefix s.data.toList (⟨#[45]⟩ : ByteArray).data.toList).toArray⟩:=⟨_,rfl⟩
 have ht:t.data.toList=jB s.data.toList:=by rw [hT];exact o7 _
 obtain ⟨mi,hM⟩ : ∃ mi:Bool,mi=hasPrefix s.data.toList (⟨#[45]⟩ : ByteArray).data.toList:=⟨_,rfl⟩
 have hcut:∀ w,Calls Tryz.prog 176 #[.string s,.string ⟨#[45]⟩] w fun e w'=>e=.returned (.tuple #[.string t,.bool mi])∧w=w':=fun w =>
  (Tryz.strings_CutPrefix s ⟨#[45]⟩ w).mono fun e w' he=>⟨by rw [he.1,hT,hM],he.2.symm⟩
 have yw:=hid hcut
 have N7:=hid (Jz ht)
 have hsz:t.size≤9000000000:=by
  have h1:(jB s.data.toList).length≤s.data.toList.length:=by
   unfold jB;split
   ·rename_i h;rw [h];simp
   ·exact Nat.le_refl _
  rw [←Lib.size_eq,←ht,←Lib.size_eq] at h1;omega
 have hM':hasPrefix s.data.toList [45]=mi:=hM.symm
 clear hcut ht hT hM
 by_cases h0:t.size=0
 ·have he:t.toList.isEmpty=true:=by rw [Lib.toList_data,List.isEmpty_iff_length_eq_zero,←Lib.size_eq];exact h0
  have HB:=hid (show gI s.data.toList=false by rw [N7.out];simp [h0])
  go_enter Tryz.func109,Tryz.ntmps109
  go_wp2_with (go_at_call 176;refine (yw.out _).mono ?_;rintro e w' ⟨rfl,rfl⟩)
  go_ret
  exact kX HB.out
 have h0':0<t.size:=by omega
 have he:t.toList.isEmpty=false:=by
  rw [Lib.toList_data,List.isEmpty_eq_false_iff]
  intro hh
  rw [Lib.size_eq,hh] at h0;exact h0 rfl
 by_cases h2:200<t.size
 ·have hd:decide (200<t.size)=true:=by simpa using h2
  have hd2:decide (200<(t.size:Int))=true:=by simp;omega
  have HB:=hid (show gI s.data.toList=false by rw [N7.out];simp [h2])
  go_enter Tryz.func109,Tryz.ntmps109
  go_wp2_with (go_at_call 176;refine (yw.out _).mono ?_;rintro e w' ⟨rfl,rfl⟩)
  go_ret
  exact kX HB.out
 have hd:decide (200<t.size)=false:=by simpa using h2
 have hd2:decide (200<(t.size:Int))=false:=by simp;omega
 have HH:=hid (abU h0')
 by_cases h3:((t[0].toNat:Int) == 48)=true∧(1<t.size∨mi=true)
 ·have HB:=hid (show gI s.data.toList=false by
   rw [N7.out,HH.out,hM',h3.1]
   rcases h3.2 with h | h
   ·simp [h]
   ·simp [h])
  obtain ⟨h4,h5⟩:=h3
  rcases h5 with h5 | rfl
  ·have hd3:decide (1<t.size)=true:=by simpa using h5
   have hd4:decide (1<(t.size:Int))=true:=by simp;omega
   go_enter Tryz.func109,Tryz.ntmps109
   go_wp2_with (go_at_call 176;refine (yw.out _).mono ?_;rintro e w' ⟨rfl,rfl⟩)
   go_ret
   exact kX HB.out
  ·by_cases h5:1<t.size
   ·have hd3:decide (1<t.size)=true:=by simpa using h5
    have hd4:decide (1<(t.size:Int))=true:=by simp;omega
    go_enter Tryz.func109,Tryz.ntmps109
    go_wp2_with (go_at_call 176;refine (yw.out _).mono ?_;rintro e w' ⟨rfl,rfl⟩)
    go_ret
    exact kX HB.out
   ·have hd3:decide (1<t.size)=false:=by simpa using h5
    have hd4:decide (1<(t.size:Int))=false:=by simp;omega
    go_enter Tryz.func109,Tryz.ntmps109
    go_wp2_with (go_at_call 176;refine (yw.out _).mono ?_;rintro e w' ⟨rfl,rfl⟩)
    go_ret
    exact kX HB.out
 ·have HF:=hid (show gI s.data.toList=t.data.toList.all bO by
   rw [N7.out,HH.out,hM']
   have e0:decide (t.size=0)=false:=by simpa using h0
   rw [e0,hd]
   have:(((t[0].toNat:Int) == 48) && (decide (1<t.size) || mi))=false:=by
    rw [Bool.eq_false_iff]
    intro hh
    simp only [Bool.and_eq_true,Bool.or_eq_true,decide_eq_true_iff] at hh
    exact h3 hh
   rw [this];simp)
  by_cases h4:((t[0].toNat:Int) == 48)=true
  ·have h5:¬ 1<t.size:=fun h=>h3 ⟨h4,.inl h⟩
   have h6:mi=false:=by
    cases mi
    ·rfl
    ·exact (h3 ⟨h4,.inr rfl⟩).elim
   subst h6
   have hd3:decide (1<t.size)=false:=by simpa using h5
   have hd4:decide (1<(t.size:Int))=false:=by simp;omega
   go_enter Tryz.func109,Tryz.ntmps109
   go_wp2_with (go_at_call 176;refine (yw.out _).mono ?_;rintro e w' ⟨rfl,rfl⟩)
   go_loop [33] (fun iv=>∃ k:Nat,k≤t.size∧iv=.int .i64 k∧Sy t k) (fun iv=>t.size-(intOf iv).toNat)
   case atStart=>exact ⟨0,Nat.zero_le _,rfl,fun j _ h=>by omega⟩
   case round =>
    obtain ⟨k,hk,rfl,hdig⟩:=hrel
    have HD:=hid hdig
    clear hdig
    by_cases hlt:k<t.size
    ·by_cases hc:(t[k].toNat:Int)<48
     ·have hc1:decide ((t[k].toNat:Int)<48)=true:=by simpa using hc
      have HB:=hid (show gI s.data.toList=false by rw [HF.out];exact jP hlt (.inl hc))
      go_wp2
      go_ret
      exact kX HB.out
     ·have hc1:decide ((t[k].toNat:Int)<48)=false:=by simpa using hc
      by_cases hc2:57<(t[k].toNat:Int)
      ·have hc3:decide (57<(t[k].toNat:Int))=true:=by simpa using hc2
       have HB:=hid (show gI s.data.toList=false by rw [HF.out];exact jP hlt (.inr hc2))
       go_wp2
       go_ret
       exact kX HB.out
      ·have hc3:decide (57<(t[k].toNat:Int))=false:=by simpa using hc2
       have HI:=hid ((BM hlt).2 ⟨by omega,by omega⟩)
       clear hc hc2
       go_wp2
       go_round
       case rel=>exact ⟨k+1,by omega,by go_num,fun j hj hjk=>by
        by_cases e:j=k
        ·subst e;exact HI.out
        ·exact HD.out j hj (by omega)⟩
       case measure=>simp [intOf];omega
    ·obtain rfl:k=t.size:=by omega
     have HB:=hid (show gI s.data.toList=true by rw [HF.out];exact EN HD.out)
     go_wp2
     go_ret
     exact Sw HB.out
  ·have h5:((t[0].toNat:Int) == 48)=false:=by simpa using h4
   clear h4
   go_enter Tryz.func109,Tryz.ntmps109
   go_wp2_with (go_at_call 176;refine (yw.out _).mono ?_;rintro e w' ⟨rfl,rfl⟩)
   go_loop [33] (fun iv=>∃ k:Nat,k≤t.size∧iv=.int .i64 k∧Sy t k) (fun iv=>t.size-(intOf iv).toNat)
   case atStart=>exact ⟨0,Nat.zero_le _,rfl,fun j _ h=>by omega⟩
   case round =>
    obtain ⟨k,hk,rfl,hdig⟩:=hrel
    have HD:=hid hdig
    clear hdig
    by_cases hlt:k<t.size
    ·by_cases hc:(t[k].toNat:Int)<48
     ·have hc1:decide ((t[k].toNat:Int)<48)=true:=by simpa using hc
      have HB:=hid (show gI s.data.toList=false by rw [HF.out];exact jP hlt (.inl hc))
      go_wp2
      go_ret
      exact kX HB.out
     ·have hc1:decide ((t[k].toNat:Int)<48)=false:=by simpa using hc
      by_cases hc2:57<(t[k].toNat:Int)
      ·have hc3:decide (57<(t[k].toNat:Int))=true:=by simpa using hc2
       have HB:=hid (show gI s.data.toList=false by rw [HF.out];exact jP hlt (.inr hc2))
       go_wp2
       go_ret
       exact kX HB.out
      ·have hc3:decide (57<(t[k].toNat:Int))=false:=by simpa using hc2
       have HI:=hid ((BM hlt).2 ⟨by omega,by omega⟩)
       clear hc hc2
       go_wp2
       go_round
       case rel=>exact ⟨k+1,by omega,by go_num,fun j hj hjk=>by
        by_cases e:j=k
        ·subst e;exact HI.out
        ·exact HD.out j hj (by omega)⟩
       case measure=>simp [intOf];omega
    ·obtain rfl:k=t.size:=by omega
     have HB:=hid (show gI s.data.toList=true by rw [HF.out];exact EN HD.out)
     go_wp2
     go_ret
     exact Sw HB.out
end Go.Proofs.YtglncfkoohgdaaaGreatDoor
namespace Go.Proofs.YtglncfkoohgdaaaGreatDoor
open Go.Lib (decDigits itoa nDigits compareBytes)
open Go.RowKit Go.Sort
open Go.Lib (hid)
theorem aiA (w:World) (n:Nat):Below w.heap.size w (w.drewN n):=⟨rfl,rfl,rfl,Nat.le_refl _,fun _ _=>rfl⟩
theorem aiT {s:ByteArray} {n:Int} (h:eP s n) (hn:n<0):eP (s.extract 1 s.size) n.natAbs:=by
 have:=GA h hn
 rwa [show -n=((n.natAbs:Nat):Int) by omega] at this
theorem aiU {s:ByteArray} {n:Int} (h:eP s n) (hn:¬ n<0):eP s n.natAbs:=by
 rwa [show ((n.natAbs:Nat):Int)=n by omega]
def qi (n:Int) (w:World) (e:Ending) (w':World):Prop:=∃ r:ByteArray,e=.returned (.tuple #[.bool (decide (n<0)),.string r])∧eP r n.natAbs∧Below w.heap.size w w'
theorem Qz (s:ByteArray) (n:Int) (h:eP s n) (w:World):Calls Tryz.prog 136 #[.string s] w (qi n w):=by
 have h0:=h.pos
 have h1:=h.first h0
 have hp:decide ((0:Int)<(s.size:Int))=true:=decide_eq_true (by omega)
 have i1:(1:Int)≤(s.size:Int):=by omega
 by_cases hn:n<0
 ·have HN:=hid (aiT h hn)
  rw [decide_eq_true hn] at h1
  have HD:=hid (decide_eq_true hn)
  clear h hn
  go_enter Tryz.func136,Tryz.ntmps136
  go_wp2_with fail
  go_quiet (fail)
  go_wp2
  go_ret2
  exact ⟨_,by rw [HD.out];rfl,HN.out,aiA _ _⟩
 ·have HN:=hid (aiU h hn)
  rw [decide_eq_false hn] at h1
  have HD:=hid (decide_eq_false hn)
  clear h hn
  go_enter Tryz.func136,Tryz.ntmps136
  go_wp2
  go_ret2
  exact ⟨_,by rw [HD.out];rfl,HN.out,Below.refl _ _⟩
theorem afJ (n:Int) (h0:-9223372036854775808≤n) (h1:n≤9223372036854775807) (w:World) (hw:Good w) :
  Calls Tryz.prog 95 #[.int .i64 n] w fun e w'=>∃ r:ByteArray,e=.returned (.string r)∧eP r n∧Below w.heap.size w w':=by
 go_enter Tryz.func95,Tryz.ntmps95
 go_wp2_with (go_at_call 130;refine (Tryz.strconv_Itoa n h0 h1 _ hw.pow).mono ?_;rintro e w' ⟨rfl,k,os,rfl⟩)
 go_ret
 exact ⟨_,rfl,wT n,below_grown _ _ _⟩
end Go.Proofs.YtglncfkoohgdaaaGreatDoor
