import Derived.Test.YtgohnjdgoglcfaaGreatDoorT2Z
import Derived.Laws.StructEq
import Derived.Test.YtgohnjdgoglcfaaGreatDoorStillZ
set_option maxRecDepth 100000
set_option maxHeartbeats 4000000
namespace Go.Proofs.YtgohnjdgoglcfaaGreatDoor
open Go.RowKit Go.Shelf
open Go.Lib (decDigits itoa nDigits)
open Go.Lib (hid)
abbrev Pts (w:World) (v:Value) (L:List QP):Prop:=Pairs w v (L.map textP)
theorem slPt:SliceOf 22 31 (.agg #[.string ⟨#[]⟩,.string ⟨#[]⟩]) 2 32:=⟨Tryz.underlying22,by kernel_rfl,rfl,by decide⟩
theorem Pairs.cells {w:World} {p:Option Addr} {n c:Nat} {L:List Pair} (h:Pairs w (.slice p n c) L) (h0:0<L.length) :
  ∃ b off,p=some ⟨b,off,none⟩∧b<w.heap.size∧∀ i (h:i<L.length),w.cell? ⟨b,off+i*2,none⟩=some (.string L[i].1)∧w.cell? ⟨b,off+i*2+1,none⟩=some (.string L[i].2):=by
 obtain ⟨p',c',hv,_,_,hx⟩:=h
 simp only [Value.slice.injEq] at hv
 obtain ⟨rfl,rfl,rfl⟩:=hv
 exact hx h0
theorem Pts.cells {w:World} {p:Option Addr} {n c:Nat} {L:List QP} (h:Pts w (.slice p n c) L) (h0:0<L.length) :
  ∃ b off,p=some ⟨b,off,none⟩∧b<w.heap.size∧∀ i (_:i<L.length),w.cell? ⟨b,off+i*2,none⟩=some (.string (tx (pt L i).1))∧w.cell? ⟨b,off+i*2+1,none⟩=some (.string (tx (pt L i).2)):=by
 obtain ⟨b,off,h1,h2,h3⟩:=Pairs.cells h (by simpa using h0)
 refine ⟨b,off,h1,h2,fun i hi=>?_⟩
 have:=h3 i (by simpa using hi)
 rw [pt_eq hi]
 simpa [textP] using this
theorem Pts.slice {w:World} {v:Value} {L:List QP} (h:Pts w v L):∃ p c,v=.slice p L.length c∧L.length≤c∧c≤maxLen:=by
 obtain ⟨p,c,h1,h2,h3,_⟩:=h
 rw [List.length_map] at h1 h2
 exact ⟨p,c,h1,h2,h3⟩
theorem textP_inj {p q:QP} (h:textP p=textP q):p=q:=by
 unfold textP at h
 simp only [Prod.mk.injEq] at h
 have h1:=congrArg (fun s:ByteArray=>s.data.toList) h.1
 have h2:=congrArg (fun s:ByteArray=>s.data.toList) h.2
 dsimp only at h1 h2
 exact Prod.ext (rtext_inj h1) (rtext_inj h2)
theorem textP_map_inj {L M:List QP} (h:L.map textP=M.map textP):L=M:=List.map_inj_right (fun _ _=>textP_inj) |>.1 h
theorem textP_eq (L M:List QP):decide (L.map textP=M.map textP)=decide (L=M):=by
 rw [decide_eq_decide];exact ⟨textP_map_inj,fun h=>by rw [h]⟩
theorem pointUnder:Tryz.prog.underlying 31=some (.struct (Tryz.prog.fieldsOf 31)):=by kernel_rfl
theorem pointStood:Tryz.prog.stoodInHeld 31=false:=by kernel_rfl
theorem pointGuard:Tryz.prog.eqGuardType Tryz.prog.depth 31=false:=by kernel_rfl
def partB (x y:Pair):Bool:=x.1.toList == y.1.toList && x.2.toList == y.2.toList
theorem partB_iff (x y:Pair):partB x y=decide (x=y):=by
 rw [Bool.eq_iff_iff,decide_eq_true_eq]
 unfold partB
 rw [Bool.and_eq_true,beq_iff_eq,beq_iff_eq,Lib.toList_data,Lib.toList_data,Lib.toList_data,Lib.toList_data]
 constructor
 ·rintro ⟨h1,h2⟩;exact Prod.ext (str_ext h1) (str_ext h2)
 ·rintro rfl;exact ⟨rfl,rfl⟩
theorem neqPoint (x y:Pair) (w:World):(binOp .neq 31 (.agg #[.string x.1,.string x.2]) (.agg #[.string y.1,.string y.2])).run Tryz.prog w=.ok (.bool (!partB x y)) w:=by
 rw [run_neq_struct,run_equalIn_struct _ 9999 _ _ _ pointUnder pointStood]
 have hf:(Tryz.prog.fieldsOf 31).toList=[(Tryz.prog.fieldsOf 31)[0]!,(Tryz.prog.fieldsOf 31)[1]!]:=by kernel_rfl
 have t0:((Tryz.prog.fieldsOf 31)[0]!).type=29:=by kernel_rfl
 have t1:((Tryz.prog.fieldsOf 31)[1]!).type=29:=by kernel_rfl
 have o0:((Tryz.prog.fieldsOf 31)[0]!).offset=0:=by kernel_rfl
 have o1:((Tryz.prog.fieldsOf 31)[1]!).offset=1:=by kernel_rfl
 have n0 : ((Tryz.prog.fieldsOf 31)[0]!).name ≠ "_" := of_decide_eq_true (by kernel_rfl)
 have n1 : ((Tryz.prog.fieldsOf 31)[1]!).name ≠ "_" := of_decide_eq_true (by kernel_rfl)
 have hp:∀ (cs:Array Value) (i:Nat) (v:Value),cs[i]?=some v→(part 29 cs i).run Tryz.prog w=.ok v w:=by
  intro cs i v h
  unfold part
  simp only [Sem.run_bind,Tryz.isAgg29,Result.andThen_ok,Bool.false_eq_true,if_false,h,Sem.run_pure]
 rw [hf]
 simp only [Op.eqFields,if_pos n0,if_pos n1,t0,t1,o0,o1,Sem.run_bind]
 rw [hp _ 0 (.string x.1) rfl]
 simp only [Result.andThen_ok]
 rw [hp _ 0 (.string y.1) rfl]
 simp only [Result.andThen_ok]
 rw [run_equalIn_string w 9998 _ _ _ Tryz.underlying29]
 simp only [Result.andThen_ok]
 unfold partB
 cases h1:(x.1.toList == y.1.toList)
 ·simp
 ·simp only [Bool.not_true,Bool.false_eq_true,if_false,Sem.run_bind]
  rw [hp _ 1 (.string x.2) rfl]
  simp only [Result.andThen_ok]
  rw [hp _ 1 (.string y.2) rfl]
  simp only [Result.andThen_ok]
  rw [run_equalIn_string w 9998 _ _ _ Tryz.underlying29]
  simp only [Result.andThen_ok]
  cases h2:(x.2.toList == y.2.toList) <;> simp
theorem neqGuardP (op:BinOp) (a b:Operand) (xs ys:Array Value) (w:World):(eqGuard op 31 a b (.agg xs) (.agg ys)).run Tryz.prog w=.ok () w:=run_eqGuard_agg w op _ a b xs ys pointGuard
theorem eqlPoint (x y:Pair) (w:World):(binOp .eql 31 (.agg #[.string x.1,.string x.2]) (.agg #[.string y.1,.string y.2])).run Tryz.prog w=.ok (.bool (partB x y)) w:=by
 rw [run_eql_struct,run_equalIn_struct _ 9999 _ _ _ pointUnder pointStood]
 have hf:(Tryz.prog.fieldsOf 31).toList=[(Tryz.prog.fieldsOf 31)[0]!,(Tryz.prog.fieldsOf 31)[1]!]:=by kernel_rfl
 have t0:((Tryz.prog.fieldsOf 31)[0]!).type=29:=by kernel_rfl
 have t1:((Tryz.prog.fieldsOf 31)[1]!).type=29:=by kernel_rfl
 have o0:((Tryz.prog.fieldsOf 31)[0]!).offset=0:=by kernel_rfl
 have o1:((Tryz.prog.fieldsOf 31)[1]!).offset=1:=by kernel_rfl
 have n0 : ((Tryz.prog.fieldsOf 31)[0]!).name ≠ "_" := of_decide_eq_true (by kernel_rfl)
 have n1 : ((Tryz.prog.fieldsOf 31)[1]!).name ≠ "_" := of_decide_eq_true (by kernel_rfl)
 have hp:∀ (cs:Array Value) (i:Nat) (v:Value),cs[i]?=some v→(part 29 cs i).run Tryz.prog w=.ok v w:=by
  intro cs i v h
  unfold part
  simp only [Sem.run_bind,Tryz.isAgg29,Result.andThen_ok,Bool.false_eq_true,if_false,h,Sem.run_pure]
 rw [hf]
 simp only [Op.eqFields,if_pos n0,if_pos n1,t0,t1,o0,o1,Sem.run_bind]
 rw [hp _ 0 (.string x.1) rfl]
 simp only [Result.andThen_ok]
 rw [hp _ 0 (.string y.1) rfl]
 simp only [Result.andThen_ok]
 rw [run_equalIn_string w 9998 _ _ _ Tryz.underlying29]
 simp only [Result.andThen_ok]
 unfold partB
 cases h1:(x.1.toList == y.1.toList)
 ·simp
 ·simp only [Bool.not_true,Bool.false_eq_true,if_false,Sem.run_bind]
  rw [hp _ 1 (.string x.2) rfl]
  simp only [Result.andThen_ok]
  rw [hp _ 1 (.string y.2) rfl]
  simp only [Result.andThen_ok]
  rw [run_equalIn_string w 9998 _ _ _ Tryz.underlying29]
  simp only [Result.andThen_ok]
  cases h2:(x.2.toList == y.2.toList) <;> simp
theorem take_eq_succ {L M:List Pair} {k:Nat} (hk:k<L.length) (hk':k<M.length) (h:L.take k=M.take k) (he:L[k]=M[k]):L.take (k+1)=M.take (k+1):=by
 rw [List.take_add_one,List.take_add_one,List.getElem?_eq_getElem hk,List.getElem?_eq_getElem hk',h,he]
theorem ne_of_getElem {L M:List Pair} {k:Nat} (hk:k<L.length) (hk':k<M.length) (he:L[k]≠M[k]):L≠M:=by
 rintro rfl
 exact he rfl
structure NeqT (t:TypeId):Prop where
 neq:∀ (x y:Pair) (w:World),(binOp .neq t (.agg #[.string x.1,.string x.2]) (.agg #[.string y.1,.string y.2])).run Tryz.prog w=.ok (.bool (!decide (x=y))) w
 guard:∀ (op:BinOp) (a b:Operand) (xs ys:Array Value) (w:World),(eqGuard op t a b (.agg xs) (.agg ys)).run Tryz.prog w=.ok () w
def EqLoop (L M:List Pair) (k:Nat):Prop:=k≤L.length∧L.take k=M.take k
theorem pointNeq:NeqT 31:=⟨fun x y w=>by rw [neqPoint,partB_iff],fun op a b xs ys w=>neqGuardP op a b xs ys w⟩
theorem r9_equal (hT:NeqT 31) (v u:Value) (L M:List Pair) (w:World) (hv:Pairs w v L) (hu:Pairs w u M) :
  Calls Tryz.prog 17 #[v,u] w fun e w'=>e=.returned (.bool (decide (L=M)))∧Below w.heap.size w w':=by
 obtain ⟨p,c,rfl,hc,hm,hx⟩:=hv
 obtain ⟨p',c',rfl,hc',hm',hx'⟩:=hu
 have hmx:L.length≤9223372036854775807:=by unfold maxLen at hm;omega
 by_cases hlen:L.length=M.length
 ·rw [←hlen] at hc' ⊢
  have hst:EqLoop L M 0:=⟨Nat.zero_le _,by simp⟩
  have HLEN:=hid hlen
  have hbw:=Below.refl w.heap.size w
  have hguard:=hT.guard
  clear hlen
  go_enter Tryz.func17,Tryz.ntmps17
  go_wp2_with fail
  go_loopw [5,4] (fun iv rv wr=>∃ k:Nat,EqLoop L M k∧iv=.int .i64 (k:Int)∧rv=.bool false∧Below w.heap.size w wr) (fun iv _ _=>L.length-(intOf iv).toNat)
  case atStart=>exact ⟨0,hst,rfl,rfl,hbw⟩
  case round =>
   obtain ⟨k,hst,rfl,rfl,hbr⟩:=hrel
   by_cases hk:k<L.length
   ·obtain ⟨b,off,rfl,hbl,hcell⟩:=hx (by omega)
    obtain ⟨b',off',rfl,hbl',hcell'⟩:=hx' (by rw [←HLEN.out];omega)
    have hkM:k<M.length:=by rw [←HLEN.out];exact hk
    obtain ⟨c0,c1⟩:=hcell k hk
    obtain ⟨d0,d1⟩:=hcell' k hkM
    rw [←hbr.cell (p:=⟨b,off+k*2,none⟩) hbl] at c0
    rw [←hbr.cell (p:=⟨b,off+k*2+1,none⟩) hbl] at c1
    rw [←hbr.cell (p:=⟨b',off'+k*2,none⟩) hbl'] at d0
    rw [←hbr.cell (p:=⟨b',off'+k*2+1,none⟩) hbl'] at d1
    have hkn:decide ((k:Int)<(L.length:Int))=true:=decide_eq_true (by omega)
    have i1:(0:Int)≤(k:Int):=by omega
    have i2:(k:Int)<(L.length:Int):=by omega
    have HST:=hid hst
    have hneq:=hT.neq L[k] M[k]
    by_cases he:L[k]=M[k]
    ·have hF:EqLoop L M (k+1):=⟨hk,take_eq_succ hk hkM hst.2 he⟩
     have HF:=hid hF
     rw [decide_eq_true he] at hneq
     clear hF he hst
     go_wp2_with fail
     go_quiet (fail)
     go_wp2
     refine ⟨⟨k+1,HF.out,int_succ k,rfl,hbr.trans ((below_drewN wr _).mono hbr.size)⟩,?_⟩
     show L.length-((k:Int)+1).toNat<L.length-((k:Int)).toNat
     omega
    ·have HF:=hid (show decide (L=M)=false from decide_eq_false (ne_of_getElem hk hkM he))
     rw [decide_eq_false he] at hneq
     clear he hst
     go_wp2_with fail
     go_quiet (fail)
     go_wp2
     go_ret
     exact ⟨ret_bool HF.out.symm,hbr.trans ((below_drewN wr _).mono hbr.size)⟩
   ·have hkn:decide ((k:Int)<(L.length:Int))=false:=decide_eq_false (by omega)
    obtain rfl:k=L.length:=by have:=hst.1;omega
    have HF:=hid (show decide (L=M)=true from decide_eq_true (by
     have:=hst.2
     rw [List.take_length,HLEN.out,List.take_length] at this
     exact this))
    clear hst
    go_wp2
    go_ret
    exact ⟨ret_bool HF.out.symm,hbr⟩
 ·have HF:=hid (show decide (L=M)=false from decide_eq_false (fun h=>hlen (by rw [h])))
  have e1:((L.length:Int) != (M.length:Int))=true:=by simpa using (fun h=>hlen (by omega):¬ (L.length:Int)=(M.length:Int))
  have e2:((L.length:Int) == (M.length:Int))=false:=by simpa using (fun h=>hlen (by omega):¬ (L.length:Int)=(M.length:Int))
  clear hx hx'
  generalize L.length=n at hc e1 e2 hlen ⊢
  generalize M.length=m at hc' e1 e2 hlen ⊢
  clear hlen
  go_enter Tryz.func17,Tryz.ntmps17
  go_wp2
  go_ret
  exact ⟨ret_bool HF.out.symm,Below.refl _ _⟩
noncomputable def okS (s:ByteArray):Bool:=ratB s.data.toList
theorem k_checkS (s:ByteArray) (hs:s.size≤4000000000) (w:World) (hw:Good w):Calls Tryz.prog 73 #[.string s] w (RV (.int .i64 (if okS s then 0 else 2)) w):=
 rational_Check s hs w hw
def Strs (w:World) (v:Value) (C:List ByteArray):Prop:=∃ b c,v=.slice (some ⟨b,0,none⟩) C.length c∧C.length≤c∧c≤maxLen∧b<w.heap.size∧∀ i (h:i<C.length),w.cell? ⟨b,i,none⟩=some (.string C[i])
theorem strs_two (a b:ByteArray) (w:World):Strs (w.alloc (Obj.cells #[.string a,.string b] 29)) (.slice (some ⟨w.heap.size,0,none⟩) 2 2) [a,b]:=by
 refine ⟨_,_,rfl,Nat.le_refl _,by decide,by simp,fun i hi=>?_⟩
 match i,hi with
 | 0,_=>exact alloc_cells w #[_,_] _ 0 (by simp)
 | 1,_=>exact alloc_cells w #[_,_] _ 1 (by simp)
theorem all_take_succ {C:List ByteArray} {k:Nat} (hk:k<C.length):(C.take (k+1)).all okS=((C.take k).all okS && okS C[k]):=by
 rw [List.take_succ_eq_append_getElem hk,List.all_append];simp
theorem all_of_false {C:List ByteArray} {k:Nat} (hk:k<C.length) (h:okS C[k]=false):C.all okS=false:=by
 rw [List.all_eq_false];exact ⟨C[k],List.getElem_mem hk,by rw [h];decide⟩
theorem vec_numbersS (v:Value) (C:List ByteArray) (hC:∀ c∈C,c.size≤4000000) (w:World) (hw:Good w) (hv:Strs w v C) (hl:C.length≤1000) :
  Calls Tryz.prog 102 #[v] w (RV (.int .i64 (if C.all okS then 0 else 2)) w):=by
 obtain ⟨b,c,rfl,hcn,hcm,hbl,hcell⟩:=hv
 have HCK:=hid (fun i (h:i<C.length) w' (hg:Good w')=>k_checkS C[i] (Nat.le_trans (hC _ (List.getElem_mem h)) (by decide)) w' hg)
 unfold RV at HCK
 have hbw:=Below.refl w.heap.size w
 obtain ⟨R,hR⟩ : ∃ R:Int,R=(if C.all okS=true then 0 else 2):=⟨_,rfl⟩
 rw [←hR]
 have HRR:=hid hR
 clear hC hR
 go_enter Tryz.func102,Tryz.ntmps102
 go_wp2_with fail
 go_loopw [2,4,5,8] (fun rv _ _ iv wr=>∃ k:Nat,k≤C.length∧rv=.int .i64 0∧iv=.int .i64 (k:Int)∧(C.take k).all okS=true∧Below w.heap.size w wr) (fun _ _ _ iv _=>C.length-(intOf iv).toNat)
 case atStart=>exact ⟨0,Nat.zero_le _,rfl,rfl,rfl,hbw⟩
 case round =>
  obtain ⟨k,hkl,rfl,rfl,hA,hbr⟩:=hrel
  have HA:=hid hA
  clear hA
  by_cases hk:k<C.length
  ·have c0:=hcell k hk
   rw [←hbr.cell (p:=⟨b,k,none⟩) hbl] at c0
   have hkn:decide ((k:Int)<(C.length:Int))=true:=decide_eq_true (by omega)
   have i1:(0:Int)≤(k:Int):=by omega
   have i2:(k:Int)<(C.length:Int):=by omega
   have H1:=hid (HCK.out k hk)
   cases hB:okS C[k]
   ·have HR:=hid (all_of_false hk hB)
    rw [hB] at H1
    simp only [Bool.false_eq_true,if_false] at H1
    clear hB
    generalize C[k]=t at *
    go_wp2_with fail
    refine (H1.out _ (hw.below hbr)).mono ?_
    rintro e w1 ⟨rfl,hb1⟩
    go_wp2
    go_ret
    exact ⟨by rw [HRR.out,HR.out];rfl,hbr.trans (hb1.mono hbr.size)⟩
   ·have HN:=hid (show (C.take (k+1)).all okS=true by rw [all_take_succ hk,HA.out,hB];rfl)
    rw [hB] at H1
    simp only [if_true] at H1
    clear hB
    generalize C[k]=t at *
    go_wp2_with fail
    refine (H1.out _ (hw.below hbr)).mono ?_
    rintro e w1 ⟨rfl,hb1⟩
    go_wp2
    refine ⟨⟨k+1,hk,rfl,int_succ k,HN.out,hbr.trans (hb1.mono hbr.size)⟩,?_⟩
    show C.length-((k:Int)+1).toNat<C.length-((k:Int)).toNat
    omega
  ·have hkn:decide ((k:Int)<(C.length:Int))=false:=decide_eq_false (by omega)
   have HR:=hid (show C.all okS=true by have:=HA.out;rwa [List.take_of_length_le (by omega)] at this)
   go_wp2
   go_ret
   exact ⟨by rw [HRR.out,HR.out];rfl,hbr⟩
noncomputable def okPr (p:Pair):Bool:=okS p.1 && okS p.2
theorem two_all (a b:ByteArray):[a,b].all okS=okPr (a,b):=by unfold okPr;simp
theorem vec_pointS (a b:ByteArray) (ha:a.size≤4000000) (hb:b.size≤4000000) (w:World) (hw:Good w) :
  Calls Tryz.prog 52 #[.agg #[.string a,.string b]] w (RV (.int .i64 (if okPr (a,b) then 0 else 2)) w):=by
 rw [←two_all]
 have HN:=hid (fun v w' (hg:Good w') (hv:Strs w' v [a,b])=>vec_numbersS v [a,b] (by intro c hc;simp at hc;rcases hc with rfl | rfl <;> assumption) w' hg hv (by simp))
 unfold RV at HN
 generalize (if [a,b].all okS=true then (0:Int) else 2)=r at *
 clear ha hb
 go_enter Tryz.func52,Tryz.ntmps52
 go_upto_region 1 with fail
 obtain ⟨wA,hwA⟩ : ∃ wA,wA=w.alloc (Obj.cells #[.string a,.string b] 31):=⟨_,rfl⟩
 have hbA:Below w.heap.size w wA:=by rw [hwA];exact alloc_below _ _
 have x1:wA.heap[w.heap.size]?=some (.cells #[.string a,.string b] 31 (0,0)):=by rw [hwA];exact World.alloc_heap_new _ _
 rw [←hwA]
 clear hwA
 have l1:=lt_of_blk x1
 obtain ⟨a0,a1,_,_⟩:=two_cells x1
 have HS:=hid (strs_two a b wA)
 have hbB:Below w.heap.size w (wA.alloc (Obj.cells #[.string a,.string b] 29)):=hbA.trans ((alloc_below _ _).mono hbA.size)
 go_wp2_with fail
 refine (HN.out _ _ (hw.below hbB) HS.out).mono ?_
 rintro e w1 ⟨rfl,h1⟩
 have hb1:=hbB.trans (h1.mono hbB.size)
 go_wp2
 go_ret
 exact ⟨rfl,hb1⟩
theorem pg_point (a b:ByteArray) (ha:a.size≤4000000) (hb:b.size≤4000000) (w:World) (hw:Good w) :
  Calls Tryz.prog 82 #[.agg #[.string a,.string b]] w (RV (.int .i64 (if okPr (a,b) then 0 else 4)) w):=by
 have H1:=hid (fun w' (hg:Good w')=>vec_pointS a b ha hb w' hg)
 unfold RV at H1
 clear ha hb
 cases hB:okPr (a,b)
 ·rw [hB] at H1
  simp only [Bool.false_eq_true,if_false] at H1
  clear hB
  go_enter Tryz.func82,Tryz.ntmps82
  go_upto_region 1 with fail
  obtain ⟨wA,hwA⟩ : ∃ wA,wA=w.alloc (Obj.cells #[.string a,.string b] 31):=⟨_,rfl⟩
  have hbA:Below w.heap.size w wA:=by rw [hwA];exact alloc_below _ _
  have x1:wA.heap[w.heap.size]?=some (.cells #[.string a,.string b] 31 (0,0)):=by rw [hwA];exact World.alloc_heap_new _ _
  rw [←hwA]
  clear hwA
  have l1:=lt_of_blk x1
  obtain ⟨a0,a1,_,_⟩:=two_cells x1
  go_wp2_with fail
  refine (H1.out _ (hw.below hbA)).mono ?_
  rintro e w1 ⟨rfl,h1⟩
  have hb1:=hbA.trans (h1.mono hbA.size)
  go_wp2
  go_ret
  exact ⟨rfl,hb1⟩
 ·rw [hB] at H1
  simp only [if_true] at H1
  clear hB
  go_enter Tryz.func82,Tryz.ntmps82
  go_upto_region 1 with fail
  obtain ⟨wA,hwA⟩ : ∃ wA,wA=w.alloc (Obj.cells #[.string a,.string b] 31):=⟨_,rfl⟩
  have hbA:Below w.heap.size w wA:=by rw [hwA];exact alloc_below _ _
  have x1:wA.heap[w.heap.size]?=some (.cells #[.string a,.string b] 31 (0,0)):=by rw [hwA];exact World.alloc_heap_new _ _
  rw [←hwA]
  clear hwA
  have l1:=lt_of_blk x1
  obtain ⟨a0,a1,_,_⟩:=two_cells x1
  go_wp2_with fail
  refine (H1.out _ (hw.below hbA)).mono ?_
  rintro e w1 ⟨rfl,h1⟩
  have hb1:=hbA.trans (h1.mono hbA.size)
  go_wp2
  go_ret
  exact ⟨rfl,hb1⟩
theorem pg_number (a:ByteArray) (ha:a.size≤4000000) (w:World) (hw:Good w) :
  Calls Tryz.prog 77 #[.string a] w (RV (.tuple #[.string (if okS a then a else ⟨#[]⟩),.int .i64 (if okS a then 0 else 4)]) w):=by
 have H1:=hid (fun w' (hg:Good w')=>k_checkS a (Nat.le_trans ha (by decide)) w' hg)
 unfold RV at H1
 clear ha
 cases hB:okS a
 ·rw [hB] at H1
  simp only [Bool.false_eq_true,if_false] at H1
  clear hB
  go_enter Tryz.func77,Tryz.ntmps77
  go_wp2_with fail
  refine (H1.out _ hw).mono ?_
  rintro e w1 ⟨rfl,h1⟩
  go_wp2
  go_ret2
  exact ⟨rfl,h1⟩
 ·rw [hB] at H1
  simp only [if_true] at H1
  clear hB
  go_enter Tryz.func77,Tryz.ntmps77
  go_wp2_with fail
  refine (H1.out _ hw).mono ?_
  rintro e w1 ⟨rfl,h1⟩
  go_wp2
  go_ret2
  exact ⟨rfl,h1⟩
end Go.Proofs.YtgohnjdgoglcfaaGreatDoor
