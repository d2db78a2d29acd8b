import Derived.Test.YtglncfkoohgdaaaGreatDoorG64R
import Derived.Test.YtglncfkoohgdaaaGreatDoorG40R
import Derived.Lib.SliceRun
set_option maxRecDepth 100000
set_option maxHeartbeats 4000000
namespace Go.Proofs.YtglncfkoohgdaaaGreatDoor
open Go.RowKit Go.Shelf
open Go.Lib (decDigits itoa nDigits)
open Go.Lib (hid)
attribute [local go_sem] Oper.semAt_some
theorem abg {w:World} {B fi m c n cg:Nat} {q pg:Option Addr} {va vt:Value} {t1 t2 t3 t4:ByteArray} {fz:Nat × Nat} (hB:w.heap[B]?=some (.cells #[.slice pg n cg,va,vt,.string t1,.string t2,.string t3,.string t4] 37 fz)) :
  Calls Tryz.prog 91 #[.agg #[.int .i64 (fi:Int),.slice q m c],.pointer (some ⟨B,0,none⟩)] w (RV (.bool ((m:Int) != (n:Int))) w):=by
 obtain ⟨wP,bX⟩ : ∃ wP,wP=w.alloc (Obj.cells #[.int .i64 (fi:Int),.slice q m c] 79):=⟨_,rfl⟩
 have eT:Below w.heap.size w wP:=by rw [bX];exact ae _ _
 have hpq:wP.heap[w.heap.size]?=some (.cells #[.int .i64 (fi:Int),.slice q m c] 79 (0,0)):=by rw [bX];exact World.alloc_heap_new _ _
 obtain ⟨_,b1,_,_⟩:=aj hpq
 have c0:wP.cell? ⟨B,0,none⟩=some (.slice pg n cg):=by
  have:=(eT.block _ (aa hB)).trans hB
  simp [World.cell?,this]
 have RX:=hid bX
 have uH:=hid eT
 clear bX eT hpq hB
 go_enter Tryz.func91,Tryz.ntmps91
 go_upto_region 1 with fail
 rw [←RX.out]
 go_wp2
 go_ret
 exact ⟨rfl,uH.out⟩
theorem abh {w:World} {B:Nat} {v:Value} {T:List iN} {n:Nat} (hT:PR w v T) (hl:T.length≤1000) (hm:∀ x∈T,x.1.2.length≤1000)
  (hP:∀ (fi m c:Nat) q,m≤c→c≤maxLen→∀ W,Below w.heap.size w W→Calls Tryz.prog 91 #[.agg #[.int .i64 (fi:Int),.slice q m c],.pointer (some ⟨B,0,none⟩)] W (RV (.bool ((m:Int) != (n:Int))) W)) :
  Calls Tryz.prog 166 #[v,.func (.func 91) #[] #[.pointer (some ⟨B,0,none⟩)]] w fun e w'=>∃ k,k≤T.length∧(∀ x∈T.take k,x.1.2.length=n)∧(∀ x,T[k]?=some x→x.1.2.length≠n)∧e=.returned (.int .i64 (if k<T.length then (k:Int) else -1))∧Below w.heap.size w w':=by
 obtain ⟨p,c,rfl,hc,hcm⟩:=hT.slice
 have HT:=hid hT
 have HM:=hid hm
 have HP:=hid hP
 have hbw:=Below.refl w.heap.size w
 obtain ⟨N,hN⟩ : ∃ N,N=T.length:=⟨_,rfl⟩
 have HN:=hid hN
 rw [←hN] at hc hl ⊢
 unfold maxLen at hcm
 clear hT hm hP hN
 unfold RV at HP
 go_enter Tryz.func166,Tryz.ntmps166
 go_wp2_with fail
 go_loopw [8,5,4] (fun iv _ rv wr=>∃ i:Nat,i≤N∧iv=.int .i64 (i:Int)∧rv=.int .i64 0∧(∀ x∈T.take i,x.1.2.length=n)∧Below w.heap.size w wr) (fun iv _ _ _=>N-(intOf iv).toNat)
 case atStart=>exact ⟨0,Nat.zero_le _,rfl,rfl,fun x hx=>by simp at hx,hbw⟩
 case round =>
  obtain ⟨i,hin,rfl,rfl,hall,hbr⟩:=hrel
  generalize wr=wO at *
  have HA:=hid hall
  have HB:=hid hbr
  clear hall
  by_cases hi:i<N
  ·obtain ⟨⟨⟨fi,L⟩,vx⟩,hx⟩ : ∃ x,T[i]?=some x:=⟨_,List.getElem?_eq_getElem (by rw [←HN.out];exact hi)⟩
   obtain ⟨b,off,q,cq,rfl,hbl,c0,c1,hcq,IY,_⟩:=(HT.out.below hbr).at hx
   dsimp only at c0 c1 hcq IY
   have hLm:=HM.out _ (List.mem_of_getElem? hx)
   dsimp only at hLm
   have YP:=hid (fun W (hb:Below w.heap.size w W)=>HP.out fi L.length cq q hcq IY W hb)
   have HX:=hid hx
   generalize hmm:L.length=m at *
   have HMM:=hid hmm
   have g1:decide ((i:Int)<(N:Int))=true:=decide_eq_true (by omega)
   have g2:(0:Int)≤(i:Int):=by omega
   have g3:(i:Int)<(N:Int):=by omega
   have w6:IntKind.i64.wrap ((i:Int)+1)=(i:Int)+1:=IntWalk.i64_in _ (by omega)
   clear hx hmm hbr
   go_wp2_with fail
   refine (YP.out wO HB.out).mono ?_
   rintro e w2 ⟨rfl,hb2⟩
   have HB2:=hid (HB.out.trans (hb2.mono HB.out.size))
   by_cases hq:m=n
   ·have e1:((m:Int) != (n:Int))=false:=by rw [hq];simp
    have HA2:=hid (show ∀ x∈T.take (i+1),x.1.2.length=n from fun x hx=>by
     rw [List.take_add_one,HX.out] at hx
     rcases List.mem_append.1 hx with hx | hx
     ·exact HA.out x hx
     ·rw [Option.toList_some,List.mem_singleton] at hx
      rw [hx]
      exact HMM.out.trans hq)
    clear hq hb2
    go_wp2
    refine ⟨⟨i+1,hi,aA i,rfl,HA2.out,HB2.out⟩,?_⟩
    show N-((i:Int)+1).toNat<N-((i:Int)).toNat
    omega
   ·have e1:((m:Int) != (n:Int))=true:=by simp;omega
    have HQ:=hid hq
    clear hq hb2
    go_wp2
    go_ret
    refine ⟨i,hin,HA.out,fun x hx=>?_,by rw [if_pos hi];rfl,HB2.out⟩
    rw [HX.out] at hx
    cases hx
    show L.length≠n
    rw [HMM.out]
    exact HQ.out
  ·obtain rfl:i=N:=by omega
   have g1:decide ((i:Int)<(i:Int))=false:=decide_eq_false (by omega)
   go_wp2
   go_ret
   refine ⟨i,Nat.le_refl _,HA.out,fun x hx=>?_,by rw [if_neg (by omega)];rfl,HB.out⟩
   rw [List.getElem?_eq_none (by rw [←HN.out];exact Nat.le_refl _)] at hx
   cases hx
end Go.Proofs.YtglncfkoohgdaaaGreatDoor
namespace Go.Proofs.YtglncfkoohgdaaaGreatDoor
open Go.RowKit Go.Shelf
open Go.Lib (decDigits itoa nDigits)
open Go.Lib (hid)
attribute [local go_sem] Oper.semAt_some
theorem EC {P:Program} (w:World) (t e:TypeId) (a0 a1:Value) (ht:P.underlying t=some (.slice e)) (hv:∀ w,(zeroValue e).run P w=.ok (.agg #[a0,a1]) w) (h0:a0.oneCell'=true) (h1:a1.oneCell'=true) (b o n c:Nat) (hn:0<n)
  (hc:∀ j,j<n*2→(w.cell? ⟨b,o+j,none⟩).isSome=true) (hf:∀ j,j<n*2→w.frozen? ⟨b,o+j,none⟩=false) :
  ∃ L,∀ ty,(Builtin.clear_ #[t] ty #[.slice (some ⟨b,o,none⟩) n c]).run P w=.ok (.tuple #[]) (w.setCells b o L):=by
 refine ⟨(Builtin.zeroCells #[a0,a1] n).toList,fun ty=>?_⟩
 have hlen:(Builtin.zeroCells #[a0,a1] n).toList.length=n*2:=by simp [Builtin.zeroCells]
 have hone:∀ v∈(Builtin.zeroCells #[a0,a1] n).toList,v.oneCell'=true:=fun v hm=>by
  simp only [Builtin.zeroCells,Array.toList_map,List.mem_map] at hm
  obtain ⟨i,_,rfl⟩:=hm
  rcases Nat.mod_two_eq_zero_or_one i with h | h
  ·rw [show i % (#[a0,a1]:Array Value).size=0 from h];exact h0
  ·rw [show i % (#[a0,a1]:Array Value).size=1 from h];exact h1
 have hst:=run_storeCells_cells (P:=P) b o (Builtin.zeroCells #[a0,a1] n).toList 0 w (by rw [hlen];simpa using hc) (by rw [hlen];simpa using hf) hone
 simp only [Nat.add_zero] at hst
 obtain ⟨m,rfl⟩ : ∃ m,n=m+1:=⟨n-1,by omega⟩
 simp [Builtin.clear_,run_underlying ht,hv,Value.cells,hst]
theorem Lj {base g N:Nat} {v:Value} {T:List iN} (hv:v.ownBlock=some g) (hg:base≤g) (a:Nat):∀ (L:List Value) (o:Nat) (W w0:World) (xs:List Value),a≤o→W.ownsRow base 79 2 v N xs→(∀ x∈T,W.ownsRow base 3 1 x.2 x.1.2.length (mq x.1.2))→Below base w0 W →
  ∃ xs',(W.setCells g o L).ownsRow base 79 2 v N xs'∧xs'.take a=xs.take a∧(∀ x∈T,(W.setCells g o L).ownsRow base 3 1 x.2 x.1.2.length (mq x.1.2))∧Below base w0 (W.setCells g o L)
 | [],_,_,_,xs,_,h,hT,hb=>⟨xs,h,rfl,hT,hb⟩
 | u :: L,o,W,w0,xs,ho,h,hT,hb=>by
  obtain ⟨xs',h1,h2,h3,h4⟩:=Lj hv hg a L (o+1) (W.setCell ⟨g,o,none⟩ u) w0 (xs.set o u) (by omega) (A7 h hv) (fun x hx=>by
   refine (hT x hx).kept (bK _ _ _ u) ?_
   have:=dn (hT x hx) h (by decide)
   rw [hv] at this
   exact this) (hb.setCell (p:=⟨g,o,none⟩) hg u)
  exact ⟨xs',h1,by rw [h2,List.take_set_of_le ho],h3,h4⟩
theorem abj (T:List iN):(gp T).length=T.length*2:=by
 induction T with
 | nil=>rfl
 | cons p r ih=>unfold gp at *; rw [List.flatMap_cons,List.length_append,ih,List.length_cons];simp;omega
theorem Gv:∀ (C:List iN) (i:Nat),gp (C.take i)=(gp C).take (i*2)
 | [],i=>by simp [gp]
 | q :: r,0=>by simp [gp]
 | q :: r,i+1=>by
  have:=Gv r i
  rw [show (i+1)*2=i*2+1+1 by omega]
  show [Value.int .i64 (q.1.1:Int),q.2]++gp (r.take i)=_
  rw [this]
  rfl
theorem Ll:∀ (T:List iN) (a:Nat) (x:iN),a<T.length→gp (T.set a x)=((gp T).set (a*2) (.int .i64 (x.1.1:Int))).set (a*2+1) x.2
 | [],_,_,h=>absurd h (Nat.not_lt_zero _)
 | q :: r,0,x,h=>rfl
 | q :: r,a+1,x,h=>by
  have:=Ll r a x (by simpa using h)
  rw [show (a+1)*2+1=a*2+1+1+1 by omega,show (a+1)*2=a*2+1+1 by omega]
  show [Value.int .i64 (q.1.1:Int),q.2]++gp (r.set a x)=_
  rw [this]
  rfl
theorem abk {W:World} {base N a g cap:Nat} {e:TypeId} {s:Nat} {xs:List Value} (h:W.ownsRow base e s (.slice (some ⟨g,0,none⟩) N cap) N xs) (ha:a≤N):W.ownsRow base e s (.slice (some ⟨g,0,none⟩) a cap) a (xs.take (a*s)):=by
 obtain ⟨hl,h⟩:=h
 have h2:a*s≤N*s:=Nat.mul_le_mul_right _ ha
 refine ⟨by rw [List.length_take,hl];omega,?_⟩
 rcases h with ⟨h,_⟩ | ⟨g',cap',cur,hv,h1,hb,h3,h4,h5,h6⟩
 ·cases h
 ·cases hv
  exact .inr ⟨g,cap,cur,rfl,h1,hb,by omega,h4,h5,by rw [←h6,List.take_take,Nat.min_eq_left h2]⟩
theorem zu {W:World} {base N g cap:Nat} {e:TypeId} {s:Nat} {xs:List Value} (h:W.ownsRow base e s (.slice (some ⟨g,0,none⟩) N cap) N xs):g<W.heap.size∧(∀ j,W.frozen? ⟨g,j,none⟩=false)∧∀ j (hj:j<xs.length),W.cell? ⟨g,j,none⟩=some xs[j]:=by
 obtain ⟨hl,h⟩:=h
 rcases h with ⟨h,_⟩ | ⟨g',cap',cur,hv,h1,hb,h3,h4,h5,h6⟩
 ·cases h
 ·cases hv
  refine ⟨aa hb,fun j=>by simp [World.frozen?,hb],fun j hj=>?_⟩
  have hz:cur.toList[j]?=some xs[j]:=by
   have h7:(cur.toList.take (N*s))[j]?=some xs[j]:=by rw [h6];exact List.getElem?_eq_getElem hj
   rw [List.getElem?_take] at h7
   split at h7
   ·exact h7
   ·cases h7
  rw [Array.getElem?_toList] at hz
  simp only [World.cell?,hb]
  exact hz
structure YF (base n N:Nat) (v:Value) (T:List iN) (w0 W:World) (i j:Nat) (C:List iN):Prop where
 len:C.length=N
 lt:i<j
 hd:C.take i=(T.take j).filter fun x=>decide (x.1.2.length=n)
 tl:C.drop j=T.drop j
 row:W.ownsRow base 79 2 v N (gp C)
 own:∀ x∈T,W.ownsRow base 3 1 x.2 x.1.2.length (mq x.1.2)
 low:Below base w0 W
theorem YF.below {base n N:Nat} {v:Value} {T:List iN} {w0 W W':World} {i j:Nat} {C:List iN} (h:YF base n N v T w0 W i j C) (hb:Below W.heap.size W W') (hB:base≤W.heap.size):YF base n N v T w0 W' i j C:=
 ⟨h.len,h.lt,h.hd,h.tl,di h.row hb,fun x hx=>di (h.own x hx) hb,h.low.trans (hb.mono hB)⟩
theorem YF.skip {base n N:Nat} {v:Value} {T:List iN} {w0 W:World} {i j:Nat} {C:List iN} {x:iN} (h:YF base n N v T w0 W i j C) (hx:T[j]?=some x) (hq:x.1.2.length≠n):YF base n N v T w0 W i (j+1) C:=by
 refine ⟨h.len,Nat.lt_succ_of_lt h.lt,?_,?_,h.row,h.own,h.low⟩
 ·rw [List.take_add_one,hx,List.filter_append,←h.hd]
  simp [hq]
 ·rw [←List.drop_drop,h.tl,List.drop_drop]
theorem YF.push {base n N g:Nat} {v:Value} {T:List iN} {w0 W:World} {i j:Nat} {C:List iN} {x:iN} (h:YF base n N v T w0 W i j C) (hx:T[j]?=some x) (hj:j<N) (hq:x.1.2.length=n) (hv:v.ownBlock=some g) (hg:base≤g) :
  YF base n N v T w0 ((W.setCell ⟨g,i*2,none⟩ (.int .i64 (x.1.1:Int))).setCell ⟨g,i*2+1,none⟩ x.2) (i+1) (j+1) (C.set i x):=by
 have hi:=h.lt
 have hlen:=h.len
 have hk:∀ {W:World} {u:Value} {k m:Nat} {a:Value} {xs ys:List Value},W.ownsRow base 79 2 v N xs→W.ownsRow base 3 1 a m ys→(W.setCell ⟨g,k,none⟩ u).ownsRow base 3 1 a m ys:=fun {W u k m a xs ys} hr ho=>by
  refine ho.kept (bK _ _ _ u) ?_
  have:=dn ho hr (by decide)
  rw [hv] at this
  exact this
 have hr1:=A7 (j:=i*2) (u:=.int .i64 (x.1.1:Int)) h.row hv
 have hr2:=A7 (j:=i*2+1) (u:=x.2) hr1 hv
 refine ⟨by rw [List.length_set];exact hlen,by omega,?_,?_,?_,fun y hy=>hk hr1 (hk h.row (h.own y hy)),(h.low.setCell (p:=⟨g,_,none⟩) hg _).setCell (p:=⟨g,_,none⟩) hg _⟩
 ·rw [List.take_add_one,List.take_set_of_le (Nat.le_refl _),List.getElem?_set_self (by omega),List.take_add_one,hx,List.filter_append,←h.hd]
  simp [hq]
 ·rw [List.drop_set_of_lt (by omega),←List.drop_drop,h.tl,List.drop_drop]
 ·rw [Ll _ _ _ (by omega)]
  exact hr2
theorem abl {w:World} {base B:Nat} {v:Value} {T:List iN} {n:Nat} (hT:IW base w v T) (hbs:base≤w.heap.size) (hl:T.length≤1000) (hm:∀ x∈T,x.1.2.length≤1000)
  (hP:∀ (fi m c:Nat) q,m≤c→c≤maxLen→∀ W,Below base w W→Calls Tryz.prog 91 #[.agg #[.int .i64 (fi:Int),.slice q m c],.pointer (some ⟨B,0,none⟩)] W (RV (.bool ((m:Int) != (n:Int))) W)) :
  Calls Tryz.prog 90 #[v,.func (.func 91) #[] #[.pointer (some ⟨B,0,none⟩)]] w fun e w'=>∃ v',e=.returned v'∧IW base w' v' (T.filter fun x=>decide (x.1.2.length=n))∧Below base w w':=by
 have HIX:=hid (abh (B:=B) (n:=n) hT.reads hl hm (fun fi m c q h1 h2 W hb=>hP fi m c q h1 h2 W (hb.mono hbs)))
 obtain ⟨p,c,rfl,hc,hcm⟩:=hT.reads.slice
 have HT:=hid hT
 have HM:=hid hm
 have HP:=hid hP
 have qE:=hid hbs
 obtain ⟨N,hN⟩ : ∃ N,N=T.length:=⟨_,rfl⟩
 have HN:=hid hN
 rw [←hN] at hc hl HIX ⊢
 unfold maxLen at hcm
 clear hT hm hP hN hbs
 unfold RV at HP
 go_enter Tryz.func90,Tryz.ntmps90
 go_wp2_with fail
 refine HIX.out.mono ?_
 rintro e w1 ⟨k,hk,hall,hstop,rfl,hb1⟩
 have HA:=hid hall
 have HS:=hid hstop
 have HB1:=hid hb1
 clear hall hstop hb1 HIX
 by_cases hkN:k<N
 ·rw [if_pos hkN]
  have e1:((k:Int) == (-1:Int))=false:=beq_eq_false_iff_ne.2 (by omega)
  have w5:IntKind.i64.wrap ((k:Int)+1)=(k:Int)+1:=IntWalk.i64_in _ (by omega)
  obtain ⟨g,rfl,hg⟩ : ∃ g,p=some ⟨g,0,none⟩∧base≤g:=by
   rcases HT.out.row.2 with ⟨h,_⟩ | ⟨g,cap,cur,h,hg,_⟩
   ·injection h with _ h0 _
    have:=HN.out
    omega
   ·injection h with h1
    exact ⟨g,h1,hg⟩
  have HST:=hid (show YF base n N (.slice (some ⟨g,0,none⟩) N c) T w w1 k (k+1) T by
   refine ⟨HN.out.symm,Nat.lt_succ_self _,?_,rfl,?_,fun x hx=>di (HT.out.own x hx) HB1.out,HB1.out.mono qE.out⟩
   ·obtain ⟨x,hx⟩ : ∃ x,T[k]?=some x:=⟨_,List.getElem?_eq_getElem (by rw [←HN.out];exact hkN)⟩
    rw [List.take_add_one,hx,List.filter_append,List.filter_eq_self.2 fun y hy=>decide_eq_true (HA.out y hy)]
    simp [HS.out x hx]
   ·have:=di HT.out.row HB1.out
    rw [←HN.out] at this
    exact this)
  go_wp2_with fail
  go_loopw [5,6,7] (fun iv jv _ wr=>∃ (i j:Nat) (C:List iN),iv=.int .i64 (i:Int)∧jv=.int .i64 (j:Int)∧j≤N∧YF base n N (.slice (some ⟨g,0,none⟩) N c) T w wr i j C) (fun _ jv _ _=>N-(intOf jv).toNat)
  case atStart=>exact ⟨k,k+1,T,rfl,aA k,hkN,HST.out⟩
  case round =>
   clear HST w5 e1
   obtain ⟨i,j,C,rfl,rfl,hjN,hI⟩:=hrel
   generalize wr=wO at *
   have HI:=hid hI
   obtain ⟨hgl,_,hce⟩:=zu hI.row
   have hij:=hI.lt
   have hCl:=hI.len
   have hbc:(gp C).length=N*2:=by rw [abj,hCl]
   clear hI
   by_cases hj:j<N
   ·obtain ⟨⟨⟨fi,L⟩,vx⟩,hx⟩ : ∃ x,T[j]?=some x:=⟨_,List.getElem?_eq_getElem (by rw [←HN.out];exact hj)⟩
    have hxC:C[j]?=some ((fi,L),vx):=by
     have:=congrArg (fun l=>l[0]?) HI.out.tl
     simp only [List.getElem?_drop,Nat.add_zero] at this
     rw [this,hx]
    obtain ⟨_,q,cq,hvx,hcq,IY,_⟩:=Reads.bu (HT.out.own _ (List.mem_of_getElem? hx))
    dsimp only at hvx hcq
    subst hvx
    have hLm:=HM.out _ (List.mem_of_getElem? hx)
    dsimp only at hLm
    obtain ⟨g0,g1⟩:=oN C j _ hxC
    obtain ⟨l0,g0⟩:=List.getElem?_eq_some_iff.1 g0
    obtain ⟨l1,g1⟩:=List.getElem?_eq_some_iff.1 g1
    have c0:=(hce _ l0).trans (congrArg some g0)
    have c1:=(hce _ l1).trans (congrArg some g1)
    dsimp only at c0 c1
    have YP:=hid (fun W (hb:Below base w W)=>HP.out fi L.length cq q hcq IY W hb)
    have HX:=hid hx
    have hgg:=decide_eq_true (p:=(j:Int)<(N:Int)) (by omega)
    have i1:(0:Int)≤(j:Int):=by omega
    have i2:(j:Int)<(N:Int):=by omega
    have i3:(0:Int)≤(i:Int):=by omega
    have i4:(i:Int)<(N:Int):=by omega
    have w5:IntKind.i64.wrap ((i:Int)+1)=(i:Int)+1:=IntWalk.i64_in _ (by omega)
    have w6:IntKind.i64.wrap ((j:Int)+1)=(j:Int)+1:=IntWalk.i64_in _ (by omega)
    clear hx hxC hce l0 l1 g0 g1
    go_upto_region 8 with fail
    obtain ⟨wB,iy⟩ : ∃ q',q'=wO.alloc (Obj.cells #[.int .i64 (fi:Int),.slice q L.length cq] 79):=⟨_,rfl⟩
    have il:Below wO.heap.size wO wB:=by rw [iy];exact ae _ _
    have Ry:wB.heap[wO.heap.size]?=some (.cells #[.int .i64 (fi:Int),.slice q L.length cq] 79 (0,0)):=by rw [iy];exact World.alloc_heap_new _ _
    rw [←iy]
    obtain ⟨b0,b1,_,_⟩:=aj Ry
    have HOB:=hid Ry
    have dY:=hid il
    have gU:base≤wO.heap.size:=Nat.le_trans hg (Nat.le_of_lt hgl)
    have uE:=hid gU
    clear iy il Ry c0 c1
    go_wp2_with fail
    refine (YP.out wB (HI.out.low.trans (dY.out.mono gU))).mono ?_
    rintro e w2 ⟨rfl,hb2⟩
    have hb3:=dY.out.trans (hb2.mono dY.out.size)
    have HI2:=hid (HI.out.below hb3 uE.out)
    have ho2:=(hb2.block _ (aa HOB.out)).trans HOB.out
    clear b0 b1
    obtain ⟨b0,b1,_,_⟩:=aj ho2
    by_cases hq:L.length=n
    ·have e1:((L.length:Int) != (n:Int))=false:=by rw [hq];simp
     obtain ⟨hg2,adB,adC⟩:=zu HI2.out.row
     have d0:=adC (i*2) (by omega)
     have d1:=adC (i*2+1) (by omega)
     have f0:=adB (i*2)
     have f1:=adB (i*2+1)
     have Mj:=hid (HI2.out.push HX.out hj hq rfl hg)
     clear hq hb2 hb3 ho2 adB adC
     go_wp2
     refine ⟨⟨i+1,j+1,C.set i ((fi,L),.slice q L.length cq),aA i,aA j,hj,Mj.out⟩,?_⟩
     show N-((j:Int)+1).toNat<N-((j:Int)).toNat
     omega
    ·have e1:((L.length:Int) != (n:Int))=true:=by simp;omega
     have Mj:=hid (HI2.out.skip HX.out hq)
     clear hq hb2 hb3 ho2
     go_wp2
     refine ⟨⟨i,j+1,C,rfl,aA j,hj,Mj.out⟩,?_⟩
     show N-((j:Int)+1).toNat<N-((j:Int)).toNat
     omega
   ·obtain rfl:j=N:=by omega
    have hgg:decide ((j:Int)<(j:Int))=false:=decide_eq_false (by omega)
    have i3:(0:Int)≤(i:Int):=by omega
    have i4:(i:Int)≤(c:Int):=by omega
    have i5:(i:Int)≤(j:Int):=by omega
    obtain ⟨_,hfz,_⟩:=zu HI.out.row
    obtain ⟨ib,hib,hy0,_,_⟩:=info_parts xV.info
    have hzv:∀ w,(zeroValue 79).run Tryz.prog w=.ok (.agg #[.int .i64 0,.slice none 0 0]) w:=fun w=>by simp [zeroValue,typeInfo,hib,hy0]
    obtain ⟨L,hcl⟩:=EC (P:=Tryz.prog) wO 74 79 (.int .i64 0) (.slice none 0 0) xV.ht hzv rfl rfl g (i*2) (j-i) (c-i) (by omega) (fun t ht=>by rw [hce _ (by omega)];rfl) (fun t _=>hfz _)
    obtain ⟨xs',h1,h2,h3,h4⟩:=Lj (v:=.slice (some ⟨g,0,none⟩) j c) rfl hg (i*2) L (i*2) wO w _ (Nat.le_refl _) HI.out.row HI.out.own HI.out.low
    generalize wO.setCells g (i*2) L=wC at *
    have hcut:=abk h1 (Nat.le_of_lt hij)
    have hfl:gp (T.filter fun x=>decide (x.1.2.length=n))=(gp C).take (i*2):=by
     have hh:=HI.out.hd
     rw [HN.out,List.take_length] at hh
     rw [←hh]
     exact Gv C i
    have hfn:(T.filter fun x=>decide (x.1.2.length=n)).length=i:=by
     have hh:=HI.out.hd
     rw [HN.out,List.take_length] at hh
     rw [←hh,List.length_take]
     omega
    rw [h2,←hfl] at hcut
    have yw:=hid hcut
    have HOWN:=hid h3
    have QD:=hid h4
    clear hce hfz hcut h1 h2 h3 h4 hfl hib hy0 hzv
    go_wp2
    go_ret
    refine ⟨_,rfl,⟨?_,fun x hx=>HOWN.out x ((List.mem_filter.1 hx).1)⟩,QD.out⟩
    rw [hfn]
    exact yw.out
 ·rw [if_neg hkN]
  go_wp2
  go_ret
  have hkk:k=T.length:=by have:=HN.out;omega
  have hf:(T.filter fun x=>decide (x.1.2.length=n))=T:=List.filter_eq_self.2 fun x hx=>decide_eq_true (HA.out x (by rw [hkk,List.take_length];exact hx))
  refine ⟨_,rfl,?_,HB1.out.mono qE.out⟩
  rw [hf]
  have:=HT.out.below HB1.out
  rw [HN.out]
  exact this
end Go.Proofs.YtglncfkoohgdaaaGreatDoor
namespace Go.Proofs.YtglncfkoohgdaaaGreatDoor
open Go.RowKit Go.Shelf
open Go.Lib (decDigits itoa nDigits)
open Go.Lib (hid)
attribute [local go_sem] Oper.semAt_some
theorem DW {P:bQ} (hO:dm P):(uN P).length≤1000∧∀ b∈uN P,b.2.length≤1000:=by
 have h2:=hO.n2
 have h20:=hO.n20
 have hk:=(hO.log (P.lg.length-1) (by omega)).2
 have h:=(DI hO (P.lg.length-1) (by omega)).vO (k:=P.lg.length-1) (ai P (P.lg.length-1)).length
 exact ⟨Nat.le_trans h.len (by omega),fun b hb=>Nat.le_trans (h.each b hb).2 (by omega)⟩
theorem AZ.toW {base:Nat} {W:World} {v:Value} {T:List iN} (h:AZ base W v T):IW base W v T:=⟨h.row,h.own⟩
theorem NS {w:World} (vg va vt:Value) (P:bQ) (hO:dm P) (hP:l9 w vg va vt P) (hw:Good w) :
  Calls Tryz.prog 32 #[iX vg va vt P.cs] w fun e w'=>∃ v T,e=.returned (.tuple #[v,.int .i64 0])∧T.map (·.1)=(uN P).filter (fun b=>decide (b.2.length=P.lg.length))∧IW w.heap.size w' v T∧Below w.heap.size w w':=by
 have je:=hid (fun W' (hb:Below w.heap.size w W')=>IG vg va vt P hO (hP.below hb) (hw.below hb))
 obtain ⟨hbl,hbe⟩:=DW hO
 have HBL:=hid hbl
 have xI:=hid hbe
 obtain ⟨pg,cg,rfl,hcg,jK⟩:=hP.g.slice
 obtain ⟨pa,ca,rfl,ET,ma⟩:=hP.a.slice
 obtain ⟨oQ,ct,rfl,hct,mf⟩:=hP.t.slice
 obtain ⟨n,hn⟩ : ∃ q,q=P.lg.length:=⟨_,rfl⟩
 have HN:=hid hn
 unfold iX at *
 clear hP hO hw hbl hbe
 rw [←hn] at hcg
 rw [←hn] at je ⊢
 generalize tx P.cs.ch=t1 at *
 generalize tx P.cs.mi=t2 at *
 generalize tx P.cs.ga=t3 at *
 generalize tx P.cs.re=t4 at *
 generalize (P.xs.map tx).length=na at *
 generalize (P.tp.map tx).length=nt at *
 obtain ⟨wP,bX⟩ : ∃ wP,wP=w.alloc (Obj.cells #[.slice pg n cg,.slice pa na ca,.slice oQ nt ct,.string t1,.string t2,.string t3,.string t4] 37):=⟨_,rfl⟩
 have eT:Below w.heap.size w wP:=by rw [bX];exact ae _ _
 have hpq:wP.heap[w.heap.size]?=some (.cells #[.slice pg n cg,.slice pa na ca,.slice oQ nt ct,.string t1,.string t2,.string t3,.string t4] 37 (0,0)):=by rw [bX];exact World.alloc_heap_new _ _
 have RX:=hid bX
 have uH:=hid eT
 have mG:=hid hpq
 obtain ⟨p0,p1,p2,p3,p4,p5,p6⟩:=au hpq
 clear bX eT hpq hn
 go_enter Tryz.func32,Tryz.ntmps32
 go_upto_region 1 with fail
 rw [←RX.out]
 go_wp2_with fail
 refine (je.out wP uH.out).mono ?_
 rintro e w1 ⟨v,T,rfl,hT,hV,hb1⟩
 have HT:=hid hT
 have HB1:=hid hb1
 have HDF:=hid (abl (B:=w.heap.size) (n:=n) hV.toW hb1.size (by rw [←List.length_map (f:=(·.1)),hT];exact HBL.out) (fun x hx=>xI.out x.1 (by rw [←hT];exact List.mem_map_of_mem hx)) (fun fi m c q h1 h2 W hb=>abg (((HB1.out.trans hb).block _ (aa mG.out)).trans mG.out)))
 clear p0 p1 p2 p3 p4 p5 p6 hT hV hb1
 go_wp2_with fail
 refine HDF.out.mono ?_
 rintro e w2 ⟨v2,rfl,hV2,hb2⟩
 have HV2:=hid hV2
 have HB2:=hid hb2
 clear hV2 hb2
 go_wp2
 refine bodyPost_ret (v:=.tuple #[v2,.int .i64 0]) (by simp [results,Tryz.results32,go_sem]) rfl ?_
 refine ⟨v2,_,rfl,?_,⟨nD HV2.out.row uH.out.size,fun x hx=>nD (HV2.out.own x hx) uH.out.size⟩,uH.out.trans ((HB1.out.mono uH.out.size).trans (HB2.out.mono uH.out.size))⟩
 rw [←HT.out,List.filter_map]
 rfl
end Go.Proofs.YtglncfkoohgdaaaGreatDoor
