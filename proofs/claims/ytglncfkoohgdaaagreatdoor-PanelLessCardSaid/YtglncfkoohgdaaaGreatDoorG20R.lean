import Derived.Test.YtglncfkoohgdaaaGreatDoorCmpMR
set_option maxHeartbeats 1000000
namespace Go.Proofs.YtglncfkoohgdaaaGreatDoor
open Go.RowKit Go.Shelf
open Go.Lib (decDigits itoa nDigits)
attribute [local go_sem] Oper.semAt_some
theorem aex {W wS:World} {q a b c:Obj} (h:wS=(((W.alloc q).alloc a).alloc b).alloc c):Below W.heap.size W wS∧wS.heap[W.heap.size]?=some q∧wS.heap[W.heap.size+1]?=some a∧wS.heap[W.heap.size+1+1]?=some b∧wS.heap[W.heap.size+1+1+1]?=some c:=by
 obtain ⟨h1,h2,h3,h4,h5⟩:=dW (W:=W) (q:=q) (a:=a) (b:=b) rfl
 have hb:=ae (((W.alloc q).alloc a).alloc b) c
 rw [h]
 refine ⟨h1.trans (hb.mono h1.size),(hb.block _ (lt_of_some h3)).trans h3,(hb.block _ (lt_of_some h4)).trans h4,(hb.block _ (lt_of_some h5)).trans h5,?_⟩
 rw [show W.heap.size+1+1+1=(((W.alloc q).alloc a).alloc b).heap.size from h2.symm]
 exact World.alloc_heap_new _ _
theorem at_end {n0:Nat} {W:World} {vs v:Value} {e0 e:Int} (h2:W.heap[n0]?=some (.cells #[vs] 66 (0,0))) (h3:W.heap[n0+1]?=some (.cells #[.int .i64 e0] 40 (0,0))) :
  ((W.setCell ⟨n0,0,none⟩ v).setCell ⟨n0+1,0,none⟩ (.int .i64 e)).heap[n0]?=some (.cells #[v] 66 (0,0))∧((W.setCell ⟨n0,0,none⟩ v).setCell ⟨n0+1,0,none⟩ (.int .i64 e)).heap[n0+1]?=some (.cells #[.int .i64 e] 40 (0,0)):=by
 have z1:=aK (i:=0) v h2
 have z2':=(Below.heap_setCell W ⟨n0,0,none⟩ v _ (show n0+1≠_ from Nat.succ_ne_self _)).trans h3
 exact ⟨(Below.heap_setCell (W.setCell ⟨n0,0,none⟩ v) ⟨n0+1,0,none⟩ (.int .i64 e) _ (show n0≠_ from (Nat.succ_ne_self _).symm)).trans z1,aK (i:=0) (.int .i64 e) z2'⟩
end Go.Proofs.YtglncfkoohgdaaaGreatDoor
namespace Go.Proofs.YtglncfkoohgdaaaGreatDoor
open Go.RowKit Go.Shelf
open Go.Lib (decDigits itoa nDigits)
attribute [local go_sem] Oper.semAt_some
end Go.Proofs.YtglncfkoohgdaaaGreatDoor
namespace Go.Proofs.YtglncfkoohgdaaaGreatDoor
theorem aai {P:dB} {x:Rat} (hO:dw P) (h0:¬ x<cZ P 0) (h1:¬ cZ P (P.lg.length-1)<x) (hne:∀ i,i<P.lg.length→x≠cZ P i) :
  tN P x P.lg.length+1<P.lg.length∧cZ P (tN P x P.lg.length)<x∧x<cZ P (tN P x P.lg.length+1):=by
 have hn:=hO.n2
 have e0:=hne 0 (by omega)
 obtain ⟨k1,k2,k3⟩:=F3 (P:=P) (x:=x) (by grind) P.lg.length (by omega)
 have hl:tN P x P.lg.length≠P.lg.length-1:=fun e=>h1 (by rw [←e];exact k2)
 have hk:tN P x P.lg.length+1<P.lg.length:=by omega
 have e1:=hne _ hk
 have e2:=k3 (tN P x P.lg.length+1) (by omega) hk
 exact ⟨hk,k2,by grind⟩
open Go.RowKit Go.Shelf
def rO:Go.Shelf.Ren:=⟨fun | 41=>70 | n=>n,fun | 22=>66 | 23=>89 | 4=>4 | n=>n,fun | n=>n⟩
theorem Pm:Go.Proofs.SlLaysE0.n41 Tryz.prog rO:={
 mixed:=by kernel_rfl,
 f41:=⟨Tryz.f70.name,by decide,Tryz.func70.trans (congrArg some (by kernel_rfl))⟩,
 t4:=Tryz.underlying4,
 a4:=Tryz.isAgg4,
 z4:=Tryz.sizeOf4,
 v4:=Tryz.zeroValue4,
 t22:=Tryz.underlying66,
 a22:=Tryz.isAgg66,
 z22:=Tryz.sizeOf66,
 v22:=Tryz.zeroValue66 }
def zX (L:List Iv):List Value:=L.flatMap fun x=>[.string (us x.u),.string (tx x.a),.string (tx x.b)]
theorem Ii (L:List Iv):(zX L).length=L.length*3:=by
 induction L with
 | nil=>rfl
 | cons p r ih=>unfold zX at *; rw [List.flatMap_cons,List.length_append,ih,List.length_cons];simp;omega
theorem KU (L:List Iv) (x:Iv):zX (L ++ [x])=zX L ++ [.string (us x.u),.string (tx x.a),.string (tx x.b)]:=by unfold zX;simp
theorem Ij:∀ (L:List Iv) (i:Nat) (hi:i<L.length) (j:Nat) (hj:j<3),(zX L)[i*3+j]?=some ([Value.string (us L[i].u),.string (tx L[i].a),.string (tx L[i].b)][j])
 | [],i,hi,_,_=>by simp at hi
 | q :: r,0,_,j,hj=>by
  unfold zX
  rw [List.flatMap_cons,List.getElem?_append_left (by simp;omega)]
  simp only [Nat.zero_mul,Nat.zero_add,List.getElem_cons_zero]
  rw [List.getElem?_eq_getElem (by simpa using hj)]
 | q :: r,i+1,hi,j,hj=>by
  unfold zX
  rw [List.flatMap_cons,List.getElem?_append_right (by simp;omega)]
  have:=Ij r i (by simpa using hi) j hj
  unfold zX at this
  rw [show (i+1)*3+j - [Value.string (us q.u),.string (tx q.a),.string (tx q.b)].length=i*3+j by simp;omega]
  simpa using this
theorem Dr {L:List Iv} {i:Nat} (h:i<L.length):ah L i=L[i]:=by unfold ah;rw [List.getD_eq_getElem?_getD,List.getElem?_eq_getElem h];rfl
theorem pW {w:World} {base:Nat} {e:TypeId} {v:Value} {L:List Iv} (h:w.ownsRow base e 3 v L.length (zX L)):gq w v L:=by
 obtain ⟨_,p,c,rfl,hc,hm,hx⟩:=Reads.bO h
 refine ⟨p,c,rfl,hc,hm,fun h0=>?_⟩
 obtain ⟨b,off,hpe,hbl,hcell⟩:=hx h0
 refine ⟨b,off,hpe,hbl,fun i hi=>?_⟩
 have hl:=Ii L
 rw [Dr hi]
 have go:∀ j (hj:j<3),w.cell? ⟨b,off+(i*3+j),none⟩=some ([Value.string (us L[i].u),.string (tx L[i].a),.string (tx L[i].b)][j]):=by
  intro j hj
  have h1:=hcell (i*3+j) (by omega)
  rw [h1,←Ij L i hi j hj,List.getElem?_eq_getElem]
 exact ⟨go 0 (by decide),go 1 (by decide),go 2 (by decide)⟩
theorem nD:SliceOf 66 89 (.agg #[.string ⟨#[]⟩,.string ⟨#[]⟩,.string ⟨#[]⟩]) 3 48:=⟨Tryz.underlying66,by kernel_rfl,rfl,by decide⟩
theorem aaj (L:List Iv):∀ u∈zX L,u.oneCell'=true:=by
 intro u hu
 unfold zX at hu
 obtain ⟨x,_,hx⟩:=List.mem_flatMap.1 hu
 simp only [List.mem_cons,List.not_mem_nil,or_false] at hx
 rcases hx with rfl | rfl | rfl <;> rfl
theorem Rj (b off c:Nat) (L:List Iv) (w:World) (hlen:L.length≤1000000) (h0:0<L.length) (hv:gq w (.slice (some ⟨b,off,none⟩) L.length c) L) :
  Calls Tryz.prog 70 #[.slice (some ⟨b,off,none⟩) L.length c] w fun e w'=>∃ v,e=.returned v∧gq w' v L∧Below w.heap.size w w':=by
 obtain ⟨i0,hi,hz0,hz1,hz2⟩:=info_parts nD.info
 obtain ⟨p',c',he,_,_,hx⟩:=hv
 simp only [Value.slice.injEq] at he
 obtain ⟨rfl,_,rfl⟩:=he
 obtain ⟨b',off',hpe,hbl,hcell⟩:=hx h0
 cases hpe
 have hl:=Ii L
 have M8:=AnyE.slices_Clone (ρ:=rO) Pm i0 _ 3 48 hi hz0 hz1 hz2 nD.hzs (by decide) Tryz.sizeOf89 b off L.length c (zX L) w (by rw [Ii]) (by unfold maxLen;omega) (by omega) (fun j u hj=>by
  have hlt:j<(zX L).length:=(List.getElem?_eq_some_iff.1 hj).1
  obtain ⟨q,r,hr,rfl⟩ : ∃ q r,r<3∧j=q*3+r:=⟨j/3,j % 3,by omega,by omega⟩
  have hq:q<L.length:=by omega
  have hg:=Ij L q hq r hr
  rw [hj] at hg
  obtain ⟨m0,m1,m2⟩:=hcell q hq
  rw [Dr hq] at m0 m1 m2
  cases hg
  have:r=0∨r=1∨r=2:=by omega
  rcases this with rfl | rfl | rfl
  ·simpa [Addr.add] using m0
  ·simpa [Addr.add,Nat.add_assoc] using m1
  ·simpa [Addr.add,Nat.add_assoc] using m2) (aaj _)
 refine Calls.mono M8 ?_
 rintro e w1 ⟨v1,rfl,hown1,hne1,hb1⟩
 exact ⟨v1,rfl,pW hown1,hb1⟩
end Go.Proofs.YtglncfkoohgdaaaGreatDoor
namespace Go.Proofs.YtglncfkoohgdaaaGreatDoor
open Go.RowKit Go.Shelf Go.Sort Go.Lib
theorem NF (a:Option Addr) (c:Nat) (w:World):Calls Tryz.prog 70 #[.slice a 0 c] w fun e w'=>∃ p c',e=.returned (.slice p 0 c')∧c'≤maxLen∧Below w.heap.size w w':=by
 cases a with
 | none =>
  have hcl:=AnyE.slices_Clone_nil (ρ:=rO) Pm 0 c w
  change Calls Tryz.prog 70 _ _ _ at hcl
  exact hcl.mono fun e w' ⟨he,hw⟩=>⟨none,0,he,Nat.zero_le _,by rw [hw];exact Below.refl _ _⟩
 | some a =>
  have q22:∀ w,(binOp .eql 66 (.slice (some a) 0 c) (.slice none 0 0)).run Tryz.prog w=.ok (.bool false) w:=fun w=>Lib.run_eql_slice_nil w _ _ (some a) 0 c 0 0 Tryz.underlying66
  obtain ⟨i0,hi,hz0,hz1,hz2⟩:=info_parts nD.info
  have hown0:=World.ownsRow_made (e:=89) (size:=3) w #[] 0 (Nat.le_refl _) (Nat.zero_le _) (by simp)
  go_enter Tryz.func70,Tryz.ntmps70
  go_wp2_with (at_builtin;refine wpList_append_own _ rfl (.tmp 5) (.tmp 6) 66 rfl w.heap.size 89 i0 (.agg #[.string ⟨#[]⟩,.string ⟨#[]⟩,.string ⟨#[]⟩]) 3 48 nD.ht hi hz0 hz1 hz2 nD.hzs nD.hsz _ _ _ rfl hown0 a 0 c [] rfl rfl (fun j u hj=>(by simp at hj)) (fun u hu=>(by cases hu)) (by decide) (by decide) (by simp) ?_;intro v' w1 hown hgrow _)
  have hb:=((Below.refl w.heap.size w).alloc (Nat.le_refl _) (Obj.cells #[] 89)).grown hgrow (by simp) (fun g hg=>(hown0.lt g hg).1)
  obtain ⟨_,p',c',rfl,_,hcm,_⟩:=Reads.bO hown
  clear hown hgrow
  go_wp2
  go_ret
  first
  | exact ⟨⟨p',c',rfl⟩,hcm,hb⟩
  | exact ⟨⟨p',c',rfl,hcm⟩,hb⟩
  | exact ⟨p',c',rfl,hcm,hb⟩
  | exact ⟨p',c',⟨rfl,rfl⟩,hcm,hb⟩
theorem Rk {v:Value} {L:List Iv} {w:World} (hlen:L.length≤1000000) (hv:gq w v L) :
  Calls Tryz.prog 70 #[v] w fun e w'=>∃ v',e=.returned v'∧gq w' v' L∧Below w.heap.size w w':=by
 obtain ⟨p,c,rfl,h1,h2,h3⟩:=hv
 rcases Nat.eq_zero_or_pos L.length with h0 | h0
 ·have hL:L=[]:=List.length_eq_zero_iff.1 h0
  subst hL
  refine (NF p c w).mono ?_
  rintro e w' ⟨p',c',rfl,hc,hb⟩
  exact ⟨_,rfl,⟨p',c',rfl,Nat.zero_le _,hc,fun h=>absurd h (Nat.lt_irrefl _)⟩,hb⟩
 ·obtain ⟨b,off,rfl,hbl,hcell⟩:=h3 h0
  exact Rj b off c L w hlen h0 ⟨_,c,rfl,h1,h2,fun _=>⟨b,off,rfl,hbl,hcell⟩⟩
end Go.Proofs.YtglncfkoohgdaaaGreatDoor
namespace Go.Proofs.YtglncfkoohgdaaaGreatDoor
open Go.RowKit Go.Shelf
structure Rl (wd:World) (bo:Nat) (vo:Value) (D:List Iv) (W:World):Prop where
 low:Below wd.heap.size wd W
 ob:W.heap[bo]?=some (.cells #[vo] 66 (0,0))
 own:W.ownsRow wd.heap.size 89 3 vo D.length (zX D)
 ge:wd.heap.size≤bo
theorem Rl.below {wd:World} {bo:Nat} {vo:Value} {D:List Iv} {W W':World} (h:Rl wd bo vo D W) (hb:Below W.heap.size W W'):Rl wd bo vo D W':=
 ⟨h.low.trans (hb.mono h.low.size),(hb.block _ (lt_of_some h.ob)).trans h.ob,l5 h.own hb,h.ge⟩
theorem Rl.own' {wd:World} {bo:Nat} {vo:Value} {D:List Iv} {N:Nat} (hN:wd.heap.size≤N) {W W':World} {row:Option Nat} (h:Rl wd bo vo D W) (hg:W.grownBy W' row) (hr:∀ r,row=some r→N≤r∧∃ o:Obj,W.heap[r]?=some o∧(o.isCells=false∨∃ c fz,o=.cells c 97 fz)):Rl wd bo vo D W':=
 ⟨ry h.low hN (Nat.le_refl _) hg hr,fK hg hr h.ob (by decide),nN hg hr h.own (by decide),h.ge⟩
theorem Rl.push {wd:World} {bo:Nat} {vo vz:Value} {D:List Iv} {x:Iv} {W l7:World} (h:Rl wd bo vo D W) (hg:W.grownBy l7 vo.ownBlock)
  (hown:l7.ownsRow wd.heap.size 89 3 vz (D.length+1) (zX D ++ [.string (us x.u),.string (tx x.a),.string (tx x.b)])) :
  Rl wd bo vz (D ++ [x]) (l7.setCell ⟨bo,0,none⟩ vz)∧l7.heap[bo]?=some (.cells #[vo] 66 (0,0)):=by
 have ui:l7.heap[bo]?=some (.cells #[vo] 66 (0,0)):=(hg.block bo (lt_of_some h.ob) (fun e=>by
  obtain ⟨cur,fz',e3⟩:=bE h.own e.symm
  rw [h.ob] at e3
  cases e3)).trans h.ob
 refine ⟨⟨?_,aK vz ui,?_,h.ge⟩,ui⟩
 ·refine (h.low.trans ⟨hg.os,hg.tape,hg.output,hg.size,fun k hk=>hg.block k (Nat.lt_of_lt_of_le hk h.low.size) fun e=>?_⟩).setCell (p:=⟨bo,0,none⟩) h.ge _
  have:=(h.own.lt k e.symm).1
  omega
 ·rw [List.length_append,KU]
  refine hown.kept (bQ _ _ _ _) ?_
  cases hv:vz.ownBlock with
  | none=>exact .inl rfl
  | some g =>
   refine .inr fun e=>?_
   obtain ⟨cur,fz,e3⟩:=bE hown hv
   have e4:g=bo:=by cases e;rfl
   rw [e4,ui] at e3
   cases e3
structure Ik (wd:World) (bo:Nat) (D:List Iv) (ds:List Nat) (P:dB) (x:Rat) (k:Nat) (s:Stp) (N0 N i:Nat) (W:World):Prop where
 ex:∃ vo D',Rl wd bo vo D' W∧D'=D++((aA P k s).take i).flatMap (Yy P x k)∧D'.length≤D.length+i∧(i=0→∀ g,vo.ownBlock=some g→g<N0)
 ms:Marks wd.heap.size W ds
 sz:N≤W.heap.size
theorem Ik.below {wd:World} {bo:Nat} {D:List Iv} {ds:List Nat} {P:dB} {x:Rat} {k:Nat} {s:Stp} {N0 N i:Nat} {W W':World} (h:Ik wd bo D ds P x k s N0 N i W) (hb:Below W.heap.size W W'):Ik wd bo D ds P x k s N0 N i W':=by
 obtain ⟨vo,D',h1,h2,h3,h4⟩:=h.ex
 exact ⟨⟨vo,D',h1.below hb,h2,h3,h4⟩,h.ms.below hb,Nat.le_trans h.sz hb.size⟩
theorem Ik.own {wd:World} {bo:Nat} {D:List Iv} {ds:List Nat} {P:dB} {x:Rat} {k:Nat} {s:Stp} {N0 N:Nat} (hN:wd.heap.size≤N) (hds:∀ d∈ds,d<N):kP 97 N (Ik wd bo D ds P x k s N0 N):=by
 intro i X Y row h hg hr
 obtain ⟨vo,D',h1,h2,h3,h4⟩:=h.ex
 exact ⟨⟨vo,D',h1.own' hN hg hr,h2,h3,h4⟩,h.ms.same fun d hd=>hg.block d (h.ms.lt d hd) fun e=>by have:=(hr d e.symm).1;have:=hds d hd;omega,Nat.le_trans h.sz hg.size⟩
theorem Dt {α β:Type} {L:List α} {i:Nat} {y:α} (h:L[i]?=some y) (f:α→List β):(L.take (i+1)).flatMap f=(L.take i).flatMap f++f y:=by
 rw [List.take_add_one,h,List.flatMap_append]
 simp
theorem Ik.skip {wd:World} {bo:Nat} {D:List Iv} {ds:List Nat} {P:dB} {x:Rat} {k:Nat} {s:Stp} {N0 N i:Nat} {W W':World} {y:lH × Bool} (h:Ik wd bo D ds P x k s N0 N i W) (hy:(aA P k s)[i]?=some y) (h0:Yy P x k y=[]) (hb:Below W.heap.size W W') :
  KeepsFrom N W W'∧(i+1<(aA P k s).length→iM N0 W W')∧Ik wd bo D ds P x k s N0 N (i+1) W':=by
 obtain ⟨vo,D',h1,h2,h3,h4⟩:=(h.below hb).ex
 exact ⟨aN hb,fun _=>nS hb,⟨vo,D',h1,by rw [Dt hy,h0,List.append_nil];exact h2,by omega,fun e=>absurd e (Nat.succ_ne_zero i)⟩,(h.below hb).ms,(h.below hb).sz⟩
theorem Ik.push {wd:World} {bo:Nat} {D:List Iv} {ds:List Nat} {P:dB} {x:Rat} {k:Nat} {s:Stp} {N0 N i:Nat} {W0 w6 l7:World} {vo vz:Value} {D':List Iv} {y:lH × Bool} {z:Iv} {o:Obj}
  (h1:Rl wd bo vo D' W0) (h2:D'=D++((aA P k s).take i).flatMap (Yy P x k)) (h3:D'.length≤D.length+i) (h4:i=0→∀ g,vo.ownBlock=some g→g<N0) (hms:Marks wd.heap.size W0 ds) (hsz:N≤W0.heap.size) (hy:(aA P k s)[i]?=some y) (hz:Yy P x k y=[z]) (h2m:(aA P k s).length≤2) (hbc:bo<N0)
  (hb6:Below W0.heap.size W0 w6) (hg:(w6.alloc o).grownBy l7 vo.ownBlock)
  (hown:l7.ownsRow wd.heap.size 89 3 vz (D'.length+1) (zX D' ++ [.string (us z.u),.string (tx z.a),.string (tx z.b)])) :
  (KeepsFrom N W0 (l7.setCell ⟨bo,0,none⟩ vz)∧(i+1<(aA P k s).length→iM N0 W0 (l7.setCell ⟨bo,0,none⟩ vz))∧Ik wd bo D ds P x k s N0 N (i+1) (l7.setCell ⟨bo,0,none⟩ vz))∧l7.heap[bo]?=some (.cells #[vo] 66 (0,0)):=by
 have Fv:Below W0.heap.size W0 (w6.alloc o):=hb6.trans ((ae _ _).mono hb6.size)
 have i7:=h1.below Fv
 obtain ⟨hp,ui⟩:=i7.push hg hown
 have hrow:∀ g,vo.ownBlock=some g→∃ cs t fz,(w6.alloc o).heap[g]?=some (.cells cs t fz):=fun g e=>by
  obtain ⟨c,f,hc⟩:=bE i7.own e
  exact ⟨_,_,_,hc⟩
 have m9:=hms.below Fv
 have m10:=FW m9 hg hrow
 have m11:=jf (j:=0) (v:=vz) m10 ui
 have k1:KeepsFrom N W0 (w6.alloc o):=aN Fv
 have k5:=k1.trans (FX hg hrow)
 have k6:=k5.trans ((KeepsOthers.setCell l7 ⟨bo,0,none⟩ vz).from N)
 refine ⟨⟨k6,fun hi b ob hb ho _=>?_,⟨vz,D' ++ [z],hp,?_,by rw [List.length_append,List.length_singleton];omega,fun h=>absurd h (Nat.succ_ne_zero _)⟩,m11,Nat.le_trans hsz k6.size⟩,ui⟩
 ·have hlt:=lt_of_some ho
  have h0:i=0:=by omega
  have e8:(w6.alloc o).heap[b]?=some ob:=(Fv.block b hlt).trans ho
  have e9:l7.heap[b]?=some ob:=(hg.block b (lt_of_some e8) fun e=>by have:=h4 h0 b e.symm;omega).trans e8
  rw [Below.heap_setCell _ _ _ _ (show b≠_ by show b≠bo;omega)]
  exact e9
 ·rw [Dt hy,hz,h2,List.append_assoc]
def atX (P:dB) (x:Rat):List Iv:=match (List.range P.lg.length).find? (fun i=>decide (x=cZ P i)) with
 | some i=>ai P i
 | none=>aew P x (tN P x P.lg.length)
theorem aak {P:dB} {x:Rat} {i:Nat} (hi:i<P.lg.length) (hx:x=cZ P i) (hne:∀ j,j<i→x≠cZ P j):atX P x=ai P i:=by
 unfold atX
 have:(List.range P.lg.length).find? (fun i=>decide (x=cZ P i))=some i:=by
  rw [List.find?_range_eq_some]
  refine ⟨decide_eq_true hx,by rw [List.mem_range];exact hi,fun j hj=>?_⟩
  simpa using hne j hj
 rw [this]
theorem acQ {P:dB} {x:Rat} (hne:∀ j,j<P.lg.length→x≠cZ P j):atX P x=aew P x (tN P x P.lg.length):=by
 unfold atX
 have:(List.range P.lg.length).find? (fun i=>decide (x=cZ P i))=none:=by
  rw [List.find?_eq_none]
  intro j hj
  rw [List.mem_range] at hj
  simpa using hne j hj
 rw [this]
theorem gq.kept {W W':World} {v:Value} {L:List Iv} (h:gq W v L) (hk:∀ (b:Nat) (cs:Array Value) (t:TypeId) (fz:Nat × Nat),W.heap[b]?=some (.cells cs t fz)→(∃ (i:Nat) (s:ByteArray),cs[i]?=some (Value.string s))→W'.heap[b]?=some (.cells cs t fz)):gq W' v L:=by
 obtain ⟨p,c,h1,h2,h3,h4⟩:=h
 refine ⟨p,c,h1,h2,h3,fun h0=>?_⟩
 obtain ⟨b,off,k1,k2,k3⟩:=h4 h0
 obtain ⟨cs,t,fz,hb,hs⟩ : ∃ cs t fz,W.heap[b]?=some (.cells cs t fz)∧∃ (i:Nat) (s:ByteArray),cs[i]?=some (Value.string s):=by
  have:=(k3 0 h0).1
  unfold World.cell? at this
  cases ho:W.heap[b]? with
  | none=>rw [ho] at this;simp at this
  | some o =>
   rw [ho] at this
   cases o <;> simp at this
   exact ⟨_,_,_,rfl,_,_,this⟩
 have hb':=hk b cs t fz hb hs
 have hc:∀ j,W'.cell? ⟨b,j,none⟩=W.cell? ⟨b,j,none⟩:=fun j=>by simp [World.cell?,hb,hb']
 exact ⟨b,off,k1,lt_of_some hb',fun i hi=>⟨by rw [hc];exact (k3 i hi).1,by rw [hc];exact (k3 i hi).2.1,by rw [hc];exact (k3 i hi).2.2⟩⟩
theorem gq.two {W:World} {v v1 v2 q1 q2:Value} {L:List Iv} {b1 b2:Nat} {t1 t2:TypeId} {f1 f2:Nat × Nat} (h:gq W v L) (h1:W.heap[b1]?=some (.cells #[q1] t1 f1)) (h2:W.heap[b2]?=some (.cells #[q2] t2 f2)) (n1:∀ s,q1≠.string s) (n2:∀ s,q2≠.string s) :
  gq ((W.setCell ⟨b1,0,none⟩ v1).setCell ⟨b2,0,none⟩ v2) v L:=by
 refine h.kept fun b cs t fz hb ⟨i,s,hi⟩=>?_
 have one:∀ {b1:Nat} {q1:Value} {t1:TypeId} {f1:Nat × Nat},W.heap[b1]?=some (.cells #[q1] t1 f1)→(∀ s,q1≠.string s)→b≠b1:=fun {b1 q1 t1 f1} h1 n1=>by
  rintro rfl
  rw [hb] at h1
  cases h1
  cases i with
  | zero=>exact n1 s (by simpa using hi)
  | succ i=>simp at hi
 rw [Below.heap_setCell _ _ _ _ (show b≠_ from one h2 n2),Below.heap_setCell _ _ _ _ (show b≠_ from one h1 n1)]
 exact hb
end Go.Proofs.YtglncfkoohgdaaaGreatDoor
