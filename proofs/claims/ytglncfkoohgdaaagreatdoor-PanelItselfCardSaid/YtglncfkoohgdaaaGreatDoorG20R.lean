import Derived.Test.YtglncfkoohgdaaaGreatDoorCmpMR
set_option maxHeartbeats 1000000
namespace Go.Proofs.YtglncfkoohgdaaaGreatDoor
open Go.RowKit Go.Shelf
open Go.Lib (decDigits itoa nDigits)
attribute [local go_sem] Oper.semAt_some
theorem aeN {W wS:World} {q a b c:Obj} (h:wS=(((W.alloc q).alloc a).alloc b).alloc c):Below W.heap.size W wS∧wS.heap[W.heap.size]?=some q∧wS.heap[W.heap.size+1]?=some a∧wS.heap[W.heap.size+1+1]?=some b∧wS.heap[W.heap.size+1+1+1]?=some c:=by
 obtain ⟨h1,h2,h3,h4,h5⟩:=dU (W:=W) (q:=q) (a:=a) (b:=b) rfl
 have hb:=ae (((W.alloc q).alloc a).alloc b) c
 rw [h]
 refine ⟨h1.trans (hb.mono h1.size),(hb.block _ (lt_of_some h3)).trans h3,(hb.block _ (lt_of_some h4)).trans h4,(hb.block _ (lt_of_some h5)).trans h5,?_⟩
 rw [show W.heap.size+1+1+1=(((W.alloc q).alloc a).alloc b).heap.size from h2.symm]
 exact World.alloc_heap_new _ _
theorem at_end {n0:Nat} {W:World} {vs v:Value} {e0 e:Int} (h2:W.heap[n0]?=some (.cells #[vs] 66 (0,0))) (h3:W.heap[n0+1]?=some (.cells #[.int .i64 e0] 40 (0,0))) :
  ((W.setCell ⟨n0,0,none⟩ v).setCell ⟨n0+1,0,none⟩ (.int .i64 e)).heap[n0]?=some (.cells #[v] 66 (0,0))∧((W.setCell ⟨n0,0,none⟩ v).setCell ⟨n0+1,0,none⟩ (.int .i64 e)).heap[n0+1]?=some (.cells #[.int .i64 e] 40 (0,0)):=by
 have z1:=aJ (i:=0) v h2
 have z2':=(Below.heap_setCell W ⟨n0,0,none⟩ v _ (show n0+1≠_ from Nat.succ_ne_self _)).trans h3
 exact ⟨(Below.heap_setCell (W.setCell ⟨n0,0,none⟩ v) ⟨n0+1,0,none⟩ (.int .i64 e) _ (show n0≠_ from (Nat.succ_ne_self _).symm)).trans z1,aJ (i:=0) (.int .i64 e) z2'⟩
end Go.Proofs.YtglncfkoohgdaaaGreatDoor
namespace Go.Proofs.YtglncfkoohgdaaaGreatDoor
open Go.RowKit Go.Shelf
open Go.Lib (decDigits itoa nDigits)
attribute [local go_sem] Oper.semAt_some
end Go.Proofs.YtglncfkoohgdaaaGreatDoor
namespace Go.Proofs.YtglncfkoohgdaaaGreatDoor
theorem aaz {P:bQ} {x:Rat} (hO:dm P) (h0:¬ x<cZ P 0) (h1:¬ cZ P (P.lg.length-1)<x) (hne:∀ i,i<P.lg.length→x≠cZ P i) :
  ui P x P.lg.length+1<P.lg.length∧cZ P (ui P x P.lg.length)<x∧x<cZ P (ui P x P.lg.length+1):=by
 have hn:=hO.n2
 have e0:=hne 0 (by omega)
 obtain ⟨k1,k2,k3⟩:=Gf (P:=P) (x:=x) (by grind) P.lg.length (by omega)
 have hl:ui P x P.lg.length≠P.lg.length-1:=fun e=>h1 (by rw [←e];exact k2)
 have hk:ui P x P.lg.length+1<P.lg.length:=by omega
 have e1:=hne _ hk
 have e2:=k3 (ui P x P.lg.length+1) (by omega) hk
 exact ⟨hk,k2,by grind⟩
open Go.RowKit Go.Shelf
def rY:Go.Shelf.Ren:=⟨fun | 41=>70 | n=>n,fun | 22=>66 | 23=>89 | 4=>4 | n=>n,fun | n=>n⟩
theorem Pj:Go.Proofs.SlLaysE0.n41 Tryz.prog rY:={
 mixed:=by kernel_rfl,
 f41:=⟨Tryz.f70.name,by decide,Tryz.func70.trans (congrArg some (by kernel_rfl))⟩,
 t4:=Tryz.underlying4,
 a4:=Tryz.isAgg4,
 z4:=Tryz.sizeOf4,
 v4:=Tryz.zeroValue4,
 t22:=Tryz.underlying66,
 a22:=Tryz.isAgg66,
 z22:=Tryz.sizeOf66,
 v22:=Tryz.zeroValue66 }
def Af (L:List Iv):List Value:=L.flatMap fun x=>[.string (us x.u),.string (tx x.a),.string (tx x.b)]
theorem Iu (L:List Iv):(Af L).length=L.length*3:=by
 induction L with
 | nil=>rfl
 | cons p r ih=>unfold Af at *; rw [List.flatMap_cons,List.length_append,ih,List.length_cons];simp;omega
theorem K3 (L:List Iv) (x:Iv):Af (L ++ [x])=Af L ++ [.string (us x.u),.string (tx x.a),.string (tx x.b)]:=by unfold Af;simp
theorem Iw:∀ (L:List Iv) (i:Nat) (hi:i<L.length) (j:Nat) (hj:j<3),(Af L)[i*3+j]?=some ([Value.string (us L[i].u),.string (tx L[i].a),.string (tx L[i].b)][j])
 | [],i,hi,_,_=>by simp at hi
 | q :: r,0,_,j,hj=>by
  unfold Af
  rw [List.flatMap_cons,List.getElem?_append_left (by simp;omega)]
  simp only [Nat.zero_mul,Nat.zero_add,List.getElem_cons_zero]
  rw [List.getElem?_eq_getElem (by simpa using hj)]
 | q :: r,i+1,hi,j,hj=>by
  unfold Af
  rw [List.flatMap_cons,List.getElem?_append_right (by simp;omega)]
  have:=Iw r i (by simpa using hi) j hj
  unfold Af at this
  rw [show (i+1)*3+j - [Value.string (us q.u),.string (tx q.a),.string (tx q.b)].length=i*3+j by simp;omega]
  simpa using this
theorem Dz {L:List Iv} {i:Nat} (h:i<L.length):ah L i=L[i]:=by unfold ah;rw [List.getD_eq_getElem?_getD,List.getElem?_eq_getElem h];rfl
theorem p8 {w:World} {base:Nat} {e:TypeId} {v:Value} {L:List Iv} (h:w.ownsRow base e 3 v L.length (Af L)):gm w v L:=by
 obtain ⟨_,p,c,rfl,hc,hm,hx⟩:=Reads.bu h
 refine ⟨p,c,rfl,hc,hm,fun h0=>?_⟩
 obtain ⟨b,off,hpe,hbl,hcell⟩:=hx h0
 refine ⟨b,off,hpe,hbl,fun i hi=>?_⟩
 have hl:=Iu L
 rw [Dz hi]
 have go:∀ j (hj:j<3),w.cell? ⟨b,off+(i*3+j),none⟩=some ([Value.string (us L[i].u),.string (tx L[i].a),.string (tx L[i].b)][j]):=by
  intro j hj
  have h1:=hcell (i*3+j) (by omega)
  rw [h1,←Iw L i hi j hj,List.getElem?_eq_getElem]
 exact ⟨go 0 (by decide),go 1 (by decide),go 2 (by decide)⟩
theorem nC:SliceOf 66 89 (.agg #[.string ⟨#[]⟩,.string ⟨#[]⟩,.string ⟨#[]⟩]) 3 48:=⟨Tryz.underlying66,by kernel_rfl,rfl,by decide⟩
theorem aaA (L:List Iv):∀ u∈Af L,u.oneCell'=true:=by
 intro u hu
 unfold Af at hu
 obtain ⟨x,_,hx⟩:=List.mem_flatMap.1 hu
 simp only [List.mem_cons,List.not_mem_nil,or_false] at hx
 rcases hx with rfl | rfl | rfl <;> rfl
theorem Rf (b off c:Nat) (L:List Iv) (w:World) (hlen:L.length≤1000000) (h0:0<L.length) (hv:gm w (.slice (some ⟨b,off,none⟩) L.length c) L) :
  Calls Tryz.prog 70 #[.slice (some ⟨b,off,none⟩) L.length c] w fun e w'=>∃ v,e=.returned v∧gm w' v L∧Below w.heap.size w w':=by
 obtain ⟨i0,hi,hz0,hz1,hz2⟩:=info_parts nC.info
 obtain ⟨p',c',he,_,_,hx⟩:=hv
 simp only [Value.slice.injEq] at he
 obtain ⟨rfl,_,rfl⟩:=he
 obtain ⟨b',off',hpe,hbl,hcell⟩:=hx h0
 cases hpe
 have hl:=Iu L
 have Na:=AnyE.slices_Clone (ρ:=rY) Pj i0 _ 3 48 hi hz0 hz1 hz2 nC.hzs (by decide) Tryz.sizeOf89 b off L.length c (Af L) w (by rw [Iu]) (by unfold maxLen;omega) (by omega) (fun j u hj=>by
  have hlt:j<(Af L).length:=(List.getElem?_eq_some_iff.1 hj).1
  obtain ⟨q,r,hr,rfl⟩ : ∃ q r,r<3∧j=q*3+r:=⟨j/3,j % 3,by omega,by omega⟩
  have hq:q<L.length:=by omega
  have hg:=Iw L q hq r hr
  rw [hj] at hg
  obtain ⟨m0,m1,m2⟩:=hcell q hq
  rw [Dz hq] at m0 m1 m2
  cases hg
  have:r=0∨r=1∨r=2:=by omega
  rcases this with rfl | rfl | rfl
  ·simpa [Addr.add] using m0
  ·simpa [Addr.add,Nat.add_assoc] using m1
  ·simpa [Addr.add,Nat.add_assoc] using m2) (aaA _)
 refine Calls.mono Na ?_
 rintro e w1 ⟨v1,rfl,hown1,hne1,hb1⟩
 exact ⟨v1,rfl,p8 hown1,hb1⟩
end Go.Proofs.YtglncfkoohgdaaaGreatDoor
namespace Go.Proofs.YtglncfkoohgdaaaGreatDoor
open Go.RowKit Go.Shelf Go.Sort Go.Lib
theorem NB (a:Option Addr) (c:Nat) (w:World):Calls Tryz.prog 70 #[.slice a 0 c] w fun e w'=>∃ p c',e=.returned (.slice p 0 c')∧c'≤maxLen∧Below w.heap.size w w':=by
 cases a with
 | none =>
  have hcl:=AnyE.slices_Clone_nil (ρ:=rY) Pj 0 c w
  change Calls Tryz.prog 70 _ _ _ at hcl
  exact hcl.mono fun e w' ⟨he,hw⟩=>⟨none,0,he,Nat.zero_le _,by rw [hw];exact Below.refl _ _⟩
 | some a =>
  have q22:∀ w,(binOp .eql 66 (.slice (some a) 0 c) (.slice none 0 0)).run Tryz.prog w=.ok (.bool false) w:=fun w=>Lib.run_eql_slice_nil w _ _ (some a) 0 c 0 0 Tryz.underlying66
  obtain ⟨i0,hi,hz0,hz1,hz2⟩:=info_parts nC.info
  have hown0:=World.ownsRow_made (e:=89) (size:=3) w #[] 0 (Nat.le_refl _) (Nat.zero_le _) (by simp)
  go_enter Tryz.func70,Tryz.ntmps70
  go_wp2_with (at_builtin;refine wpList_append_own _ rfl (.tmp 5) (.tmp 6) 66 rfl w.heap.size 89 i0 (.agg #[.string ⟨#[]⟩,.string ⟨#[]⟩,.string ⟨#[]⟩]) 3 48 nC.ht hi hz0 hz1 hz2 nC.hzs nC.hsz _ _ _ rfl hown0 a 0 c [] rfl rfl (fun j u hj=>(by simp at hj)) (fun u hu=>(by cases hu)) (by decide) (by decide) (by simp) ?_;intro v' w1 hown hgrow _)
  have hb:=((Below.refl w.heap.size w).alloc (Nat.le_refl _) (Obj.cells #[] 89)).grown hgrow (by simp) (fun g hg=>(hown0.lt g hg).1)
  obtain ⟨_,p',c',rfl,_,hcm,_⟩:=Reads.bu hown
  clear hown hgrow
  go_wp2
  go_ret
  first
  | exact ⟨⟨p',c',rfl⟩,hcm,hb⟩
  | exact ⟨⟨p',c',rfl,hcm⟩,hb⟩
  | exact ⟨p',c',rfl,hcm,hb⟩
  | exact ⟨p',c',⟨rfl,rfl⟩,hcm,hb⟩
theorem Rh {v:Value} {L:List Iv} {w:World} (hlen:L.length≤1000000) (hv:gm w v L) :
  Calls Tryz.prog 70 #[v] w fun e w'=>∃ v',e=.returned v'∧gm w' v' L∧Below w.heap.size w w':=by
 obtain ⟨p,c,rfl,h1,h2,h3⟩:=hv
 rcases Nat.eq_zero_or_pos L.length with h0 | h0
 ·have hL:L=[]:=List.length_eq_zero_iff.1 h0
  subst hL
  refine (NB p c w).mono ?_
  rintro e w' ⟨p',c',rfl,hc,hb⟩
  exact ⟨_,rfl,⟨p',c',rfl,Nat.zero_le _,hc,fun h=>absurd h (Nat.lt_irrefl _)⟩,hb⟩
 ·obtain ⟨b,off,rfl,hbl,hcell⟩:=h3 h0
  exact Rf b off c L w hlen h0 ⟨_,c,rfl,h1,h2,fun _=>⟨b,off,rfl,hbl,hcell⟩⟩
end Go.Proofs.YtglncfkoohgdaaaGreatDoor
namespace Go.Proofs.YtglncfkoohgdaaaGreatDoor
open Go.RowKit Go.Shelf
structure Ri (wd:World) (bo:Nat) (vo:Value) (D:List Iv) (W:World):Prop where
 low:Below wd.heap.size wd W
 ob:W.heap[bo]?=some (.cells #[vo] 66 (0,0))
 own:W.ownsRow wd.heap.size 89 3 vo D.length (Af D)
 ge:wd.heap.size≤bo
theorem Ri.below {wd:World} {bo:Nat} {vo:Value} {D:List Iv} {W W':World} (h:Ri wd bo vo D W) (hb:Below W.heap.size W W'):Ri wd bo vo D W':=
 ⟨h.low.trans (hb.mono h.low.size),(hb.block _ (lt_of_some h.ob)).trans h.ob,lZ h.own hb,h.ge⟩
theorem Ri.own' {wd:World} {bo:Nat} {vo:Value} {D:List Iv} {N:Nat} (hN:wd.heap.size≤N) {W W':World} {row:Option Nat} (h:Ri wd bo vo D W) (hg:W.grownBy W' row) (hr:∀ r,row=some r→N≤r∧∃ o:Obj,W.heap[r]?=some o∧(o.isCells=false∨∃ c fz,o=.cells c 97 fz)):Ri wd bo vo D W':=
 ⟨rM h.low hN (Nat.le_refl _) hg hr,fI hg hr h.ob (by decide),nN hg hr h.own (by decide),h.ge⟩
theorem Ri.push {wd:World} {bo:Nat} {vo vz:Value} {D:List Iv} {x:Iv} {W l5:World} (h:Ri wd bo vo D W) (hg:W.grownBy l5 vo.ownBlock)
  (hown:l5.ownsRow wd.heap.size 89 3 vz (D.length+1) (Af D ++ [.string (us x.u),.string (tx x.a),.string (tx x.b)])) :
  Ri wd bo vz (D ++ [x]) (l5.setCell ⟨bo,0,none⟩ vz)∧l5.heap[bo]?=some (.cells #[vo] 66 (0,0)):=by
 have vM:l5.heap[bo]?=some (.cells #[vo] 66 (0,0)):=(hg.block bo (lt_of_some h.ob) (fun e=>by
  obtain ⟨cur,fz',e3⟩:=bD h.own e.symm
  rw [h.ob] at e3
  cases e3)).trans h.ob
 refine ⟨⟨?_,aJ vz vM,?_,h.ge⟩,vM⟩
 ·refine (h.low.trans ⟨hg.os,hg.tape,hg.output,hg.size,fun k hk=>hg.block k (Nat.lt_of_lt_of_le hk h.low.size) fun e=>?_⟩).setCell (p:=⟨bo,0,none⟩) h.ge _
  have:=(h.own.lt k e.symm).1
  omega
 ·rw [List.length_append,K3]
  refine hown.kept (bK _ _ _ _) ?_
  cases hv:vz.ownBlock with
  | none=>exact .inl rfl
  | some g =>
   refine .inr fun e=>?_
   obtain ⟨cur,fz,e3⟩:=bD hown hv
   have e4:g=bo:=by cases e;rfl
   rw [e4,vM] at e3
   cases e3
structure Iy (wd:World) (bo:Nat) (D:List Iv) (ds:List Nat) (P:bQ) (x:Rat) (k:Nat) (s:Stp) (N0 N i:Nat) (W:World):Prop where
 ex:∃ vo D',Ri wd bo vo D' W∧D'=D++((aC P k s).take i).flatMap (Y2 P x k)∧D'.length≤D.length+i∧(i=0→∀ g,vo.ownBlock=some g→g<N0)
 ms:Marks wd.heap.size W ds
 sz:N≤W.heap.size
theorem Iy.below {wd:World} {bo:Nat} {D:List Iv} {ds:List Nat} {P:bQ} {x:Rat} {k:Nat} {s:Stp} {N0 N i:Nat} {W W':World} (h:Iy wd bo D ds P x k s N0 N i W) (hb:Below W.heap.size W W'):Iy wd bo D ds P x k s N0 N i W':=by
 obtain ⟨vo,D',h1,h2,h3,h4⟩:=h.ex
 exact ⟨⟨vo,D',h1.below hb,h2,h3,h4⟩,h.ms.below hb,Nat.le_trans h.sz hb.size⟩
theorem Iy.own {wd:World} {bo:Nat} {D:List Iv} {ds:List Nat} {P:bQ} {x:Rat} {k:Nat} {s:Stp} {N0 N:Nat} (hN:wd.heap.size≤N) (hds:∀ d∈ds,d<N):kQ 97 N (Iy wd bo D ds P x k s N0 N):=by
 intro i X Y row h hg hr
 obtain ⟨vo,D',h1,h2,h3,h4⟩:=h.ex
 exact ⟨⟨vo,D',h1.own' hN hg hr,h2,h3,h4⟩,h.ms.same fun d hd=>hg.block d (h.ms.lt d hd) fun e=>by have:=(hr d e.symm).1;have:=hds d hd;omega,Nat.le_trans h.sz hg.size⟩
theorem DC {α β:Type} {L:List α} {i:Nat} {y:α} (h:L[i]?=some y) (f:α→List β):(L.take (i+1)).flatMap f=(L.take i).flatMap f++f y:=by
 rw [List.take_add_one,h,List.flatMap_append]
 simp
theorem Iy.skip {wd:World} {bo:Nat} {D:List Iv} {ds:List Nat} {P:bQ} {x:Rat} {k:Nat} {s:Stp} {N0 N i:Nat} {W W':World} {y:nW × Bool} (h:Iy wd bo D ds P x k s N0 N i W) (hy:(aC P k s)[i]?=some y) (h0:Y2 P x k y=[]) (hb:Below W.heap.size W W') :
  KeepsFrom N W W'∧(i+1<(aC P k s).length→iM N0 W W')∧Iy wd bo D ds P x k s N0 N (i+1) W':=by
 obtain ⟨vo,D',h1,h2,h3,h4⟩:=(h.below hb).ex
 exact ⟨aM hb,fun _=>nR hb,⟨vo,D',h1,by rw [DC hy,h0,List.append_nil];exact h2,by omega,fun e=>absurd e (Nat.succ_ne_zero i)⟩,(h.below hb).ms,(h.below hb).sz⟩
theorem Iy.push {wd:World} {bo:Nat} {D:List Iv} {ds:List Nat} {P:bQ} {x:Rat} {k:Nat} {s:Stp} {N0 N i:Nat} {W0 w6 l5:World} {vo vz:Value} {D':List Iv} {y:nW × Bool} {z:Iv} {o:Obj}
  (h1:Ri wd bo vo D' W0) (h2:D'=D++((aC P k s).take i).flatMap (Y2 P x k)) (h3:D'.length≤D.length+i) (h4:i=0→∀ g,vo.ownBlock=some g→g<N0) (hms:Marks wd.heap.size W0 ds) (hsz:N≤W0.heap.size) (hy:(aC P k s)[i]?=some y) (hz:Y2 P x k y=[z]) (h2m:(aC P k s).length≤2) (hbc:bo<N0)
  (hb6:Below W0.heap.size W0 w6) (hg:(w6.alloc o).grownBy l5 vo.ownBlock)
  (hown:l5.ownsRow wd.heap.size 89 3 vz (D'.length+1) (Af D' ++ [.string (us z.u),.string (tx z.a),.string (tx z.b)])) :
  (KeepsFrom N W0 (l5.setCell ⟨bo,0,none⟩ vz)∧(i+1<(aC P k s).length→iM N0 W0 (l5.setCell ⟨bo,0,none⟩ vz))∧Iy wd bo D ds P x k s N0 N (i+1) (l5.setCell ⟨bo,0,none⟩ vz))∧l5.heap[bo]?=some (.cells #[vo] 66 (0,0)):=by
 have Db:Below W0.heap.size W0 (w6.alloc o):=hb6.trans ((ae _ _).mono hb6.size)
 have i7:=h1.below Db
 obtain ⟨hp,vM⟩:=i7.push hg hown
 have hrow:∀ g,vo.ownBlock=some g→∃ cs t fz,(w6.alloc o).heap[g]?=some (.cells cs t fz):=fun g e=>by
  obtain ⟨c,f,hc⟩:=bD i7.own e
  exact ⟨_,_,_,hc⟩
 have m9:=hms.below Db
 have m10:=Ga m9 hg hrow
 have m11:=jf (j:=0) (v:=vz) m10 vM
 have k1:KeepsFrom N W0 (w6.alloc o):=aM Db
 have k5:=k1.trans (Gb hg hrow)
 have k6:=k5.trans ((KeepsOthers.setCell l5 ⟨bo,0,none⟩ vz).from N)
 refine ⟨⟨k6,fun hi b ob hb ho _=>?_,⟨vz,D' ++ [z],hp,?_,by rw [List.length_append,List.length_singleton];omega,fun h=>absurd h (Nat.succ_ne_zero _)⟩,m11,Nat.le_trans hsz k6.size⟩,vM⟩
 ·have hlt:=lt_of_some ho
  have h0:i=0:=by omega
  have e8:(w6.alloc o).heap[b]?=some ob:=(Db.block b hlt).trans ho
  have e9:l5.heap[b]?=some ob:=(hg.block b (lt_of_some e8) fun e=>by have:=h4 h0 b e.symm;omega).trans e8
  rw [Below.heap_setCell _ _ _ _ (show b≠_ by show b≠bo;omega)]
  exact e9
 ·rw [DC hy,hz,h2,List.append_assoc]
def atX (P:bQ) (x:Rat):List Iv:=match (List.range P.lg.length).find? (fun i=>decide (x=cZ P i)) with
 | some i=>ai P i
 | none=>aeM P x (ui P x P.lg.length)
theorem aaB {P:bQ} {x:Rat} {i:Nat} (hi:i<P.lg.length) (hx:x=cZ P i) (hne:∀ j,j<i→x≠cZ P j):atX P x=ai P i:=by
 unfold atX
 have:(List.range P.lg.length).find? (fun i=>decide (x=cZ P i))=some i:=by
  rw [List.find?_range_eq_some]
  refine ⟨decide_eq_true hx,by rw [List.mem_range];exact hi,fun j hj=>?_⟩
  simpa using hne j hj
 rw [this]
theorem ac9 {P:bQ} {x:Rat} (hne:∀ j,j<P.lg.length→x≠cZ P j):atX P x=aeM P x (ui P x P.lg.length):=by
 unfold atX
 have:(List.range P.lg.length).find? (fun i=>decide (x=cZ P i))=none:=by
  rw [List.find?_eq_none]
  intro j hj
  rw [List.mem_range] at hj
  simpa using hne j hj
 rw [this]
theorem gm.kept {W W':World} {v:Value} {L:List Iv} (h:gm W v L) (hk:∀ (b:Nat) (cs:Array Value) (t:TypeId) (fz:Nat × Nat),W.heap[b]?=some (.cells cs t fz)→(∃ (i:Nat) (s:ByteArray),cs[i]?=some (Value.string s))→W'.heap[b]?=some (.cells cs t fz)):gm W' v L:=by
 obtain ⟨p,c,h1,h2,h3,h4⟩:=h
 refine ⟨p,c,h1,h2,h3,fun h0=>?_⟩
 obtain ⟨b,off,k1,k2,k3⟩:=h4 h0
 obtain ⟨cs,t,fz,hb,hs⟩ : ∃ cs t fz,W.heap[b]?=some (.cells cs t fz)∧∃ (i:Nat) (s:ByteArray),cs[i]?=some (Value.string s):=by
  have:=(k3 0 h0).1
  unfold World.cell? at this
  cases ho:W.heap[b]? with
  | none=>rw [ho] at this;simp at this
  | some o =>
   rw [ho] at this
   cases o <;> simp at this
   exact ⟨_,_,_,rfl,_,_,this⟩
 have hb':=hk b cs t fz hb hs
 have hc:∀ j,W'.cell? ⟨b,j,none⟩=W.cell? ⟨b,j,none⟩:=fun j=>by simp [World.cell?,hb,hb']
 exact ⟨b,off,k1,lt_of_some hb',fun i hi=>⟨by rw [hc];exact (k3 i hi).1,by rw [hc];exact (k3 i hi).2.1,by rw [hc];exact (k3 i hi).2.2⟩⟩
theorem gm.two {W:World} {v v1 v2 q1 q2:Value} {L:List Iv} {b1 b2:Nat} {t1 t2:TypeId} {f1 f2:Nat × Nat} (h:gm W v L) (h1:W.heap[b1]?=some (.cells #[q1] t1 f1)) (h2:W.heap[b2]?=some (.cells #[q2] t2 f2)) (n1:∀ s,q1≠.string s) (n2:∀ s,q2≠.string s) :
  gm ((W.setCell ⟨b1,0,none⟩ v1).setCell ⟨b2,0,none⟩ v2) v L:=by
 refine h.kept fun b cs t fz hb ⟨i,s,hi⟩=>?_
 have one:∀ {b1:Nat} {q1:Value} {t1:TypeId} {f1:Nat × Nat},W.heap[b1]?=some (.cells #[q1] t1 f1)→(∀ s,q1≠.string s)→b≠b1:=fun {b1 q1 t1 f1} h1 n1=>by
  rintro rfl
  rw [hb] at h1
  cases h1
  cases i with
  | zero=>exact n1 s (by simpa using hi)
  | succ i=>simp at hi
 rw [Below.heap_setCell _ _ _ _ (show b≠_ from one h2 n2),Below.heap_setCell _ _ _ _ (show b≠_ from one h1 n1)]
 exact hb
end Go.Proofs.YtglncfkoohgdaaaGreatDoor
