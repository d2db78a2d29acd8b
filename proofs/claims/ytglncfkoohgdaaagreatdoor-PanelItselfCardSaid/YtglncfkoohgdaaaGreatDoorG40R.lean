import Derived.Test.YtglncfkoohgdaaaGreatDoorG16R
import Derived.Maps.OwnIn
import Derived.DeepKeys4
import Derived.StillTailTactics
set_option maxRecDepth 100000
set_option maxHeartbeats 8000000
namespace Go.Proofs.YtglncfkoohgdaaaGreatDoor
open Go.RowKit Go.Shelf
structure gz where
 out:List (Nat × List Nat)
 at_:Nat→Nat→Option Nat
def p9 (f:Nat→Nat→Option Nat) (k i a:Nat):Nat→Nat→Option Nat:=fun x y=>if x=k∧y=i then some a else f x y
def gz.iv (st:gz) (k i:Nat):gz:=match st.at_ k i with
 | some a=>⟨st.out.modify a (fun b=>(b.1,b.2 ++ [i])),st.at_⟩
 | none=>⟨st.out ++ [(k,[i])],p9 st.at_ k i st.out.length⟩
def gz.lk (k:Nat) (st:gz) (s:Stp):gz:=if s.k=1 then ⟨st.out,p9 st.at_ (k+1) s.j ((st.at_ k s.i).getD 0)⟩ else st
def gz.vO (st:gz) (k:Nat):Nat→gz
 | 0=>st
 | i+1=>(st.vO k i).iv k i
def ky (P:bQ):Nat→gz
 | 0=>⟨[],fun _ _=>none⟩
 | k+1=>(aZ P k).foldl (gz.lk k) ((ky P k).vO k (ai P k).length)
def uN (P:bQ):List (Nat × List Nat):=((ky P (P.lg.length-1)).vO (P.lg.length-1) (ai P (P.lg.length-1)).length).out
structure qd (n:Nat) (st:gz):Prop where
 len:st.out.length≤n
 each:∀ b∈st.out,0<b.2.length∧b.2.length≤n
 lt:∀ k i a,st.at_ k i=some a→a<st.out.length
theorem qd.mono {n m:Nat} {st:gz} (h:qd n st) (hm:n≤m):qd m st:=⟨Nat.le_trans h.len hm,fun b hb=>⟨(h.each b hb).1,Nat.le_trans (h.each b hb).2 hm⟩,h.lt⟩
theorem qd.iv {n k i:Nat} {st:gz} (h:qd n st):qd (n+1) (st.iv k i):=by
 unfold gz.iv
 split
 ·rename_i a ha
  refine ⟨by dsimp only;rw [List.length_modify];exact Nat.le_succ_of_le h.len,fun b hb=>?_,fun k' i' a' h'=>by dsimp only;rw [List.length_modify];exact h.lt k' i' a' h'⟩
  obtain ⟨j,hj,rfl⟩:=List.mem_iff_getElem.1 hb
  rw [List.getElem_modify]
  have hj2:j<st.out.length:=by rw [List.length_modify] at hj;exact hj
  have:=h.each _ (List.getElem_mem hj2)
  split
  ·simp only [List.length_append,List.length_singleton];omega
  ·omega
 ·refine ⟨by simp only [List.length_append,List.length_singleton];have:=h.len;omega,fun b hb=>?_,fun k' i' a' h'=>?_⟩
  ·rcases List.mem_append.1 hb with hb | hb
   ·have:=h.each b hb;omega
   ·rw [List.mem_singleton] at hb
    rw [hb]
    simp
  ·simp only [List.length_append,List.length_singleton]
   unfold p9 at h'
   dsimp only at h'
   split at h'
   ·cases h';omega
   ·have:=h.lt k' i' a' h';omega
theorem qd.vO {n k:Nat} {st:gz} (h:qd n st):∀ i,qd (n+i) (st.vO k i)
 | 0=>h
 | i+1=>(h.vO i).iv
theorem AY {k:Nat} (st:gz):∀ n i,i<n→∃ a,(st.vO k n).at_ k i=some a
 | 0,_,h=>absurd h (by omega)
 | n+1,i,h=>by
  have hs:∀ (s:gz) (x y a:Nat),s.at_ x y=some a→∃ b,(s.iv k n).at_ x y=some b:=by
   intro s x y a hx
   unfold gz.iv
   split
   ·exact ⟨a,hx⟩
   ·dsimp only
    unfold p9
    split
    ·exact ⟨_,rfl⟩
    ·exact ⟨a,hx⟩
  show ∃ a,((st.vO k n).iv k n).at_ k i=some a
  rcases Nat.lt_or_ge i n with h1 | h1
  ·obtain ⟨a,ha⟩:=AY st n i h1
   exact hs _ _ _ a ha
  ·obtain rfl:i=n:=by omega
   unfold gz.iv
   split
   ·rename_i a ha
    exact ⟨a,ha⟩
   ·dsimp only
    unfold p9
    rw [if_pos ⟨rfl,rfl⟩]
    exact ⟨_,rfl⟩
theorem Pp {k:Nat}:∀ (L:List Stp) (st:gz),(L.foldl (gz.lk k) st).out=st.out
 | [],_=>rfl
 | s :: L,st=>by
  rw [List.foldl_cons,Pp L]
  unfold gz.lk
  split <;> rfl
theorem IB {k:Nat}:∀ (L:List Stp) (st:gz) (i:Nat),(L.foldl (gz.lk k) st).at_ k i=st.at_ k i
 | [],_,_=>rfl
 | s :: L,st,i=>by
  rw [List.foldl_cons,IB L]
  unfold gz.lk
  split
  ·dsimp only
   unfold p9
   rw [if_neg (by omega)]
  ·rfl
theorem qd.lk {n k:Nat} {st:gz} (h:qd n st) {s:Stp} (hs:s.k=1→∃ a,st.at_ k s.i=some a):qd n (gz.lk k st s):=by
 unfold gz.lk
 split
 ·rename_i hk
  obtain ⟨a,ha⟩:=hs hk
  refine ⟨h.len,h.each,fun x y b hb=>?_⟩
  dsimp only at hb ⊢
  unfold p9 at hb
  split at hb
  ·cases hb
   rw [ha]
   exact h.lt _ _ _ ha
  ·exact h.lt _ _ _ hb
 ·exact h
theorem qd.lks {n k:Nat}:∀ (L:List Stp) {st:gz},qd n st→(∀ s∈L,s.k=1→∃ a,st.at_ k s.i=some a)→qd n (L.foldl (gz.lk k) st)
 | [],_,h,_=>h
 | s :: L,st,h,hs=>by
  rw [List.foldl_cons]
  refine qd.lks L (h.lk (hs s List.mem_cons_self)) (fun t ht hk=>?_)
  obtain ⟨a,ha⟩:=hs t (List.mem_cons_of_mem _ ht) hk
  refine ⟨a,?_⟩
  have:=IB (k:=k) [s] st t.i
  rw [List.foldl_cons,List.foldl_nil] at this
  rw [this,ha]
theorem DI {P:bQ} (hO:dm P):∀ k,k<P.lg.length→qd (8*k) (ky P k)
 | 0,_=>⟨Nat.le_refl _,fun b hb=>absurd hb List.not_mem_nil,fun _ _ _ h=>by cases h⟩
 | k+1,hk=>by
  have h1:=(DI hO k (by omega)).vO (k:=k) (ai P k).length
  have h2:=(hO.log k (by omega)).2
  refine qd.lks _ (h1.mono (by omega)) (fun s hs hk1=>?_)
  obtain ⟨i,hi,rfl⟩:=List.mem_iff_getElem.1 hs
  have hl:=(oL hi).2.1
  rw [jZ hi,hk1] at hl
  have hc:(aZ P k)[i].i<(ai P k).length∧(aZ P k)[i].j<(ai P (k+1)).length:=by simpa [bF] using hl
  exact AY _ _ _ hc.1
def IC (k i:Nat):Lit:=.string (keyBytes [.int .i64 (k:Int),.int .i64 (i:Int)])
theorem abA {k:Nat} (h:k<2 ^ 62):(Lit.int .i64 (k:Int)).wf=true:=WalkArith.wf_i64 (by omega)
theorem Pq:Tryz.prog.cellsOf 151=2:=by kernel_rfl
theorem aeQ:Tryz.prog.keyType 151=true:=by kernel_rfl
theorem intCells:Tryz.prog.cellsOf 3=1:=by kernel_rfl
theorem aaK:∃ d,Tryz.prog.types.size=d+1:=⟨Tryz.prog.types.size-1,by have:0<Tryz.prog.types.size:=of_decide_eq_true (by kernel_rfl);omega⟩
theorem DJ {k i:Nat} (hk:k<2 ^ 62) (hi:i<2 ^ 62):keyOf Tryz.prog 151 (.agg #[.int .i64 (k:Int),.int .i64 (i:Int)])=some (IC k i):=by
 obtain ⟨d,hd⟩:=aaK
 have h1:=abA hk
 have h2:=abA hi
 have hu:=Tryz.underlying151
 have hv:=Tryz.underlying3
 unfold keyOf
 rw [hu]
 simp only [aeQ,hd,Value.formed,hu,Pq,Bool.true_and]
 rw [if_pos (by rfl)]
 simp [Program.keyLits,hu,hv,Pq,intCells,Value.cells,h1,h2,IC]
theorem zi:Maps.Keyed Tryz.prog 151:=Maps.Keyed.of_law (deep_law_laid (by kernel_rfl) (m:=2) (by omega) (of_decide_eq_true (by kernel_rfl)) (by kernel_rfl) (by kernel_rfl))
theorem V3 {k i x y:Nat} (hk:k<2 ^ 62) (hi:i<2 ^ 62) (hx:x<2 ^ 62) (hy:y<2 ^ 62) (h:IC k i=IC x y):k=x∧i=y:=by
 have h1:=DJ hk hi
 rw [h] at h1
 have:=zi.inj h1 (DJ hx hy)
 simp only [Value.agg.injEq,Array.mk.injEq,List.cons.injEq,Value.int.injEq,true_and,and_true] at this
 omega
structure K6 {H:Type} (D:DataW H) (f:Nat→Nat→Option Nat):Prop where
 map:Maps.IsMap D
 has:∀ k i,k<2 ^ 62→i<2 ^ 62→Maps.has D (IC k i)=(f k i).isSome
 at_:∀ k i a,k<2 ^ 62→i<2 ^ 62→f k i=some a→∀ z,D.atKey (IC k i) z=.lit (.int .i64 (a:Int))
theorem K6.nil {H:Type}:K6 (.map []:DataW H) (fun _ _=>none):=⟨Maps.isMap_empty,fun _ _ _ _=>rfl,fun _ _ _ _ _ h=>by cases h⟩
theorem K6.put {H:Type} {D:DataW H} {f:Nat→Nat→Option Nat} (h:K6 D f) {k i:Nat} (hk:k<2 ^ 62) (hi:i<2 ^ 62) (a:Nat):K6 (D.put (IC k i) (.lit (.int .i64 (a:Int)))) (p9 f k i a):=by
 refine ⟨?_,fun x y hx hy=>?_,fun x y b hx hy hb z=>?_⟩
 ·obtain ⟨es,rfl⟩:=h.map
  exact ⟨_,rfl⟩
 ·unfold p9
  by_cases e:x=k∧y=i
  ·obtain ⟨rfl,rfl⟩:=e
   rw [Maps.has_put_same (k:=IC x y) h.map trivial,if_pos ⟨rfl,rfl⟩]
   rfl
  ·rw [Maps.has_put_other (fun j=>e (V3 hx hy hk hi j)),h.has x y hx hy,if_neg e]
 ·unfold p9 at hb
  by_cases e:x=k∧y=i
  ·obtain ⟨rfl,rfl⟩:=e
   rw [if_pos ⟨rfl,rfl⟩] at hb
   cases hb
   exact Maps.atKey_put_same (k:=IC x y) h.map trivial _ _
  ·rw [if_neg e] at hb
   rw [Maps.atKey_put_other (fun j=>e (V3 hx hy hk hi j))]
   exact h.at_ x y b hx hy hb z
abbrev iN:=(Nat × List Nat) × Value
def mq (L:List Nat):List Value:=L.map fun (i:Nat)=>Value.int .i64 (i:Int)
def gp (T:List iN):List Value:=T.flatMap fun x=>[.int .i64 (x.1.1:Int),x.2]
theorem zk (T:List iN) (x:iN):gp (T ++ [x])=gp T ++ [.int .i64 (x.1.1:Int),x.2]:=by unfold gp;simp
theorem oN:∀ (T:List iN) (i:Nat) (x:iN),T[i]?=some x→(gp T)[i*2]?=some (.int .i64 (x.1.1:Int))∧(gp T)[i*2+1]?=some x.2
 | [],_,_,h=>by simp at h
 | q :: r,0,x,h=>by
  cases h
  exact ⟨rfl,rfl⟩
 | q :: r,i+1,x,h=>by
  have:=oN r i x (by simpa using h)
  rw [show (i+1)*2=i*2+1+1 by omega]
  exact this
theorem K7:∀ (T:List iN) (a:Nat) (x:iN),T[a]?=some x→∀ (L:List Nat) (v:Value),gp (T.set a ((x.1.1,L),v))=(gp T).set (a*2+1) v
 | [],_,_,h,_,_=>by simp at h
 | q :: r,0,x,h,L,v=>by
  cases h
  rfl
 | q :: r,a+1,x,h,L,v=>by
  have:=K7 r a x (by simpa using h) L v
  rw [show (a+1)*2+1=a*2+1+1+1 by omega]
  show [Value.int .i64 (q.1.1:Int),q.2]++gp (r.set a ((x.1.1,L),v))=_
  rw [this]
  rfl
structure AZ (base:Nat) (W:World) (vo:Value) (T:List iN):Prop where
 row:W.ownsRow base 79 2 vo T.length (gp T)
 own:∀ x∈T,W.ownsRow base 3 1 x.2 x.1.2.length (mq x.1.2)
 pos:∀ x∈T,0<x.1.2.length
 apart:T.Pairwise fun x y=>x.2.ownBlock≠y.2.ownBlock
theorem AZ.nil (base:Nat) (W:World):AZ base W (.slice none 0 0) []:=⟨World.ownsRow_nil _ _ _ _,fun _ h=>absurd h List.not_mem_nil,fun _ h=>absurd h List.not_mem_nil,List.Pairwise.nil⟩
theorem AZ.kept {base:Nat} {W W':World} {vo:Value} {T:List iN} {row:Option Nat} (h:AZ base W vo T) (hg:W.grownBy W' row) (hr:∀ g,row=some g→∀ cs t fz,W.heap[g]?≠some (.cells cs t fz)):AZ base W' vo T:=by
 have hk:∀ {e:TypeId} {size n:Nat} {v:Value} {xs:List Value},W.ownsRow base e size v n xs→W'.ownsRow base e size v n xs:=fun {e size n v xs} ho=>ho.kept hg (by
  cases hv:v.ownBlock with
  | none=>exact .inl rfl
  | some g =>
   right
   intro e2
   obtain ⟨cur,fz,hc⟩:=bD ho hv
   exact hr g e2.symm _ _ _ hc)
 exact ⟨hk h.row,fun x hx=>hk (h.own x hx),h.pos,h.apart⟩
theorem AZ.below {base:Nat} {W W':World} {vo:Value} {T:List iN} (h:AZ base W vo T) (hb:Below W.heap.size W W'):AZ base W' vo T:=h.kept (jd none hb) (fun g e=>by cases e)
theorem dn {W:World} {base:Nat} {e1 e2:TypeId} {s1 s2 n1 n2:Nat} {v1 v2:Value} {x1 x2:List Value} (h1:W.ownsRow base e1 s1 v1 n1 x1) (h2:W.ownsRow base e2 s2 v2 n2 x2) (he:e1≠e2):v1.ownBlock=none∨v1.ownBlock≠v2.ownBlock:=by
 cases hv:v1.ownBlock with
 | none=>exact .inl rfl
 | some g =>
  right
  intro e
  obtain ⟨c1,f1,k1⟩:=bD h1 hv
  obtain ⟨c2,f2,k2⟩:=bD h2 e.symm
  rw [k1] at k2
  cases k2
  exact he rfl
theorem nD {W:World} {b1 b2:Nat} {e:TypeId} {s n:Nat} {v:Value} {xs:List Value} (h:W.ownsRow b1 e s v n xs) (hb:b2≤b1):W.ownsRow b2 e s v n xs:=by
 obtain ⟨hl,h | ⟨g,cap,cur,h1,h2,h3⟩⟩:=h
 ·exact ⟨hl,.inl h⟩
 ·exact ⟨hl,.inr ⟨g,cap,cur,h1,Nat.le_trans hb h2,h3⟩⟩
theorem AZ.push {base:Nat} {W W':World} {vo vz:Value} {T:List iN} {k i:Nat} {o:Obj} (h:AZ base W vo T) (hb:base≤W.heap.size)
  (hg:((W.alloc (.cells #[.int .i64 (i:Int)] 3)).alloc o).grownBy W' vo.ownBlock) (hown:W'.ownsRow base 79 2 vz (T.length+1) (gp T ++ [.int .i64 (k:Int),.slice (some ⟨W.heap.size,0,none⟩) 1 1])) :
  AZ base W' vz (T ++ [((k,[i]),.slice (some ⟨W.heap.size,0,none⟩) 1 1)]):=by
 have hnew:(W.alloc (.cells #[.int .i64 (i:Int)] 3)).ownsRow base 3 1 (.slice (some ⟨W.heap.size,0,none⟩) 1 1) 1 (mq [i]):=
  ⟨rfl,.inr ⟨_,1,#[.int .i64 (i:Int)],rfl,hb,World.alloc_heap_new _ _,Nat.le_refl _,by decide,rfl,rfl⟩⟩
 have hk:∀ {n:Nat} {v:Value} {xs:List Value},(W.alloc (.cells #[.int .i64 (i:Int)] 3)).ownsRow base 3 1 v n xs→W'.ownsRow base 3 1 v n xs:=fun {n v xs} ho =>
  (ho.alloc o).kept hg (dn (ho.alloc o) ((h.row.alloc _).alloc o) (by decide))
 refine ⟨?_,fun x hx=>?_,fun x hx=>?_,?_⟩
 ·rw [zk,List.length_append]
  exact hown
 ·rcases List.mem_append.1 hx with hx | hx
  ·exact hk ((h.own x hx).alloc _)
  ·rw [List.mem_singleton] at hx
   rw [hx]
   exact hk hnew
 ·rcases List.mem_append.1 hx with hx | hx
  ·exact h.pos x hx
  ·rw [List.mem_singleton] at hx
   rw [hx]
   exact Nat.one_pos
 ·rw [List.pairwise_append]
  refine ⟨h.apart,List.pairwise_singleton _ _,fun x hx y hy e=>?_⟩
  rw [List.mem_singleton] at hy
  rw [hy] at e
  have:=((h.own x hx).lt _ e).2
  exact Nat.lt_irrefl _ this
theorem A7 {W:World} {base:Nat} {e:TypeId} {s n:Nat} {v u:Value} {xs:List Value} {g j:Nat} (h:W.ownsRow base e s v n xs) (hv:v.ownBlock=some g):(W.setCell ⟨g,j,none⟩ u).ownsRow base e s v n (xs.set j u):=by
 obtain ⟨hl,h⟩:=h
 refine ⟨by rw [List.length_set];exact hl,?_⟩
 rcases h with ⟨rfl,_⟩ | ⟨g',cap,cur,rfl,h1,h2,h3,h4,h5,h6⟩
 ·cases hv
 ·have:g'=g:=by cases hv;rfl
  subst this
  refine .inr ⟨g',cap,cur.setIfInBounds j u,rfl,h1,aJ u h2,h3,h4,by rw [Array.size_setIfInBounds];exact h5,?_⟩
  rw [Array.toList_setIfInBounds,List.take_set,h6]
theorem AZ.app {base:Nat} {W W1 W2:World} {vo v':Value} {T:List iN} {a i g:Nat} {x:iN} (h:AZ base W vo T) (hx:T[a]?=some x) (h1:W.grownBy W1 none) (hg:W1.grownBy W2 x.2.ownBlock)
  (hown:W2.ownsRow base 3 1 v' (x.1.2.length+1) (mq x.1.2 ++ [.int .i64 (i:Int)])) (hloc:v'.ownBlock=x.2.ownBlock∨v'.ownBlock=some W1.heap.size) (hv:vo.ownBlock=some g) :
  AZ base (W2.setCell ⟨g,a*2+1,none⟩ v') vo (T.set a ((x.1.1,x.1.2 ++ [i]),v'))∧W2.ownsRow base 79 2 vo T.length (gp T):=by
 obtain ⟨ha,hxa⟩:=List.getElem?_eq_some_iff.1 hx
 have hxm:x∈T:=List.mem_of_getElem? hx
 have hA:=h.kept h1 (fun g e=>by cases e)
 have hrow2:W2.ownsRow base 79 2 vo T.length (gp T):=hA.row.kept hg (dn hA.row (hA.own x hxm) (by decide))
 have hset:∀ {n:Nat} {v:Value} {xs:List Value},W2.ownsRow base 3 1 v n xs→(W2.setCell ⟨g,a*2+1,none⟩ v').ownsRow base 3 1 v n xs:=fun {n v xs} ho=>by
  refine ho.kept (bK _ _ _ v') ?_
  have:=dn ho hrow2 (by decide)
  rw [hv] at this
  exact this
 have hlen:(mq (x.1.2 ++ [i]))=mq x.1.2 ++ [.int .i64 (i:Int)]:=by unfold mq;simp
 have hne:∀ j (hj:j<T.length),j≠a→T[j].2.ownBlock≠x.2.ownBlock:=fun j hj hja=>by
  rw [←hxa]
  rcases Nat.lt_or_gt_of_ne hja with h1 | h1
  ·exact (List.pairwise_iff_getElem.1 h.apart) j a hj ha h1
  ·exact fun e=>(List.pairwise_iff_getElem.1 h.apart) a j ha hj h1 e.symm
 have hne':∀ j (hj:j<T.length),j≠a→T[j].2.ownBlock≠v'.ownBlock:=fun j hj hja=>by
  rcases hloc with e | e
  ·rw [e];exact hne j hj hja
  ·rw [e]
   intro e2
   have:=((hA.own _ (List.getElem_mem hj)).lt _ e2).2
   exact Nat.lt_irrefl _ this
 refine ⟨⟨?_,fun y hy=>?_,fun y hy=>?_,?_⟩,hrow2⟩
 ·rw [K7 T a x hx,List.length_set]
  exact A7 hrow2 hv
 ·obtain ⟨j,hj,rfl⟩:=List.mem_iff_getElem.1 hy
  rw [List.length_set] at hj
  rw [List.getElem_set]
  by_cases e:a=j
  ·rw [if_pos e]
   dsimp only
   rw [hlen,List.length_append]
   exact hset hown
  ·rw [if_neg e]
   exact hset ((hA.own _ (List.getElem_mem hj)).kept hg (.inr (hne j hj (Ne.symm e))))
 ·obtain ⟨j,hj,rfl⟩:=List.mem_iff_getElem.1 hy
  rw [List.length_set] at hj
  rw [List.getElem_set]
  split
  ·dsimp only
   rw [List.length_append,List.length_singleton]
   omega
  ·exact h.pos _ (List.getElem_mem hj)
 ·rw [List.pairwise_iff_getElem]
  intro p q hp hq hpq
  rw [List.length_set] at hp hq
  rw [List.getElem_set,List.getElem_set]
  by_cases e1:a=p
  ·rw [if_pos e1,if_neg (by omega)]
   exact fun e=>hne' q hq (by omega) e.symm
  ·rw [if_neg e1]
   by_cases e2:a=q
   ·rw [if_pos e2]
    exact hne' p hp (by omega)
   ·rw [if_neg e2]
    exact (List.pairwise_iff_getElem.1 h.apart) p q hp hq hpq
end Go.Proofs.YtglncfkoohgdaaaGreatDoor
namespace Go.Proofs.YtglncfkoohgdaaaGreatDoor
open Go.RowKit Go.Shelf Go.Maps
open Go.Lib (decDigits itoa nDigits)
attribute [local go_sem] Oper.semAt_some
theorem jg {H:Type} {P:Program} (w:World) {ops:Array Oper} {rest:List Oper} {o:Oper} {a:Act} {Q:Exit→Act→World→Prop}
  (hg:o.guard=none) (m x:Operand) (t:TypeId) (hop:o.op=Op.lookup t m x true)
  (k e:TypeId) (q:IntKind) (K:Keyed P k) (ht:P.underlying t=some (.map k e)) (he:P.underlying e=some (.int q)) (hz:(zeroValue e).run P w=.ok (.int q 0) w) (b n:Nat) (D:DataW H)
  (hm:a.eval m=.map (some b)) (hown:w.ownsMap P k (plainElem P e) b n D) (key:Value) (kl:Lit) (hx:a.eval x=key) (hkey:keyOf P k key=some kl) (c:Int) (hat:D.atKey kl (.lit (.int q 0))=.lit (.int q c))
  (hK:wpList P ops Q rest (a.put o.dst (.tuple #[.int q c,.bool (Maps.has D kl)])) w) :
  wpList P ops Q (o :: rest) a w:=
 wpList_lookup_own_ok_int w hg m x t hop k e q K ht he hz b n D hm hown key kl hx hkey (fun c' hat' _=>by
  rw [hat] at hat'
  simp only [DataW.lit.injEq,Lit.int.injEq,true_and] at hat'
  rw [←hat']
  exact hK)
theorem K8:Tryz.prog.underlying 148=some (.map 151 3):=Tryz.underlying148
theorem IE (w:World):(zeroValue 3).run Tryz.prog w=.ok (.int .i64 0) w:=by kernel_rfl
theorem Ah:SliceOf 77 3 (.int .i64 0) 1 8:=⟨Tryz.underlying77,by kernel_rfl,rfl,by decide⟩
theorem xV:SliceOf 74 79 (.agg #[.int .i64 0,.slice none 0 0]) 2 32:=⟨Tryz.underlying74,by kernel_rfl,rfl,by decide⟩
structure zm (wA:World) (B c m:Nat) (st:gz) (vo:Value) (T:List iN) (Dm:DataW Unit) (W:World):Prop where
 uj:AZ wA.heap.size W vo T
 eq:T.map (·.1)=st.out
 map:W.ownsMap Tryz.prog 151 (plainElem Tryz.prog 3) B c Dm
 tells:K6 Dm st.at_
 ok:qd m st
 low:Below wA.heap.size wA W
theorem zm.below {wA:World} {B c m:Nat} {st:gz} {vo:Value} {T:List iN} {Dm:DataW Unit} {W W':World} (h:zm wA B c m st vo T Dm W) (hb:Below W.heap.size W W'):zm wA B c m st vo T Dm W':=
 ⟨h.uj.below hb,h.eq,h.map.kept (jd none hb) (by simp),h.tells,h.ok,h.low.trans (hb.mono h.low.size)⟩
theorem zm.len {wA:World} {B c m:Nat} {st:gz} {vo:Value} {T:List iN} {Dm:DataW Unit} {W:World} (h:zm wA B c m st vo T Dm W):T.length=st.out.length:=by rw [←h.eq,List.length_map]
theorem zm.put {wA:World} {B c m:Nat} {st:gz} {vo:Value} {T:List iN} {Dm:DataW Unit} {W W':World} (h:zm wA B c m st vo T Dm W) {k i a:Nat} (hk:k<2 ^ 62) (hi:i<2 ^ 62) (hB:wA.heap.size≤B)
  (_hm:W'.ownsMap Tryz.prog 151 (plainElem Tryz.prog 3) B (c+1) (Dm.put (IC k i) (.lit (.int .i64 (a:Int))))) (hg:W.grownBy W' (some B)) :
  AZ wA.heap.size W' vo T∧K6 (Dm.put (IC k i) (.lit (.int .i64 (a:Int)))) (p9 st.at_ k i a)∧Below wA.heap.size wA W':=by
 refine ⟨h.uj.kept hg (fun g e cs t fz hc=>?_),h.tells.put hk hi a,h.low.grown hg h.low.size (fun j hj=>by cases hj;exact hB)⟩
 cases e
 obtain ⟨es,clock,hb,_⟩:=h.map
 rw [hc] at hb
 cases hb
theorem Ps {st:gz} {k i a:Nat} (h:st.at_ k i=some a):st.iv k i=⟨st.out.modify a (fun b=>(b.1,b.2 ++ [i])),st.at_⟩:=by
 unfold gz.iv
 rw [h]
theorem Pt {st:gz} {k i:Nat} (h:st.at_ k i=none):st.iv k i=⟨st.out ++ [(k,[i])],p9 st.at_ k i st.out.length⟩:=by
 unfold gz.iv
 rw [h]
theorem DK {T:List iN} {a i:Nat} {x:iN} (hx:T[a]?=some x) (v:Value):(T.set a ((x.1.1,x.1.2 ++ [i]),v)).map (·.1)=(T.map (·.1)).modify a (fun b=>(b.1,b.2 ++ [i])):=by
 apply List.ext_getElem?
 intro j
 rw [List.getElem?_map,List.getElem?_set,List.getElem?_modify,List.getElem?_map]
 by_cases e:a=j
 ·subst e
  rw [if_pos rfl,if_pos (List.getElem?_eq_some_iff.1 hx).1]
  simp [hx]
 ·rw [if_neg e]
  simp [e]
theorem zm.ade {wA:World} {B c m:Nat} {st:gz} {vo v':Value} {T:List iN} {Dm:DataW Unit} {W W1 W2:World} {k i a g:Nat} {x:iN} (h:zm wA B c m st vo T Dm W) (hat:st.at_ k i=some a) (hx:T[a]?=some x) (hv:vo.ownBlock=some g)
  (h1:W.grownBy W1 none) (hg:W1.grownBy W2 x.2.ownBlock) (hown:W2.ownsRow wA.heap.size 3 1 v' (x.1.2.length+1) (mq x.1.2 ++ [.int .i64 (i:Int)])) (hloc:v'.ownBlock=x.2.ownBlock∨v'.ownBlock=some W1.heap.size) :
  zm wA B (c+1) (m+1) (st.iv k i) vo (T.set a ((x.1.1,x.1.2 ++ [i]),v')) Dm (W2.setCell ⟨g,a*2+1,none⟩ v')∧W2.ownsRow wA.heap.size 79 2 vo T.length (gp T):=by
 have hb1:wA.heap.size≤W1.heap.size:=Nat.le_trans h.low.size h1.size
 obtain ⟨hB,hrow⟩:=h.uj.app hx h1 hg hown hloc hv
 have hxm:x∈T:=List.mem_of_getElem? hx
 have hnm:∀ {e:TypeId} {s n:Nat} {v:Value} {xs:List Value},W.ownsRow wA.heap.size e s v n xs→some B≠v.ownBlock:=fun {e s n v xs} ho e=>by
  obtain ⟨c1,f1,k1⟩:=bD ho e.symm
  obtain ⟨es,clock,hb,_⟩:=h.map
  rw [k1] at hb
  cases hb
 refine ⟨⟨hB,?_,?_,?_,h.ok.iv,?_⟩,hrow⟩
 ·rw [DK hx,h.eq,Ps hat]
 ·have h2:=((h.map.kept h1 (by simp)).kept hg (hnm (h.uj.own x hxm))).setCell (a:=⟨g,a*2+1,none⟩) (fun e=>hnm h.uj.row (by rw [hv];exact congrArg some e)) v'
  exact h2.mono (Nat.le_succ c)
 ·rw [Ps hat]
  exact h.tells
 ·have h2:=(h.low.grown h1 h.low.size (fun j hj=>by cases hj)).grown hg hb1 (fun j hj=>((h.uj.own x hxm).lt j hj).1)
  exact h2.setCell (p:=⟨g,a*2+1,none⟩) ((h.uj.row.lt g hv).1) v'
theorem zm.adf {wA:World} {B c m:Nat} {st:gz} {vo vz:Value} {T:List iN} {Dm:DataW Unit} {W W1 W2:World} {k i:Nat} {o:Obj} (h:zm wA B c m st vo T Dm W) (hat:st.at_ k i=none) (hk:k<2 ^ 62) (hi:i<2 ^ 62) (hB:wA.heap.size≤B)
  (hm:W1.ownsMap Tryz.prog 151 (plainElem Tryz.prog 3) B (c+1) (Dm.put (IC k i) (.lit (.int .i64 (T.length:Int))))) (hg1:W.grownBy W1 (some B))
  (hg:((W1.alloc (.cells #[.int .i64 (i:Int)] 3)).alloc o).grownBy W2 vo.ownBlock) (hown:W2.ownsRow wA.heap.size 79 2 vz (T.length+1) (gp T ++ [.int .i64 (k:Int),.slice (some ⟨W1.heap.size,0,none⟩) 1 1])) :
  zm wA B (c+1) (m+1) (st.iv k i) vz (T ++ [((k,[i]),.slice (some ⟨W1.heap.size,0,none⟩) 1 1)]) (Dm.put (IC k i) (.lit (.int .i64 (T.length:Int)))) W2:=by
 obtain ⟨hb,ht,hl⟩:=h.put hk hi hB hm hg1
 have hsz:wA.heap.size≤W1.heap.size:=hl.size
 have hnm:some B≠vo.ownBlock:=fun e=>by
  obtain ⟨c1,f1,k1⟩:=bD hb.row e.symm
  obtain ⟨es,clock,hb,_⟩:=hm
  rw [k1] at hb
  cases hb
 refine ⟨hb.push hsz hg hown,?_,((hm.alloc _).alloc o).kept hg hnm,?_,h.ok.iv,?_⟩
 ·rw [List.map_append,h.eq,Pt hat]
  rfl
 ·rw [Pt hat,←h.len]
  exact ht
 ·have h2:=(hl.trans ((ae _ _).mono hsz)).trans ((ae (W1.alloc (.cells #[.int .i64 (i:Int)] 3)) o).mono (Nat.le_trans hsz (ae W1 _).size))
  exact h2.grown hg h2.size (fun j hj=>(hb.row.lt j hj).1)
theorem zm.aeR {wA:World} {B c m:Nat} {st:gz} {vo:Value} {T:List iN} {Dm:DataW Unit} {W:World} (h:zm wA B c m st vo T Dm W) (k:Nat) {s:Stp} (hs:s.k≠1):zm wA B (c+1) m (gz.lk k st s) vo T Dm W:=by
 unfold gz.lk
 rw [if_neg hs]
 exact ⟨h.uj,h.eq,h.map.mono (Nat.le_succ c),h.tells,h.ok,h.low⟩
theorem zm.adg {wA:World} {B c m:Nat} {st:gz} {vo:Value} {T:List iN} {Dm:DataW Unit} {W W':World} {k a:Nat} {s:Stp} (h:zm wA B c m st vo T Dm W) (hs:s.k=1) (ha:st.at_ k s.i=some a) (hk:k+1<2 ^ 62) (hj:s.j<2 ^ 62) (hB:wA.heap.size≤B)
  (hm:W'.ownsMap Tryz.prog 151 (plainElem Tryz.prog 3) B (c+1) (Dm.put (IC (k+1) s.j) (.lit (.int .i64 (a:Int))))) (hg:W.grownBy W' (some B)):zm wA B (c+1) m (gz.lk k st s) vo T (Dm.put (IC (k+1) s.j) (.lit (.int .i64 (a:Int)))) W':=by
 obtain ⟨hb,ht,hl⟩:=h.put hk hj hB hm hg
 have hok:=h.ok.lk (k:=k) (s:=s) (fun _=>⟨a,ha⟩)
 have e:gz.lk k st s=⟨st.out,p9 st.at_ (k+1) s.j a⟩:=by
  unfold gz.lk
  rw [if_pos hs,ha]
  rfl
 rw [e] at hok ⊢
 exact ⟨hb,h.eq,hm,ht,hok,hl⟩
end Go.Proofs.YtglncfkoohgdaaaGreatDoor
namespace Go.Proofs.YtglncfkoohgdaaaGreatDoor
open Go.RowKit Go.Shelf Go.Maps
open Go.Lib (decDigits itoa nDigits)
open Go.Lib (hid)
attribute [local go_sem] Oper.semAt_some
theorem zm.okm {wA:World} {B c m m2:Nat} {st:gz} {vo:Value} {T:List iN} {Dm:DataW Unit} {W:World} (h:zm wA B c m st vo T Dm W) (hm:m≤m2):zm wA B c m2 st vo T Dm W:=⟨h.uj,h.eq,h.map,h.tells,h.ok.mono hm,h.low⟩
theorem AZ.lower {b1 b2:Nat} {W:World} {vo:Value} {T:List iN} (h:AZ b1 W vo T) (hb:b2≤b1):AZ b2 W vo T:=⟨nD h.row hb,fun x hx=>nD (h.own x hx) hb,h.pos,h.apart⟩
theorem NI {α β:Type} (f:β→α→β) {L:List α} {j:Nat} {x:α} (h:L[j]?=some x) (b:β):(L.take (j+1)).foldl f b=f ((L.take j).foldl f b) x:=by
 rw [List.take_add_one,h,List.foldl_append]
 rfl
theorem aaL {L:List Stp} {j:Nat} (h:j<L.length):L[j]?=some (gy L j):=by rw [jZ h,List.getElem?_eq_getElem h]
theorem aaM {H:Type} {Pr:Program} {kt:TypeId} {R:Value→Option (DataW H × List MemPlace)} {W W':World} {base:Nat} {e:TypeId} {s n B c:Nat} {v:Value} {xs:List Value} {Dm:DataW H} (ho:W.ownsRow base e s v n xs) (hm:W.ownsMap Pr kt R B c Dm) (hg:W.grownBy W' (some B)):W'.ownsRow base e s v n xs:=by
 refine ho.kept hg ?_
 cases hv:v.ownBlock with
 | none=>exact .inl rfl
 | some g =>
  refine .inr fun e=>?_
  obtain ⟨cur,fz,hc⟩:=bD ho hv
  obtain ⟨es,clock,hb,_⟩:=hm
  cases e
  rw [hc] at hb
  cases hb
theorem K9 (w:World) (a b:Value) (t:TypeId) (n:Nat) (hn:w.heap.size=n):∀ (j:Nat) (u:Value),[a,b][j]?=some u→(w.alloc (.cells #[a,b] t)).cell? ((⟨n,0,none⟩ : Addr).add j)=some u:=by
 intro j u hj
 rw [←hn,sO,World.cell?_alloc_new]
 simpa using hj
theorem IG {w:World} (vg va vt:Value) (P:bQ) (hO:dm P) (hP:l9 w vg va vt P) (hw:Good w) :
  Calls Tryz.prog 29 #[iX vg va vt P.cs] w fun e w'=>∃ v T,e=.returned (.tuple #[v,.int .i64 0])∧T.map (·.1)=uN P∧AZ w.heap.size w' v T∧Below w.heap.size w w':=by
 have G5:=hid (fun W' (hb:Below w.heap.size w W')=>xH vg va vt P hO (hP.below hb) (hw.below hb))
 have HO:=hid hO
 have QY:=hid hP
 obtain ⟨pg,cg,rfl,hcg,jK⟩:=hP.g.slice
 obtain ⟨pa,ca,rfl,ET,ma⟩:=hP.a.slice
 obtain ⟨oQ,ct,rfl,hct,mf⟩:=hP.t.slice
 have hn2:=hO.n2
 have xE:=hO.n20
 unfold maxLen at jK ma mf
 unfold iX at *
 clear hO hP
 generalize tx P.cs.ch=t1 at *
 generalize tx P.cs.mi=t2 at *
 generalize tx P.cs.ga=t3 at *
 generalize tx P.cs.re=t4 at *
 generalize (P.xs.map tx).length=na at *
 generalize (P.tp.map tx).length=nt at *
 generalize hn:P.lg.length=n at *
 have HN:=hid hn
 obtain ⟨m,hm⟩ : ∃ m,m=n-1:=⟨_,rfl⟩
 rw [←hm] at G5
 have Hf:=hid hm
 have UK:m≤20:=by omega
 clear hn hm
 have hmm:=@run_makeMap Tryz.prog
 go_enter Tryz.func29,Tryz.ntmps29
 go_upto_region 1 with fail
 obtain ⟨wP,bX⟩ : ∃ wP,wP=w.alloc (Obj.cells #[.slice pg n cg,.slice pa na ca,.slice oQ nt ct,.string t1,.string t2,.string t3,.string t4] 37):=⟨_,rfl⟩
 have eT:Below w.heap.size w wP:=by rw [bX];exact ae _ _
 have hpq:wP.heap[w.heap.size]?=some (.cells #[.slice pg n cg,.slice pa na ca,.slice oQ nt ct,.string t1,.string t2,.string t3,.string t4] 37 (0,0)):=by rw [bX];exact World.alloc_heap_new _ _
 rw [←bX]
 clear bX
 obtain ⟨p0,p1,p2,p3,p4,p5,p6⟩:=au hpq
 have uH:=hid eT
 have mG:=hid hpq
 clear hpq eT
 go_wp2_with fail
 refine (G5.out wP uH.out).mono ?_
 rintro e w1 ⟨vl,rfl,hlk,hb1⟩
 have HB1:=hid (uH.out.trans (hb1.mono uH.out.size))
 obtain ⟨pl,cl,rfl,hcl,gZ⟩:=hlk.slice
 unfold maxLen at gZ
 have HL1:=hid hlk
 obtain ⟨wM,hwM⟩ : ∃ wM,wM=w1.alloc (.map #[] 0):=⟨_,rfl⟩
 have O7:Below w1.heap.size w1 wM:=by rw [hwM];exact ae _ _
 have HB0:=hid (show zm w1 w1.heap.size 0 (8*0) (ky P 0) (.slice none 0 0) [] (.map []) wM from ⟨AZ.nil _ _,rfl,by rw [hwM];exact World.ownsMap_made _ _ _ _,K6.nil,DI HO.out 0 (by have:=HN.out;omega),O7⟩)
 have hpm:=(O7.block _ (aa ((hb1.block _ (aa mG.out)).trans mG.out))).trans ((hb1.block _ (aa mG.out)).trans mG.out)
 have HWM:=hid hwM
 clear hlk hb1 p0 p1 p2 p3 p4 p5 p6 hwM O7 G5
 obtain ⟨p0,p1,p2,p3,p4,p5,p6⟩:=au hpm
 clear hpm mG
 go_upto_region 6 with fail
 rw [←HWM.out]
 clear hmm
 go_wp2_with fail
 go_loopw [7,8,9,10,11,12,14,27] (fun vo _ _ _ _ _ _ iv wr=>∃ (k c:Nat) (T:List iN) (Dm:DataW Unit),k<n∧iv=.int .i64 (k:Int)∧c≤24*k∧zm w1 w1.heap.size c (8*k) (ky P k) vo T Dm wr) (fun _ _ _ _ _ _ _ iv _=>n-(intOf iv).toNat)
 case atStart=>exact ⟨0,0,[],.map [],by omega,rfl,Nat.le_refl _,HB0.out⟩
 case round =>
  clear HB0 p0 p1 p2 p3 p4 p5 p6 HWM
  obtain ⟨k,c,T,Dm,hk,rfl,hc,hB⟩:=hrel
  have kn:decide ((k:Int)<(n:Int))=true:=decide_eq_true (by omega)
  have Jc:decide (k<n)=true:=decide_eq_true hk
  have i1:(0:Int)≤(k:Int):=by omega
  have i2:(k:Int)<(n:Int):=by omega
  have k5:IntKind.i64.wrap ((k:Int)+1)=(k:Int)+1:=IntWalk.i64_in _ (by omega)
  have NJ:k<2 ^ 62:=by omega
  have hbW:=HB1.out.trans (hB.low.mono HB1.out.size)
  obtain ⟨bg,og,ug,rfl,hbl,cg0,DY⟩:=(QY.out.g.below hbW).at (show k<P.lg.length by rw [HN.out];exact hk)
  obtain ⟨pv,cv,rfl,hcv,MW⟩:=DY.slice
  unfold maxLen at MW
  have agE:(P.lg.getD k []).length≤8:=(HO.out.log k (by rw [HN.out];exact hk)).2
  obtain ⟨nl,hnl⟩ : ∃ nl,nl=(P.lg.getD k []).length:=⟨_,rfl⟩
  rw [←hnl] at hcv agE cg0
  have Ff:=hid (show (ai P k).length=nl from hnl.symm)
  have HB:=hid hB
  clear DY hB hbW hnl
  go_wp2_with fail
  clear cg0
  generalize wr=wO at *
  go_loopw [7,10,11,12,34] (fun vo _ _ _ iv wr=>∃ (i c2:Nat) (T:List iN) (Dm:DataW Unit),i≤nl∧iv=.int .i64 (i:Int)∧c2≤24*k+i∧zm w1 w1.heap.size c2 (8*k+i) ((ky P k).vO k i) vo T Dm wr) (fun _ _ _ _ iv _=>nl-(intOf iv).toNat)
  case atStart=>exact ⟨0,c,T,Dm,Nat.zero_le _,rfl,by omega,HB.out⟩
  case round =>
   clear HB
   obtain ⟨i,c2,T2,Dm2,hi,rfl,hc2,hB2⟩:=hrel
   have HB2:=hid hB2
   by_cases hin:i<nl
   ·have in1:decide ((i:Int)<(nl:Int))=true:=decide_eq_true (by omega)
    have in2:decide (i<nl)=true:=decide_eq_true hin
    have in5:IntKind.i64.wrap ((i:Int)+1)=(i:Int)+1:=IntWalk.i64_in _ (by omega)
    have V4:i<2 ^ 62:=by omega
    have hkey:=DJ NJ V4
    have R3:T2.length≤8*k+i:=by rw [hB2.len];exact hB2.ok.len
    have hsz:=hB2.low.size
    obtain ⟨i0,hii,hz0,hz1,hz2⟩:=info_parts Ah.info
    obtain ⟨i3,hjj,hy0,hy1,hy2⟩:=info_parts xV.info
    have hmap:=hB2.map
    have V5:c2<maxLen:=by unfold maxLen;omega
    cases hat:((ky P k).vO k i).at_ k i with
    | some a =>
     have hlt:a<T2.length:=by rw [hB2.len];exact hB2.ok.lt _ _ _ hat
     obtain ⟨⟨⟨fx,Lx⟩,vx⟩,hx⟩ : ∃ x,T2[a]?=some x:=⟨_,List.getElem?_eq_getElem hlt⟩
     have hxm:=List.mem_of_getElem? hx
     have hrow:=hB2.uj.row
     have hown:=hB2.uj.own _ hxm
     have hpos:=hB2.uj.pos _ hxm
     have hLx:Lx.length≤8*k+i:=(hB2.ok.each (fx,Lx) (by rw [←hB2.eq];exact List.mem_map_of_mem (f:=(·.1)) hxm)).2
     dsimp only at hown hpos
     rcases hrow.2 with ⟨_,h0⟩ | ⟨g,cap,cur,rfl,_,hgb,hcap,aeS,_,_⟩
     ·omega
     rcases hown.2 with ⟨_,h0⟩ | ⟨gx,ahA,ahB,rfl,_,hgx,ag9,adh,_,_⟩
     ·omega
     obtain ⟨q1,f1,_⟩:=dH hrow rfl (oN T2 a _ hx).2
     have lg:=lt_of_some hgb
     have lgx:=lt_of_some hgx
     have hhas:Maps.has Dm2 (IC k i)=true:=by rw [hB2.tells.has k i NJ V4,hat];rfl
     have V6:=hB2.tells.at_ k i a NJ V4 hat (.lit (.int .i64 0))
     have j1:(0:Int)≤(a:Int):=by omega
     have j2:(a:Int)<(T2.length:Int):=by omega
     have HAT:=hid hat
     have HX:=hid hx
     unfold maxLen at aeS adh
     generalize hlx:Lx.length=nx at *
     generalize aaN:T2.length=n2 at *
     have Uf:=hid hlx
     have YV:=hid aaN
     dsimp only at q1
     clear hB2 hat hx hxm hgb hgx hrow hlx aaN
     have HIA:=hid (fun (v':Value) (W2:World)=>HB2.out.ade (v':=v') (W1:=wr.alloc (.cells #[.int .i64 (i:Int)] 3)) (W2:=W2) (g:=g) HAT.out HX.out rfl (World.grownBy_alloc wr _ none))
     go_wp2_with (first
      | (at_lookup;refine jg _ rfl _ _ 148 rfl 151 3 .i64 zi K8 Tryz.underlying3 (IE _) w1.heap.size c2 Dm2 rfl hmap _ _ rfl hkey (a:Int) V6 ?_)
      | (at_builtin;refine wpList_append_own_at _ rfl _ _ 77 rfl w1.heap.size 3 i0 (.int .i64 0) 1 8 Ah.ht hii hz0 hz1 hz2 Ah.hzs Ah.hsz _ nx (mq Lx) rfl (hown.alloc _) ⟨wr.heap.size,0,none⟩ 1 1 [.int .i64 (i:Int)] rfl rfl (cell_one_new _ _ _) (by simp [Value.oneCell']) (by unfold maxLen;omega) (by omega) (by simpa using Nat.le_succ_of_le hsz) ?_;intro v2 w2 hown2 hg2 aeT abB;obtain ⟨g9,rO,rfl⟩:=ownsRow_succ hown2;have HAP:=hid (HIA.out _ _ hg2 (by dsimp only;rw [Uf.out];exact hown2) abB);obtain ⟨q2,f2,_⟩:=dH HAP.out.2 (by rw [YV.out]) (oN T2 a _ HX.out).2;dsimp only at q2;clear hown2 hg2 aeT abB q1 f1))
     refine ⟨⟨i+1,c2+1,_,_,hin,aA i,by omega,HAP.out.1⟩,?_⟩
     show nl-((i:Int)+1).toNat<nl-((i:Int)).toNat
     omega
    | none =>
     obtain ⟨_,uf,uh,rfl,Q9,V7,_⟩:=Reads.bu hB2.uj.row
     have hrow:=hB2.uj.row
     have hhas:Maps.has Dm2 (IC k i)=false:=by rw [hB2.tells.has k i NJ V4,hat];rfl
     have V6:Dm2.atKey (IC k i) (.lit (.int .i64 0))=.lit (.int .i64 0):=atKey_of_not_has hhas _
     have hwf:(Lit.int .i64 (T2.length:Int)).wf=true:=WalkArith.wf_i64 (by omega)
     have hT0:T2.length≤1000:=by omega
     unfold maxLen at V7
     have HAT:=hid hat
     have GR:=hid (fun (vz:Value) (W1 W2:World) (o:Obj)=>HB2.out.adf (vz:=vz) (W1:=W1) (W2:=W2) (o:=o) HAT.out NJ V4 (Nat.le_refl _))
     generalize aaN:T2.length=n2 at *
     clear hB2 hat aaN
     go_wp2_with (first
      | (at_lookup;refine jg _ rfl _ _ 148 rfl 151 3 .i64 zi K8 Tryz.underlying3 (IE _) w1.heap.size c2 Dm2 rfl hmap _ _ rfl hkey 0 V6 ?_)
      | (at_mapUpdate;refine wpList_mapUpdate_own _ rfl _ _ _ 148 rfl 151 3 zi K8 _ w1.heap.size c2 Dm2 rfl hmap V5 _ _ _ rfl rfl hkey _ [] (plainElem_int Tryz.underlying3 hwf) ?_;intro w3 hown3 hg3;have ahC:=Nat.le_trans hsz hg3.size;have agF:=hid hown3;have V8:=hid hg3;have hrow3:=aaM hrow hmap hg3;clear hown3 hg3)
      | (at_builtin;refine wpList_append_own _ rfl _ _ 74 rfl w1.heap.size 79 i3 (.agg #[.int .i64 0,.slice none 0 0]) 2 32 xV.ht hjj hy0 hy1 hy2 xV.hzs xV.hsz _ n2 (gp T2) rfl ((hrow3.alloc _).alloc _) ⟨w3.heap.size+1,0,none⟩ 1 1 [.int .i64 (k:Int),.slice (some ⟨w3.heap.size,0,none⟩) 1 1] rfl rfl (K9 _ _ _ _ _ (by simp)) (by simp [Value.oneCell']) (by unfold maxLen;omega) (by omega) (by simp;omega) ?_;intro vz w5 hown5 hg5 xW;have HNI:=hid (GR.out _ _ _ _ agF.out V8.out hg5 hown5);clear hown5 hg5 xW))
     refine ⟨⟨i+1,c2+1,_,_,hin,aA i,by omega,HNI.out⟩,?_⟩
     show nl-((i:Int)+1).toNat<nl-((i:Int)).toNat
     omega
   ·obtain rfl:nl=i:=by omega
    have in1:decide ((nl:Int)<(nl:Int))=false:=decide_eq_false (by omega)
    obtain ⟨_,uf,uh,rfl,Q9,V7,_⟩:=Reads.bu hB2.uj.row
    unfold maxLen at V7
    clear hB2
    generalize wr=wO2 at *
    by_cases YU:k=m
    ·have km:((k:Int) == (m:Int))=true:=by rw [YU];simp
     have hbq:T2.map (·.1)=uN P:=by
      rw [HB2.out.eq]
      unfold uN
      rw [HN.out,←Hf.out,←YU,Ff.out]
     have R7:=hid hbq
     have HF:=hid (HB2.out.uj.lower (b2:=w.heap.size) HB1.out.size)
     have HLW:=hid (HB1.out.trans (HB2.out.low.mono HB1.out.size))
     clear hbq
     generalize T2.length=n2 at *
     go_wp2
     refine bodyPost_ret (v:=.tuple #[.slice uf n2 uh,.int .i64 0]) (by simp [results,Tryz.results29,go_sem]) rfl ?_
     exact ⟨_,T2,rfl,R7.out,HF.out,HLW.out⟩
    ·have km:((k:Int) == (m:Int))=false:=by simp;omega
     have agG:k<m:=by have:=Hf.out;omega
     have i3:(k:Int)<(m:Int):=by omega
     obtain ⟨b,off,u,rfl,KU,c0,c1,hst⟩:=HL1.out.at agG
     have c0:=(HB2.out.low.cell (p:=⟨b,off+k*2,none⟩) KU).trans c0
     obtain ⟨ps,cs,rfl,hcs,hcs2⟩:=hst.slice
     unfold maxLen at hcs2
     have HST:=hid hst
     have HK:=hid (show k+1<P.lg.length by have:=Hf.out;have:=HN.out;omega)
     have ac6:=xR HO.out HK.out
     obtain ⟨iL,zb⟩ : ∃ q,q=(aZ P k).length:=⟨_,rfl⟩
     rw [←zb] at hcs ac6 c0
     have aeU:=hid zb
     have HAS:=hid (fun i hi=>AY (k:=k) (ky P k) nl i hi)
     generalize tx (tY P k)=ttt at *
     generalize R3:T2.length=n2 at *
     clear hst c1 zb R3
     go_wp2_with fail
     clear c0
     go_loopw [14,82] (fun _ iv wr=>∃ (j c3:Nat) (Dm:DataW Unit),j≤iL∧iv=.int .i64 (j:Int)∧c3≤24*k+nl+j∧zm w1 w1.heap.size c3 (8*k+nl) (((aZ P k).take j).foldl (gz.lk k) ((ky P k).vO k nl)) (.slice uf n2 uh) T2 Dm wr) (fun _ iv _=>iL-(intOf iv).toNat)
     case atStart=>exact ⟨0,c2,Dm2,Nat.zero_le _,rfl,by omega,HB2.out⟩
     case round =>
      obtain ⟨j,c3,Dm3,hj,rfl,hc3,hB3⟩:=hrel
      have ZJ:Below w1.heap.size w1 wr:=hB3.low
      have HB3:=hid hB3
      by_cases hjn:j<iL
      ·have jn1:decide ((j:Int)<(iL:Int))=true:=decide_eq_true (by omega)
       have jn2:decide (j<iL)=true:=decide_eq_true hjn
       have jn3:(0:Int)≤(j:Int):=by omega
       have jn4:(j:Int)<(iL:Int):=by omega
       have jn5:IntKind.i64.wrap ((j:Int)+1)=(j:Int)+1:=IntWalk.i64_in _ (by omega)
       have hjL:j<(aZ P k).length:=by rw [←aeU.out];exact hjn
       obtain ⟨hs1,hs2,hs3,hs4⟩:=oL hjL
       obtain ⟨b3,VK,rfl,V9,e0,e1,e2⟩:=(HST.out.below ZJ).at hjL
       have HTK:=hid (NI (gz.lk k) (aaL hjL) ((ky P k).vO k nl))
       have aeV:=IB (k:=k) ((aZ P k).take j) ((ky P k).vO k nl)
       obtain ⟨s,hs⟩ : ∃ s,s=gy (aZ P k) j:=⟨_,rfl⟩
       rw [←hs] at hs1 hs2 hs3 hs4 e0 e1 e2 HTK
       have mF:=hid (And.intro hs2 (And.intro hs3 hs4))
       have hlr:(ai P (k+1)).length≤8:=(HO.out.log (k+1) HK.out).2
       have aeW:=hid aeV
       obtain ⟨st,acf⟩ : ∃ q,q=((aZ P k).take j).foldl (gz.lk k) ((ky P k).vO k nl):=⟨_,rfl⟩
       rw [←acf] at HB3 HTK aeW
       clear hs1 hs2 hs hjL aeV hB3 acf
       obtain ⟨wC,EZ⟩ : ∃ wC,wC=wr.alloc (Obj.cells #[.int .i64 (s.k:Int),.int .i64 (s.i:Int),.int .i64 (s.j:Int)] 57):=⟨_,rfl⟩
       obtain ⟨hbC,lC,g0,g1,g2⟩:=aY EZ
       have HWC:=hid EZ
       have LH:=hid (HB3.out.below hbC)
       clear EZ
       go_upto_region 22 with fail
       rw [←HWC.out]
       clear e0 e1 e2
       by_cases hk1:s.k=1
       ·have q1:((s.k:Int) == 1)=true:=by rw [hk1];rfl
        obtain ⟨h2,h3,h4⟩:=mF.out
        rw [hk1] at h2
        have hc1:s.i<(ai P k).length∧s.j<(ai P (k+1)).length:=by simpa [bF] using h2
        obtain ⟨a,ha⟩:=HAS.out s.i (by rw [←Ff.out];exact hc1.1)
        have ha2:st.at_ k s.i=some a:=by rw [aeW.out];exact ha
        have hsi:s.i<2 ^ 62:=by have:=(HO.out.log k (by have:=HK.out;omega)).2;omega
        have hsj:s.j<2 ^ 62:=by omega
        have aeX:=DJ NJ hsi
        have aeY:keyOf Tryz.prog 151 (.agg #[.int .i64 ((k:Int)+1),.int .i64 (s.j:Int)])=some (IC (k+1) s.j):=DJ (k:=k+1) (show k+1<2 ^ 62 by omega) hsj
        have V6:=LH.out.tells.at_ k s.i a NJ hsi ha2 (.lit (.int .i64 0))
        obtain ⟨cz,hlk,hcz,_⟩:=LH.out.map.drew.lookup_int (t:=148) zi K8 Tryz.underlying3 (IE _) aeX
        have hcz2:cz=(a:Int):=by
         rw [V6] at hcz
         simpa using hcz.symm
        have ha3:a<st.out.length:=LH.out.ok.lt _ _ _ ha2
        have V5:c3<maxLen:=by unfold maxLen;omega
        have hwf:(Lit.int .i64 (a:Int)).wf=true:=WalkArith.wf_i64 (by have:=LH.out.ok.len;omega)
        rw [hcz2] at hlk
        have HSK:=hid hk1
        go_wp2_with fail
        go_still_tail 12,(by kernel_rfl)
        change wpList _ _ _ _ _ wC.drew
        have Tk:=hid (LH.out.below (show Below wC.heap.size wC wC.drew from ⟨rfl,rfl,rfl,Nat.le_refl _,fun _ _=>rfl⟩))
        have agH:=hid (fun (W':World)=>Tk.out.adg (W':=W') HSK.out ha2 (show k+1<2 ^ 62 by omega) hsj (Nat.le_refl _))
        have hmp:=Tk.out.map
        clear hlk
        generalize wC.drew=wd at *
        go_wp2_with (at_mapUpdate;refine wpList_mapUpdate_own _ rfl _ _ _ 148 rfl 151 3 zi K8 _ w1.heap.size c3 Dm3 rfl hmp V5 _ _ _ rfl rfl aeY _ [] (plainElem_int Tryz.underlying3 hwf) ?_;intro w5 hown5 hg5;have HY:=hid (agH.out w5 hown5 hg5);clear hown5 hg5)
        refine ⟨⟨j+1,c3+1,_,hjn,aA j,by omega,by rw [HTK.out];exact HY.out⟩,?_⟩
        show iL-((j:Int)+1).toNat<iL-((j:Int)).toNat
        omega
       ·have q1:((s.k:Int) == 1)=false:=by simp;omega
        have Qc:=hid (LH.out.aeR k hk1)
        clear g1 g2
        go_wp2
        refine ⟨⟨j+1,c3+1,Dm3,hjn,aA j,by omega,by rw [HTK.out];exact Qc.out⟩,?_⟩
        show iL-((j:Int)+1).toNat<iL-((j:Int)).toNat
        omega
      ·obtain rfl:iL=j:=by omega
       have jn1:decide ((iL:Int)<(iL:Int))=false:=decide_eq_false (by omega)
       have HFN:=hid (show zm w1 w1.heap.size c3 (8*(k+1)) (ky P (k+1)) (.slice uf n2 uh) T2 Dm3 wr by
        have h1:=HB3.out
        rw [aeU.out,List.take_length] at h1
        have h2:=h1.okm (m2:=8*(k+1)) (by omega)
        have e:ky P (k+1)=(aZ P k).foldl (gz.lk k) ((ky P k).vO k nl):=by
         show (aZ P k).foldl (gz.lk k) ((ky P k).vO k (ai P k).length)=_
         rw [Ff.out]
        rw [e]
        exact h2)
       have hkn:k+1<n:=by have:=Hf.out;omega
       go_wp2
       refine ⟨⟨k+1,c3,T2,Dm3,hkn,aA k,by omega,HFN.out⟩,?_⟩
       show n-((k:Int)+1).toNat<n-((k:Int)).toNat
       omega
end Go.Proofs.YtglncfkoohgdaaaGreatDoor
