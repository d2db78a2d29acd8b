import Derived.Test.YtgohnjdgoglcfaaGreatDoorStillZ
import Derived.ArgAppend
import Derived.Deep.Onto
import Derived.Test.YtgohnjdgoglcfaaGreatDoorT3Z
set_option maxRecDepth 100000
set_option maxHeartbeats 8000000
namespace Go.Proofs.YtgohnjdgoglcfaaGreatDoor
open Go.RowKit
theorem run_append_two {P:Program} (w:World) (base:Nat) (t ty e:TypeId) (i:TypeInfo) (z:Value) (size bytes:Nat) (ht:P.underlying t=some (.slice e)) (hi:P.info? e=some i) (hz:i.zero=some z)
  (hsize:i.size=size) (hby:i.bytes=bytes) (hzs:z.cells.size=size) (hsz:0<size)
  (v:Value) (n:Nat) (xs:List Value) (hown:w.ownsRow base e size v n xs)
  (a:Addr) (m c:Nat) (news:List Value) (hl:news.length=m*size) (hnews:∀ j u,news[j]?=some u→w.cell? (a.add j)=some u) (h1:∀ u∈news,u.oneCell'=true)
  (h63:n+m≤maxLen) (hbytes:(n+m)*bytes≤140737488355328) (hbase:base≤w.heap.size) :
  ∃ v' w',(Builtin.append_ #[t,t] ty #[v,.slice (some a) m c]).run P w=.ok v' w'∧w'.ownsRow base e size v' (n+m) (xs++news)∧w.grownBy w' v.ownBlock ∧
   (v'.ownBlock=v.ownBlock∨∃ g,v'.ownBlock=some g∧w.heap.size≤g):=by
 have weak:∀ {w':World} {v':Value},w'.ownsRow w.heap.size e size v' (n+m) (xs++news)→v.ownBlock=none∨True→(v'.ownBlock=v.ownBlock∨∃ g,v'.ownBlock=some g∧w.heap.size≤g)∨v'.ownBlock=none:=fun {w' v'} h _=>by
  cases hv:v'.ownBlock with
  | none=>exact .inr rfl
  | some g=>exact .inl (.inr ⟨g,rfl,(h.lt g hv).1⟩)
 rcases hown.2 with ⟨rfl,rfl⟩ | ⟨g,cap,cur,rfl,hbg,hg,hnc,hcm,hcs,htake⟩
 ·have hx:xs=[]:=List.eq_nil_of_length_eq_zero (by simpa using hown.1)
  subst hx
  obtain ⟨v',w',hr,h2,h3,h4⟩:=run_append_own (P:=P) w w.heap.size t ty e i z size bytes ht hi hz hsize hby hzs hsz (.slice none 0 0) 0 [] (World.ownsRow_nil w _ e size) a m c news hl hnews h1 h63 hbytes (Nat.le_refl _)
  refine ⟨v',w',hr,World.ownsRow.mono h2 hbase,h3,?_⟩
  rcases weak h2 (.inr trivial) with h | h
  ·exact h
  ·exact .inl h
 ·by_cases hroom:n+m≤cap
  ·obtain ⟨w',hr,h2,h3⟩:=run_append_fits (P:=P) w base t ty e i size ht hi hsize g n cap xs hown a m c news hl hnews h1 hroom
   exact ⟨_,w',hr,h2,h3,.inl rfl⟩
  ·obtain ⟨v',w',hr,h2,h3⟩:=run_append_arg_grows (P:=P) w t ty e i z size bytes ht hi hz hsize hby hzs hsz ⟨g,0,none⟩ n cap xs hown.1 (hown.cells (g:=g) rfl) a m c news hl hnews (by omega) h63 hbytes
   refine ⟨v',w',hr,World.ownsRow.mono h2 hbase,⟨h3.os,h3.tape,h3.output,h3.size,fun k hk _=>h3.block k hk (by simp)⟩,?_⟩
   rcases h2.2 with ⟨rfl,h0⟩ | ⟨g',cap',cur',rfl,hb',_⟩
   ·exfalso;omega
   ·exact .inr ⟨g',rfl,hb'⟩
theorem wp_append_two {P:Program} (w:World) {o:Oper} {a:Act} {K:Act→World→Prop} {Q:Exit→Act→World→Prop} (s x:Operand) (t:TypeId)
  (ho:o.op=.call { callee:=.builtin .append,args:=#[s,x],argTypes:=#[t,t] })
  (base:Nat) (e:TypeId) (i:TypeInfo) (z:Value) (size bytes:Nat) (ht:P.underlying t=some (.slice e)) (hi:P.info? e=some i) (hz:i.zero=some z)
  (hsize:i.size=size) (hby:i.bytes=bytes) (hzs:z.cells.size=size) (hsz:0<size)
  (v:Value) (n:Nat) (xs:List Value) (hs:a.eval s=v) (hown:w.ownsRow base e size v n xs)
  (ad:Addr) (m c:Nat) (news:List Value) (hx:a.eval x=.slice (some ad) m c) (hl:news.length=m*size) (hnews:∀ j u,news[j]?=some u→w.cell? (ad.add j)=some u) (h1:∀ u∈news,u.oneCell'=true)
  (h63:n+m≤maxLen) (hbytes:(n+m)*bytes≤140737488355328) (hbase:base≤w.heap.size)
  (h:∀ v' w',w'.ownsRow base e size v' (n+m) (xs++news)→w.grownBy w' v.ownBlock→(v'.ownBlock=v.ownBlock∨∃ g,v'.ownBlock=some g∧w.heap.size≤g)→K (a.put o.dst v') w'):o.wp P a w K Q:=by
 obtain ⟨v',w',hr,h2,h3,h4⟩:=run_append_two (P:=P) w base t o.type e i z size bytes ht hi hz hsize hby hzs hsz v n xs hown ad m c news hl hnews h1 h63 hbytes hbase
 unfold Oper.wp execOp
 simp only [ho,resolve,invoke,builtin,Sem.run_bind,Sem.run_pure,Result.andThen_ok,List.map_toArray,List.map_cons,List.map_nil,hs,hx,hr]
 exact h v' w' h2 h3 h4
theorem wpList_append_two {P:Program} (w:World) {ops:Array Oper} {rest:List Oper} {o:Oper} {a:Act} {Q:Exit→Act→World→Prop} (hgd:o.guard=none) (s x:Operand) (t:TypeId)
  (ho:o.op=.call { callee:=.builtin .append,args:=#[s,x],argTypes:=#[t,t] })
  (base:Nat) (e:TypeId) (i:TypeInfo) (z:Value) (size bytes:Nat) (ht:P.underlying t=some (.slice e)) (hi:P.info? e=some i) (hz:i.zero=some z)
  (hsize:i.size=size) (hby:i.bytes=bytes) (hzs:z.cells.size=size) (hsz:0<size)
  (v:Value) (n:Nat) (xs:List Value) (hs:a.eval s=v) (hown:w.ownsRow base e size v n xs)
  (ad:Addr) (m c:Nat) (news:List Value) (hx:a.eval x=.slice (some ad) m c) (hl:news.length=m*size) (hnews:∀ j u,news[j]?=some u→w.cell? (ad.add j)=some u) (h1:∀ u∈news,u.oneCell'=true)
  (h63:n+m≤maxLen) (hbytes:(n+m)*bytes≤140737488355328) (hbase:base≤w.heap.size)
  (h:∀ v' w',w'.ownsRow base e size v' (n+m) (xs++news)→w.grownBy w' v.ownBlock→(v'.ownBlock=v.ownBlock∨∃ g,v'.ownBlock=some g∧w.heap.size≤g)→wpList P ops Q rest (a.put o.dst v') w'):wpList P ops Q (o :: rest) a w:=
 wpList_plain hgd fun _ hK=>wp_append_two w s x t ho base e i z size bytes ht hi hz hsize hby hzs hsz v n xs hs hown ad m c news hx hl hnews h1 h63 hbytes hbase fun v' w' h2 h3 h4=>hK _ _ (h v' w' h2 h3 h4)
def Aprt (u v:Value):Prop:=u.ownBlock=none∨u.ownBlock≠v.ownBlock
theorem Aprt.symm {u v:Value} (h:Aprt u v):Aprt v u:=by
 unfold Aprt at *
 rcases h with h | h
 ·by_cases hv:v.ownBlock=none
  ·exact .inl hv
  ·rw [h];exact .inr hv
 ·exact .inr (Ne.symm h)
theorem Aprt.grown {w w':World} {base:Nat} {e:TypeId} {size n:Nat} {u v v':Value} {xs:List Value} (h:Aprt u v) (hu:w.ownsRow base e size u n xs) (hg:w.grownBy w' v.ownBlock) (hv:v'.ownBlock=v.ownBlock∨∃ g,v'.ownBlock=some g∧w.heap.size≤g) :
  Aprt u v'∧w'.ownsRow base e size u n xs:=by
 refine ⟨?_,hu.kept hg h⟩
 rcases hv with hv | ⟨g,hv,hgs⟩
 ·unfold Aprt;rw [hv];exact h
 ·cases hub:u.ownBlock with
  | none=>exact .inl hub
  | some k =>
   refine .inr ?_
   rw [hub,hv]
   intro e
   have:=(hu.lt k hub).2
   have:k=g:=Option.some.inj e
   omega
end Go.Proofs.YtgohnjdgoglcfaaGreatDoor
namespace Go.Proofs.YtgohnjdgoglcfaaGreatDoor
open Go.RowKit Go.Shelf
open Go.Lib (decDigits itoa nDigits)
open Go.Lib (hid)
theorem addr_add (b o j:Nat):(⟨b,o,none⟩ : Addr).add j=⟨b,o+j,none⟩:=by
 unfold Addr.add;split
 ·rename_i h;rw [h];rfl
 ·rfl
theorem cells_drop {w:World} {b off:Nat} {L:List Pair} (h:∀ i (h:i<L.length),w.cell? ⟨b,off+i*2,none⟩=some (.string L[i].1)∧w.cell? ⟨b,off+i*2+1,none⟩=some (.string L[i].2)) (k:Nat) :
  ∀ j u,(cellsS (L.drop k))[j]?=some u→w.cell? ((⟨b,off+k*2,none⟩ : Addr).add j)=some u:=by
 intro j u hj
 have hl:=cellsS_len (L.drop k)
 have hjl:=(List.getElem?_eq_some_iff.1 hj).1
 rw [hl,List.length_drop] at hjl
 have hi:j/2<(L.drop k).length:=by rw [List.length_drop];omega
 have hc:=h (k+j/2) (by omega)
 rw [addr_add]
 show w.cell? ⟨b,off+k*2+j,none⟩=some u
 have g:=cellsS_get (L.drop k) (j/2) hi (j % 2) (by omega)
 rw [show j/2*2+j % 2=j by omega,hj] at g
 rw [g]
 rcases (show j % 2=0∨j % 2=1 by omega) with e | e
 ·simp only [e,List.getElem_cons_zero,List.getElem_drop]
  rw [←hc.1];congr 2;omega
 ·simp only [e,List.getElem_cons_succ,List.getElem_cons_zero,List.getElem_drop]
  rw [←hc.2];congr 2;omega
theorem cells_take {w:World} {b off:Nat} {L:List Pair} (h:∀ i (h:i<L.length),w.cell? ⟨b,off+i*2,none⟩=some (.string L[i].1)∧w.cell? ⟨b,off+i*2+1,none⟩=some (.string L[i].2)) (k:Nat) :
  ∀ j u,(cellsS (L.take k))[j]?=some u→w.cell? ((⟨b,off,none⟩ : Addr).add j)=some u:=by
 have:=cells_drop (w:=w) (b:=b) (off:=off) (L:=L.take k) (fun i hi=>by
  have hi2:i<L.length:=by rw [List.length_take] at hi;omega
  have:=h i hi2
  rw [List.getElem_take];exact this) 0
 simpa using this
theorem cellsS_one (L:List Pair):∀ u∈cellsS L,u.oneCell'=true:=by
 intro u hu
 unfold cellsS at hu
 obtain ⟨p,_,hp⟩:=List.mem_flatMap.1 hu
 simp only [List.mem_cons,List.not_mem_nil,or_false] at hp
 rcases hp with rfl | rfl <;> rfl
structure LeastTo (L:List QP) (i t:Nat):Prop where
 lt:t<i
 le:i≤L.length
 least:∀ j,j<i→¬ lssP (pt L j) (pt L t)
theorem LeastTo.one {L:List QP} (h:0<L.length):LeastTo L 1 0:=⟨by decide,h,fun j hj=>by rw [show j=0 by omega];exact lssP_irrefl⟩
theorem LeastTo.less {L:List QP} {i t:Nat} (h:LeastTo L i t) (hi:i<L.length) (hl:lssP (pt L i) (pt L t)):LeastTo L (i+1) i:=⟨by omega,hi,fun j hj hx=>by
 rcases (show j<i∨j=i by omega) with e | e
 ·exact h.least j e (lssP_trans hx hl)
 ·rw [e] at hx;exact lssP_irrefl hx⟩
theorem LeastTo.more {L:List QP} {i t:Nat} (h:LeastTo L i t) (hi:i<L.length) (hl:¬ lssP (pt L i) (pt L t)):LeastTo L (i+1) t:=⟨by have:=h.lt;omega,hi,fun j hj=>by
 rcases (show j<i∨j=i by omega) with e | e
 ·exact h.least j e
 ·rw [e];exact hl⟩
theorem LeastTo.all {L:List QP} {t:Nat} (h:LeastTo L L.length t):LeastAt L t:=⟨h.lt,h.least⟩
def BegPost (L:List QP) (w:World) (e:Ending) (w':World):Prop:=∃ r t,e=.returned r∧LeastAt L t∧Pts w' r (rotL L t)∧Below w.heap.size w w'
theorem r9_begin (v:Value) (L:List QP) (hL:0<L.length) (hn:L.length≤100000) (hz:∀ p∈L,Sz2 100000 p) (w:World) (hw:Good w) (hv:Pts w v L) :
  Calls Tryz.prog 61 #[v] w (BegPost L w):=by
 obtain ⟨p0,c,rfl,hcl,hcm⟩:=hv.slice
 unfold maxLen at hcm
 have HPC:=hid (hv.cells hL)
 have HRW:=hid (Pairs.cells (L:=L.map textP) (by have:=hv;rw [←List.length_map (f:=textP)] at this;exact this) (by simpa using hL))
 obtain ⟨b,off,rfl,hbl,hcell⟩:=HPC.out
 obtain ⟨b',off',hbb,_,hraw⟩:=HRW.out
 cases hbb
 have HCL:=hid hcell
 have HLS:=hid (fun i (hi:i<L.length) j (hj:j<L.length) w' (hg:Good w')=>r9_less (pt L i) (pt L j) (hz _ (pt_mem hi)) (hz _ (pt_mem hj)) w' hg)
 unfold RV at HLS
 have HRAW:=hid hraw
 have H0:=hid (LeastTo.one hL)
 have hbw:=Below.refl w.heap.size w
 clear HPC HRW hv hraw hcell hz
 go_enter Tryz.func61,Tryz.ntmps61
 go_wp2_with fail
 go_loopw [3,4] (fun tv iv wr=>∃ t k:Nat,tv=.int .i64 (t:Int)∧iv=.int .i64 (k:Int)∧LeastTo L k t∧Below w.heap.size w wr) (fun _ iv _=>L.length-(intOf iv).toNat)
 case atStart=>exact ⟨0,1,rfl,rfl,H0.out,hbw⟩
 case round =>
  obtain ⟨t,k,rfl,rfl,hLT,hbr⟩:=hrel
  have HLT:=hid hLT
  have htk:=hLT.lt
  have hkle:=hLT.le
  clear hLT
  by_cases hk:k<L.length
  ·have hkn:decide ((k:Int)<(L.length:Int))=true:=decide_eq_true (by omega)
   have i1:(0:Int)≤(k:Int):=by omega
   have i2:(k:Int)<(L.length:Int):=by omega
   have i3:(0:Int)≤(t:Int):=by omega
   have i4:(t:Int)<(L.length:Int):=by omega
   have htl:t<L.length:=by omega
   have hblr:b<wr.heap.size:=Nat.lt_of_lt_of_le hbl hbr.size
   obtain ⟨c0,c1⟩:=HCL.out k hk
   obtain ⟨d0,d1⟩:=HCL.out t htl
   rw [←hbr.cell (p:=⟨b,off+k*2,none⟩) hbl] at c0
   rw [←hbr.cell (p:=⟨b,off+k*2+1,none⟩) hbl] at c1
   rw [←hbr.cell (p:=⟨b,off+t*2,none⟩) hbl] at d0
   rw [←hbr.cell (p:=⟨b,off+t*2+1,none⟩) hbl] at d1
   have H1:=hid (HLS.out k hk t htl)
   unfold ptV at H1
   have hiff:=@lessB_iff (pt L k) (pt L t)
   have HI:=hid hiff
   generalize tx (pt L k).1=p1 at *
   generalize tx (pt L k).2=p2 at *
   generalize tx (pt L t).1=q1 at *
   generalize tx (pt L t).2=q2 at *
   clear hiff
   cases hB:lessB (pt L k) (pt L t)
   ·rw [hB] at H1 HI
    have HN:=hid (HLT.out.more hk (fun h=>Bool.noConfusion (HI.out.2 h)))
    clear hB HI
    go_wp2_with fail
    refine wp_held_list (fun W'=>Below wr.heap.size wr W') [0,1,2,3,4,5,6,7] [] 8 (by kernel_rfl) (by kernel_rfl) ⟨rfl,rfl,rfl,Nat.le_refl _,fun _ _=>rfl⟩ ?_
    iterate 8
     refine wpTakeL_step rfl ?_ rfl ?_ ?_
     rotate_left
     ·intro W' hS'
      have s0:=(hS'.cell (p:=⟨b,off+k*2,none⟩) hblr).trans c0
      have s1:=(hS'.cell (p:=⟨b,off+k*2+1,none⟩) hblr).trans c1
      have s2:=(hS'.cell (p:=⟨b,off+t*2,none⟩) hblr).trans d0
      have s3:=(hS'.cell (p:=⟨b,off+t*2+1,none⟩) hblr).trans d1
      go_simp
      try with_reducible rfl
     try simp only [zA,zB,zC,Act.put,zD,zE,zF]
    have hR0:Below wr.heap.size wr wr.drew:=⟨rfl,rfl,rfl,Nat.le_refl _,fun _ _=>rfl⟩
    unfold wpKeepL
    simp only [List.drop_succ_cons,List.drop_zero]
    try simp only [zA,zB,zC,Act.put,zD,zE,zF]
    refine wpKeep_step rfl (fun K hK=>?_)
    go_simp
    refine (H1.out _ (hw.below (hbr.trans (hR0.mono hbr.size)))).mono ?_
    rintro e v1 ⟨rfl,hbv1⟩
    have hRZ:=hR0.trans (hbv1.mono hR0.size)
    refine hK _ _ ⟨trivial,wpKeep_nil ?_⟩
    clear hK K
    try simp only [zA,zB,zC,Act.put,zD,zE,zF]
    refine NormalOnly.mk ?_
    have hbv:=hbr.trans (hRZ.mono hbr.size)
    go_wp2
    refine ⟨⟨t,k+1,rfl,int_succ k,HN.out,hbv⟩,?_⟩
    show L.length-((k:Int)+1).toNat<L.length-((k:Int)).toNat
    omega
   ·rw [hB] at H1 HI
    have HN:=hid (HLT.out.less hk (HI.out.1 rfl))
    clear hB HI
    go_wp2_with fail
    refine wp_held_list (fun W'=>Below wr.heap.size wr W') [0,1,2,3,4,5,6,7] [] 8 (by kernel_rfl) (by kernel_rfl) ⟨rfl,rfl,rfl,Nat.le_refl _,fun _ _=>rfl⟩ ?_
    iterate 8
     refine wpTakeL_step rfl ?_ rfl ?_ ?_
     rotate_left
     ·intro W' hS'
      have s0:=(hS'.cell (p:=⟨b,off+k*2,none⟩) hblr).trans c0
      have s1:=(hS'.cell (p:=⟨b,off+k*2+1,none⟩) hblr).trans c1
      have s2:=(hS'.cell (p:=⟨b,off+t*2,none⟩) hblr).trans d0
      have s3:=(hS'.cell (p:=⟨b,off+t*2+1,none⟩) hblr).trans d1
      go_simp
      try with_reducible rfl
     try simp only [zA,zB,zC,Act.put,zD,zE,zF]
    have hR0:Below wr.heap.size wr wr.drew:=⟨rfl,rfl,rfl,Nat.le_refl _,fun _ _=>rfl⟩
    unfold wpKeepL
    simp only [List.drop_succ_cons,List.drop_zero]
    try simp only [zA,zB,zC,Act.put,zD,zE,zF]
    refine wpKeep_step rfl (fun K hK=>?_)
    go_simp
    refine (H1.out _ (hw.below (hbr.trans (hR0.mono hbr.size)))).mono ?_
    rintro e v1 ⟨rfl,hbv1⟩
    have hRZ:=hR0.trans (hbv1.mono hR0.size)
    refine hK _ _ ⟨trivial,wpKeep_nil ?_⟩
    clear hK K
    try simp only [zA,zB,zC,Act.put,zD,zE,zF]
    refine NormalOnly.mk ?_
    have hbv:=hbr.trans (hRZ.mono hbr.size)
    go_wp2
    refine ⟨⟨k,k+1,rfl,int_succ k,HN.out,hbv⟩,?_⟩
    show L.length-((k:Int)+1).toNat<L.length-((k:Int)).toNat
    omega
  ·have hkn:decide ((k:Int)<(L.length:Int))=false:=decide_eq_false (by omega)
   have hkz:k=L.length:=by omega
   have HA:=hid (show LeastAt L t by have:=HLT.out;rw [hkz] at this;exact this.all)
   have htl:t<L.length:=by omega
   have i1:(0:Int)≤(t:Int):=by omega
   have i2:(t:Int)≤(L.length:Int):=by omega
   have i3:(t:Int)≤(c:Int):=by omega
   have hblr:b<wr.heap.size:=Nat.lt_of_lt_of_le hbl hbr.size
   have HR2:=hid (fun i (hi:i<(L.map textP).length)=>And.intro ((hbr.cell (p:=⟨b,off+i*2,none⟩) hbl).trans (HRAW.out i hi).1) ((hbr.cell (p:=⟨b,off+i*2+1,none⟩) hbl).trans (HRAW.out i hi).2))
   clear hkz HLT hkle
   have hnk:¬ c=t:=by omega
   go_wp2_with fail
   refine wp_held_list (fun W'=>Below wr.heap.size wr W') [1,2,3,5,6,7] [0,4,8] 9 (by kernel_rfl) (by kernel_rfl) ⟨rfl,rfl,rfl,Nat.le_refl _,fun _ _=>rfl⟩ ?_
   iterate 6
    refine wpTakeL_step rfl ?_ rfl ?_ ?_
    rotate_left
    ·intro W' hS'
     go_simp
     try with_reducible rfl
    try simp only [zA,zB,zC,Act.put,zD,zE,zF]
   have hH0:Below wr.heap.size wr wr.drew:=⟨rfl,rfl,rfl,Nat.le_refl _,fun _ _=>rfl⟩
   refine wpKeepL_step rfl rfl (fun K hK=>?_)
   go_simp
   obtain ⟨wa,hwa⟩ : ∃ wa,wa=(wr.alloc (Obj.cells #[] 31)).drew:=⟨_,rfl⟩
   have hba:Below wr.heap.size wr wa:=by rw [hwa];exact (alloc_below _ _).drew
   have hown0:wa.ownsRow wr.heap.size 31 2 (.slice (some ⟨wr.heap.size,0,none⟩) 0 0) 0 []:=by
    rw [hwa]
    exact ⟨rfl,.inr ⟨wr.heap.size,0,#[],rfl,Nat.le_refl _,World.alloc_heap_new wr _,Nat.le_refl _,by unfold maxLen;omega,rfl,rfl⟩⟩
   rw [←hwa]
   refine hK _ _ ⟨hba,?_⟩
   clear hK K hwa
   try simp only [zA,zB,zC,Act.put,zD,zE,zF]
   obtain ⟨i0,hi0,hz0,hz1,hz2⟩:=info_parts slPt.info
   have hlm:(L.map textP).length=L.length:=List.length_map ..
   refine wpKeepL_step rfl rfl (fun K hK=>?_)
   refine wp_append_two wa (.tmp 21) (.tmp 24) 22 rfl wr.heap.size 31 i0 (.agg #[.string ⟨#[]⟩,.string ⟨#[]⟩]) 2 32 slPt.ht hi0 hz0 hz1 hz2 slPt.hzs slPt.hsz _ 0 [] rfl hown0 ⟨b,off+t*2,none⟩ (L.length-t) (c-t) (cellsS ((L.map textP).drop t)) rfl (by rw [cellsS_len,List.length_drop,hlm]) (cells_drop (fun i hi=>And.intro ((hba.cell (p:=⟨b,off+i*2,none⟩) hblr).trans (HR2.out i hi).1) ((hba.cell (p:=⟨b,off+i*2+1,none⟩) hblr).trans (HR2.out i hi).2)) t) (cellsS_one _) (by unfold maxLen;omega) (by omega) hba.size ?_
   intro v1 wb hown1 hgrow1 hv1
   have hbb:Below wr.heap.size wr wb:=hba.grown hgrow1 hba.size (fun g hg=>(hown0.lt g hg).1)
   refine hK _ _ ⟨hbb,?_⟩
   clear hK K
   try simp only [zA,zB,zC,Act.put,zD,zE,zF]
   refine wpKeepL_step rfl rfl (fun K hK=>?_)
   refine wp_append_two wb (.tmp 25) (.tmp 28) 22 rfl wr.heap.size 31 i0 (.agg #[.string ⟨#[]⟩,.string ⟨#[]⟩]) 2 32 slPt.ht hi0 hz0 hz1 hz2 slPt.hzs slPt.hsz _ _ _ rfl hown1 ⟨b,off,none⟩ t c (cellsS ((L.map textP).take t)) rfl (by rw [cellsS_len,List.length_take,hlm];omega) (cells_take (fun i hi=>And.intro ((hbb.cell (p:=⟨b,off+i*2,none⟩) hblr).trans (HR2.out i hi).1) ((hbb.cell (p:=⟨b,off+i*2+1,none⟩) hblr).trans (HR2.out i hi).2)) t) (cellsS_one _) (by unfold maxLen;omega) (by omega) hbb.size ?_
   intro v2 wc hown2 hgrow2 hv2
   have hbc:Below wr.heap.size wr wc:=hbb.grown hgrow2 hbb.size (fun g hg=>(hown1.lt g hg).1)
   have HPT:=hid (show Pts wc v2 (rotL L t) by
    have e1:(rotL L t).map textP=(L.map textP).drop t++(L.map textP).take t:=by unfold rotL;rw [List.map_append,List.map_drop,List.map_take]
    have e2:0+(L.length-t)+t=((rotL L t).map textP).length:=by rw [List.length_map,rotL_len L (by omega)];omega
    have e3:([]++cellsS ((L.map textP).drop t))++cellsS ((L.map textP).take t)=cellsS ((rotL L t).map textP):=by rw [e1];unfold cellsS;rw [List.flatMap_append];rfl
    rw [e2,e3] at hown2
    exact pairs_of_cells hown2)
   have hbf:=hbr.trans (hbc.mono hbr.size)
   refine hK _ _ ⟨hbc,?_⟩
   clear hK K hown0 hown1 hown2 hgrow1 hgrow2 hv1 hv2
   try simp only [zA,zB,zC,Act.put,zD,zE,zF]
   unfold wpKeepL
   simp only [List.drop_succ_cons,List.drop_zero]
   try simp only [zA,zB,zC,Act.put,zD,zE,zF]
   refine wpKeep_step rfl (fun K hK=>?_)
   go_simp
   refine hK _ _ ⟨trivial,wpKeep_nil ?_⟩
   clear hK K
   try simp only [zA,zB,zC,Act.put,zD,zE,zF]
   refine NormalOnly.mk ?_
   go_wp2
   go_ret
   exact ⟨v2,t,rfl,HA.out,HPT.out,hbf⟩
theorem OkB.two {p:QP} (h:OkB p.1∧OkB p.2):okPr (tx p.1,tx p.2)=true:=by unfold okPr okS;rw [h.1,h.2];rfl
open Classical in
noncomputable def polyC (M:List QP):Int:=if Cvx M then (if ∀ j,j<M.length→¬ lssP (pt M j) (pt M 0) then 0 else 6) else 7
theorem polyC_zero {M:List QP} (h:Cvx M) (k:∀ j,j<M.length→¬ lssP (pt M j) (pt M 0)):polyC M=0:=by unfold polyC;rw [if_pos h,if_pos k]
theorem polyC_six {M:List QP} (h:Cvx M) {j:Nat} (hj:j<M.length) (k:lssP (pt M j) (pt M 0)):polyC M=6:=by unfold polyC;rw [if_pos h,if_neg (fun H=>H j hj k)]
theorem polyC_seven {M:List QP} (h:¬ Cvx M):polyC M=7:=by unfold polyC;rw [if_neg h]
theorem polyC_poly {M:List QP} (h:Poly M):polyC M=0:=polyC_zero h.1 (fun j hj=>by
 have:=h.1.1
 rw [pt_eq hj,pt_eq (by omega)];exact h.2 j hj)
def RowTo (M:List QP) (i k:Nat):Prop:=∀ j,j<k→j≠i→j≠nxI M.length i→0<crs (pt M i) (pt M (nxI M.length i)) (pt M j)
theorem RowTo.zero (M:List QP) (i:Nat):RowTo M i 0:=fun _ hj=>absurd hj (Nat.not_lt_zero _)
theorem RowTo.step {M:List QP} {i k:Nat} (h:RowTo M i k) (hk:k=i∨k=nxI M.length i∨0<crs (pt M i) (pt M (nxI M.length i)) (pt M k)):RowTo M i (k+1):=fun j hj h1 h2=>by
 rcases (show j<k∨j=k by omega) with e | e
 ·exact h j e h1 h2
 ·subst e
  rcases hk with hk | hk | hk
  ·exact absurd hk h1
  ·exact absurd hk h2
  ·exact hk
def RowsTo (M:List QP) (k:Nat):Prop:=∀ i,i<k→RowTo M i M.length
theorem RowsTo.step {M:List QP} {k:Nat} (h:RowsTo M k) (hk:RowTo M k M.length):RowsTo M (k+1):=fun i hi=>by
 rcases (show i<k∨i=k by omega) with e | e
 ·exact h i e
 ·rw [e];exact hk
theorem RowsTo.cvx {M:List QP} (h3:3≤M.length) (h:RowsTo M M.length):Cvx M:=⟨h3,fun i j hi hj h1 h2=>by
 rw [←pt_eq hi,←pt_eq hj,←pt_eq (nxI_lt (by omega))]
 exact h i hi j hj h1 h2⟩
theorem not_cvx {M:List QP} {i j:Nat} (hi:i<M.length) (hj:j<M.length) (h1:j≠i) (h2:j≠nxI M.length i) (h:¬ 0<crs (pt M i) (pt M (nxI M.length i)) (pt M j)):¬ Cvx M:=fun H=>h (by
 have h3:=H.1
 have:=H.2 i j hi hj h1 h2
 rw [←pt_eq hi,←pt_eq hj,←pt_eq (nxI_lt (by omega))] at this
 exact this)
theorem tmod_nx {n k:Nat} (h:k<n):Int.tmod ((k:Int)+1) (n:Int)=((nxI n k:Nat):Int):=by
 rw [Int.tmod_eq_emod_of_nonneg (by omega)]
 unfold nxI
 split
 ·rw [Int.emod_eq_of_lt (by omega) (by omega)];rfl
 ·rw [show (k:Int)+1=(n:Int) by omega,Int.emod_self];rfl
theorem okP_sz {p:QP} (h:OkB p.1∧OkB p.2):Sz2 402 p:=⟨h.1.sz,h.2.sz⟩
theorem box_new {w wA:World} {a b:Value} {t:TypeId} (hwA:wA=w.alloc (Obj.cells #[a,b] t)) :
  Below w.heap.size w wA∧w.heap.size<wA.heap.size∧wA.cell? ⟨w.heap.size,0,none⟩=some a∧wA.cell? ⟨w.heap.size,1,none⟩=some b:=by
 rw [hwA]
 have h:=World.alloc_heap_new w (Obj.cells #[a,b] t)
 obtain ⟨h1,h2,_,_⟩:=two_cells h
 exact ⟨alloc_below _ _,lt_of_blk h,h1,h2⟩
theorem pg_checkP (v:Value) (M:List QP) (h3:3≤M.length) (h60:M.length≤60) (hz:∀ p∈M,OkB p.1∧OkB p.2) (w:World) (hw:Good w) (hv:Pts w v M) :
  Calls Tryz.prog 18 #[v] w (RV (.int .i64 (polyC M)) w):=by
 obtain ⟨R,hR⟩ : ∃ R:Int,R=polyC M:=⟨_,rfl⟩
 rw [←hR]
 have HR:=hid hR
 have HCP:=hid (fun i (hi:i<M.length) w' (hg:Good w')=>vec_pointS (tx (pt M i).1) (tx (pt M i).2) (Nat.le_trans (hz _ (pt_mem hi)).1.sz (by decide)) (Nat.le_trans (hz _ (pt_mem hi)).2.sz (by decide)) w' hg)
 have HTU:=hid (fun i (hi:i<M.length) j (hj:j<M.length) k (hk:k<M.length) w' (hg:Good w')=>pg_turn (pt M i) (pt M j) (pt M k) ((okP_sz (hz _ (pt_mem hi))).mono (by decide)) ((okP_sz (hz _ (pt_mem hj))).mono (by decide)) ((okP_sz (hz _ (pt_mem hk))).mono (by decide)) w' hg)
 have HLS:=hid (fun i (hi:i<M.length) j (hj:j<M.length) w' (hg:Good w')=>pg_less (pt M i) (pt M j) ((okP_sz (hz _ (pt_mem hi))).mono (by decide)) ((okP_sz (hz _ (pt_mem hj))).mono (by decide)) w' hg)
 have HOK:=hid (fun i (hi:i<M.length)=>OkB.two (hz _ (pt_mem hi)))
 unfold RV at HCP HTU HLS
 unfold ptV at HTU HLS
 obtain ⟨p,c,rfl,hcl,hcm⟩:=hv.slice
 unfold maxLen at hcm
 obtain ⟨B,off,rfl,hbl,hcell⟩:=Pts.cells hv (by omega)
 have HCL:=hid (fun i (hi:i<M.length) wx (h:Below w.heap.size w wx)=>And.intro ((h.cell (p:=⟨B,off+i*2,none⟩) hbl).trans (hcell i hi).1) ((h.cell (p:=⟨B,off+i*2+1,none⟩) hbl).trans (hcell i hi).2))
 have q1:decide ((M.length:Int)<3)=false:=decide_eq_false (by omega)
 have q2:decide ((M.length:Int)>60)=false:=decide_eq_false (by omega)
 have q3:decide ((60:Int)<(M.length:Int))=false:=decide_eq_false (by omega)
 have hbw:=Below.refl w.heap.size w
 clear hz hv hR hcell
 go_enter Tryz.func18,Tryz.ntmps18
 go_wp2_with fail
 go_loopw [21] (fun iv wr=>∃ k:Nat,k≤M.length∧iv=.int .i64 (k:Int)∧Below w.heap.size w wr) (fun iv _=>M.length-(intOf iv).toNat)
 case atStart=>exact ⟨0,Nat.zero_le _,rfl,hbw⟩
 case round =>
  obtain ⟨k,hkl,rfl,hbr⟩:=hrel
  by_cases hk:k<M.length
  ·have hkn:decide ((k:Int)<(M.length:Int))=true:=decide_eq_true (by omega)
   have i1:(0:Int)≤(k:Int):=by omega
   have i2:(k:Int)<(M.length:Int):=by omega
   obtain ⟨c0,c1⟩:=HCL.out k hk wr hbr
   have H1:=hid (HCP.out k hk)
   rw [HOK.out k hk] at H1
   simp only [if_true] at H1
   generalize tx (pt M k).1=p1 at *
   generalize tx (pt M k).2=p2 at *
   go_upto_region 8 with fail
   obtain ⟨wC,hwwC⟩ : ∃ wC,wC=wr.alloc (Obj.cells #[.string p1,.string p2] 31):=⟨_,rfl⟩
   obtain ⟨hbwC,lwC,g0,g1⟩:=box_new hwwC
   rw [←hwwC]
   clear hwwC
   have hbC:=hbr.trans (hbwC.mono hbr.size)
   go_wp2_with fail
   refine (H1.out _ (hw.below hbC)).mono ?_
   rintro e w1 ⟨rfl,hb1⟩
   go_wp2
   refine ⟨⟨k+1,hk,int_succ k,hbC.trans (hb1.mono hbC.size)⟩,?_⟩
   show M.length-((k:Int)+1).toNat<M.length-((k:Int)).toNat
   omega
  ·have hkn:decide ((k:Int)<(M.length:Int))=false:=decide_eq_false (by omega)
   obtain ⟨w2,hw2⟩ : ∃ w2,w2=wr:=⟨_,rfl⟩
   subst hw2
   go_wp2_with fail
   go_loopw [33] (fun iv wr=>∃ k:Nat,k≤M.length∧iv=.int .i64 (k:Int)∧RowsTo M k∧Below w.heap.size w wr) (fun iv _=>M.length-(intOf iv).toNat)
   case atStart=>exact ⟨0,Nat.zero_le _,rfl,fun _ hi=>absurd hi (Nat.not_lt_zero _),hbr⟩
   case round =>
    clear hbr hkn hk hkl
    obtain ⟨k,hkl,rfl,hRS,hbr⟩:=hrel
    have HRS:=hid hRS
    clear hRS
    by_cases hk:k<M.length
    ·have hkn:decide ((k:Int)<(M.length:Int))=true:=decide_eq_true (by omega)
     have i1:(0:Int)≤(k:Int):=by omega
     have i2:(k:Int)<(M.length:Int):=by omega
     have hnx:=nxI_lt (i:=k) (show 0<M.length by omega)
     have hnxk:nxI M.length k≠k:=by unfold nxI;split <;> omega
     have t1:=tmod_nx hk
     have t2:(0:Int)≤((nxI M.length k:Nat):Int):=by omega
     have t3:((nxI M.length k:Nat):Int)<(M.length:Int):=by omega
     have t4:((M.length:Int) == 0)=false:=beq_eq_false_iff_ne.2 (by omega)
     have t5:IntKind.i64.wrap ((k:Int)+1)=(k:Int)+1:=IntWalk.i64_in _ (by omega)
     have t6:(M.length:Int)≠0:=by omega
     obtain ⟨c0,c1⟩:=HCL.out k hk wr hbr
     generalize ha1:tx (pt M k).1=a1 at *
     generalize ha2:tx (pt M k).2=a2 at *
     obtain ⟨wo,hwo⟩ : ∃ wo,wo=wr:=⟨_,rfl⟩
     subst hwo
     go_upto_region 15 with fail
     obtain ⟨wB,hwwB⟩ : ∃ wB,wB=wo.alloc (Obj.cells #[.string a1,.string a2] 31):=⟨_,rfl⟩
     obtain ⟨hbwB,lwB,g0,g1⟩:=box_new hwwB
     rw [←hwwB]
     clear hwwB
     have HG:=hid (And.intro g0 g1)
     clear g0 g1 c0 c1
     go_upto_region 16 with fail
     have hbB:=hbr.trans (hbwB.mono hbr.size)
     go_wp2_with fail
     go_loopw [45] (fun iv wr=>∃ j:Nat,j≤M.length∧iv=.int .i64 (j:Int)∧RowTo M k j∧Below wB.heap.size wB wr) (fun iv _=>M.length-(intOf iv).toNat)
     case atStart=>exact ⟨0,Nat.zero_le _,rfl,RowTo.zero _ _,Below.refl _ _⟩
     case round =>
      obtain ⟨j,hjl,rfl,hRT,hbo⟩:=hrel
      have HRT:=hid hRT
      have hbi:=hbB.trans (hbo.mono hbB.size)
      clear hRT
      by_cases hj:j<M.length
      ·have hjn:decide ((j:Int)<(M.length:Int))=true:=decide_eq_true (by omega)
       have j1:(0:Int)≤(j:Int):=by omega
       have j2:(j:Int)<(M.length:Int):=by omega
       obtain ⟨e0,e1⟩:=HCL.out j hj wr hbi
       obtain ⟨f0,f1⟩:=HCL.out (nxI M.length k) hnx wr hbi
       have hblr:B<wr.heap.size:=Nat.lt_of_lt_of_le hbl hbi.size
       have lqr:wo.heap.size<wr.heap.size:=Nat.lt_of_lt_of_le lwB hbo.size
       have gr0:=(hbo.cell (p:=⟨wo.heap.size,0,none⟩) lwB).trans HG.out.1
       have gr1:=(hbo.cell (p:=⟨wo.heap.size,1,none⟩) lwB).trans HG.out.2
       have H1:=hid (HTU.out k hk (nxI M.length k) hnx j hj)
       rw [ha1,ha2] at H1
       generalize tx (pt M j).1=y1 at *
       generalize tx (pt M j).2=y2 at *
       generalize tx (pt M (nxI M.length k)).1=x1 at *
       generalize tx (pt M (nxI M.length k)).2=x2 at *
       go_upto_region 19 with fail
       obtain ⟨wC,hwwC⟩ : ∃ wC,wC=wr.alloc (Obj.cells #[.string y1,.string y2] 31):=⟨_,rfl⟩
       obtain ⟨hbwC,lwC,z0,z1⟩:=box_new hwwC
       rw [←hwwC]
       clear hwwC
       have hbC:=hbi.trans (hbwC.mono hbi.size)
       have hblC:B<wC.heap.size:=Nat.lt_of_lt_of_le hblr hbwC.size
       have lq0:wo.heap.size<wC.heap.size:=Nat.lt_of_lt_of_le lqr hbwC.size
       have g0:=(hbwC.cell (p:=⟨wo.heap.size,0,none⟩) lqr).trans gr0
       have g1:=(hbwC.cell (p:=⟨wo.heap.size,1,none⟩) lqr).trans gr1
       have d0:=(hbwC.cell (p:=⟨B,off+nxI M.length k*2,none⟩) hblr).trans f0
       have d1:=(hbwC.cell (p:=⟨B,off+nxI M.length k*2+1,none⟩) hblr).trans f1
       clear e0 e1 f0 f1 gr0 gr1
       by_cases hjk:j=k
       ·have HN:=hid (HRT.out.step (.inl hjk))
        have n1:((j:Int) != (k:Int))=false:=by subst hjk;simp
        have n2:((j:Int) == (k:Int))=true:=by subst hjk;simp
        clear hjk
        go_wp2_with fail
        refine wp_held_list (fun W'=>Below wC.heap.size wC W') [0,1,2,3,4,5,6,7,8,9,10,11,12,13,14,15,16] [] 17 (by kernel_rfl) (by kernel_rfl) ⟨rfl,rfl,rfl,Nat.le_refl _,fun _ _=>rfl⟩ ?_
        iterate 4
         refine wpTakeL_step rfl ?_ rfl ?_ ?_
         rotate_left
         ·intro W' hS'
          have s0:=(hS'.cell (p:=⟨wo.heap.size,0,none⟩) lq0).trans g0
          have s1:=(hS'.cell (p:=⟨wo.heap.size,1,none⟩) lq0).trans g1
          have s2:=(hS'.cell (p:=⟨wr.heap.size,0,none⟩) lwC).trans z0
          have s3:=(hS'.cell (p:=⟨wr.heap.size,1,none⟩) lwC).trans z1
          have s4:=(hS'.cell (p:=⟨B,off+nxI M.length k*2,none⟩) hblC).trans d0
          have s5:=(hS'.cell (p:=⟨B,off+nxI M.length k*2+1,none⟩) hblC).trans d1
          go_simp
          try with_reducible rfl
         try simp only [zA,zB,zC,Act.put,zD,zE,zF]
        iterate 3
         refine wpTakeL_skip rfl rfl ?_
         try simp only [zA,zB,zC,Act.put,zD,zE,zF]
        iterate 2
         refine wpTakeL_step rfl ?_ rfl ?_ ?_
         rotate_left
         ·intro W' hS'
          have s0:=(hS'.cell (p:=⟨wo.heap.size,0,none⟩) lq0).trans g0
          have s1:=(hS'.cell (p:=⟨wo.heap.size,1,none⟩) lq0).trans g1
          have s2:=(hS'.cell (p:=⟨wr.heap.size,0,none⟩) lwC).trans z0
          have s3:=(hS'.cell (p:=⟨wr.heap.size,1,none⟩) lwC).trans z1
          have s4:=(hS'.cell (p:=⟨B,off+nxI M.length k*2,none⟩) hblC).trans d0
          have s5:=(hS'.cell (p:=⟨B,off+nxI M.length k*2+1,none⟩) hblC).trans d1
          go_simp
          try with_reducible rfl
         try simp only [zA,zB,zC,Act.put,zD,zE,zF]
        iterate 8
         refine wpTakeL_skip rfl rfl ?_
         try simp only [zA,zB,zC,Act.put,zD,zE,zF]
        unfold wpKeepL
        simp only [List.drop_succ_cons,List.drop_zero]
        try simp only [zA,zB,zC,Act.put,zD,zE,zF]
        refine wpKeep_step rfl (fun K hK=>?_)
        go_simp
        refine hK _ _ ⟨trivial,wpKeep_nil ?_⟩
        clear hK K
        try simp only [zA,zB,zC,Act.put,zD,zE,zF]
        refine NormalOnly.mk ?_
        obtain ⟨u,hwu⟩ : ∃ u,u=wC.drew:=⟨_,rfl⟩
        have hRZ:Below wC.heap.size wC u:=by rw [hwu];exact ⟨rfl,rfl,rfl,Nat.le_refl _,fun _ _=>rfl⟩
        rw [←hwu]
        clear hwu
        have HBZ:Below wr.heap.size wr _:=hbwC.trans (hRZ.mono hbwC.size)
        go_wp2
        refine ⟨⟨j+1,hj,int_succ j,HN.out,hbo.trans (HBZ.mono hbo.size)⟩,?_⟩
        show M.length-((j:Int)+1).toNat<M.length-((j:Int)).toNat
        omega
       ·have n1:((j:Int) != (k:Int))=true:=by simpa using (show ¬ (j:Int)=(k:Int) by omega)
        have n2:((j:Int) == (k:Int))=false:=beq_eq_false_iff_ne.2 (by omega)
        by_cases hjx:j=nxI M.length k
        ·have HN:=hid (HRT.out.step (.inr (.inl hjx)))
         have n3:((j:Int) != ((nxI M.length k:Nat):Int))=false:=by rw [←hjx];simp
         have n4:((j:Int) == ((nxI M.length k:Nat):Int))=true:=by rw [←hjx];simp
         clear hjk hjx
         go_wp2_with fail
         refine wp_held_list (fun W'=>Below wC.heap.size wC W') [0,1,2,3,4,5,6,7,8,9,10,11,12,13,14,15,16] [] 17 (by kernel_rfl) (by kernel_rfl) ⟨rfl,rfl,rfl,Nat.le_refl _,fun _ _=>rfl⟩ ?_
         iterate 9
          refine wpTakeL_step rfl ?_ rfl ?_ ?_
          rotate_left
          ·intro W' hS'
           have s0:=(hS'.cell (p:=⟨wo.heap.size,0,none⟩) lq0).trans g0
           have s1:=(hS'.cell (p:=⟨wo.heap.size,1,none⟩) lq0).trans g1
           have s2:=(hS'.cell (p:=⟨wr.heap.size,0,none⟩) lwC).trans z0
           have s3:=(hS'.cell (p:=⟨wr.heap.size,1,none⟩) lwC).trans z1
           have s4:=(hS'.cell (p:=⟨B,off+nxI M.length k*2,none⟩) hblC).trans d0
           have s5:=(hS'.cell (p:=⟨B,off+nxI M.length k*2+1,none⟩) hblC).trans d1
           go_simp
           try with_reducible rfl
          try simp only [zA,zB,zC,Act.put,zD,zE,zF]
         iterate 8
          refine wpTakeL_skip rfl rfl ?_
          try simp only [zA,zB,zC,Act.put,zD,zE,zF]
         unfold wpKeepL
         simp only [List.drop_succ_cons,List.drop_zero]
         try simp only [zA,zB,zC,Act.put,zD,zE,zF]
         refine wpKeep_step rfl (fun K hK=>?_)
         go_simp
         refine hK _ _ ⟨trivial,wpKeep_nil ?_⟩
         clear hK K
         try simp only [zA,zB,zC,Act.put,zD,zE,zF]
         refine NormalOnly.mk ?_
         obtain ⟨u,hwu⟩ : ∃ u,u=wC.drew:=⟨_,rfl⟩
         have hRZ:Below wC.heap.size wC u:=by rw [hwu];exact ⟨rfl,rfl,rfl,Nat.le_refl _,fun _ _=>rfl⟩
         rw [←hwu]
         clear hwu
         have HBZ:Below wr.heap.size wr _:=hbwC.trans (hRZ.mono hbwC.size)
         go_wp2
         refine ⟨⟨j+1,hj,int_succ j,HN.out,hbo.trans (HBZ.mono hbo.size)⟩,?_⟩
         show M.length-((j:Int)+1).toNat<M.length-((j:Int)).toNat
         omega
        ·have n3:((j:Int) != ((nxI M.length k:Nat):Int))=true:=by simpa using (show ¬ (j:Int)=((nxI M.length k:Nat):Int) by omega)
         have n4:((j:Int) == ((nxI M.length k:Nat):Int))=false:=beq_eq_false_iff_ne.2 (by omega)
         have hgc:=sgnR_cases (crs (pt M k) (pt M (nxI M.length k)) (pt M j))
         have HGC:=hid hgc
         have HBAD:=hid (fun h=>not_cvx hk hj hjk hjx h)
         clear hjk hjx hgc
         obtain ⟨g,hg⟩ : ∃ g,g=sgnR (crs (pt M k) (pt M (nxI M.length k)) (pt M j)):=⟨_,rfl⟩
         rw [←hg] at H1 HGC
         clear hg
         by_cases hg0:g≤0
         ·have HR7:=hid (show R=7 by
           rw [HR.out]
           refine polyC_seven (HBAD.out ?_)
           rcases HGC.out with ⟨q1,q2⟩ | ⟨q1,q2⟩ | ⟨q1,q2⟩
           ·grind
           ·grind
           ·omega)
          have n5:decide (g≤0)=true:=decide_eq_true hg0
          clear hg0 HGC HBAD
          go_wp2_with fail
          refine wp_held_list (fun W'=>Below wC.heap.size wC W') [0,1,2,3,4,5,6,7,8,9,10,11,12,13,14] [15] 16 (by kernel_rfl) (by kernel_rfl) ⟨rfl,rfl,rfl,Nat.le_refl _,fun _ _=>rfl⟩ ?_
          iterate 15
           refine wpTakeL_step rfl ?_ rfl ?_ ?_
           rotate_left
           ·intro W' hS'
            have s0:=(hS'.cell (p:=⟨wo.heap.size,0,none⟩) lq0).trans g0
            have s1:=(hS'.cell (p:=⟨wo.heap.size,1,none⟩) lq0).trans g1
            have s2:=(hS'.cell (p:=⟨wr.heap.size,0,none⟩) lwC).trans z0
            have s3:=(hS'.cell (p:=⟨wr.heap.size,1,none⟩) lwC).trans z1
            have s4:=(hS'.cell (p:=⟨B,off+nxI M.length k*2,none⟩) hblC).trans d0
            have s5:=(hS'.cell (p:=⟨B,off+nxI M.length k*2+1,none⟩) hblC).trans d1
            go_simp
            try with_reducible rfl
           try simp only [zA,zB,zC,Act.put,zD,zE,zF]
          have hR0:Below wC.heap.size wC wC.drew:=⟨rfl,rfl,rfl,Nat.le_refl _,fun _ _=>rfl⟩
          refine wpKeepL_step rfl rfl (fun K hK=>?_)
          go_simp
          refine (H1.out _ (hw.below (hbC.trans (hR0.mono hbC.size)))).mono ?_
          rintro e u1 ⟨rfl,hbu1⟩
          have hR1:=hR0.trans (hbu1.mono hR0.size)
          refine hK _ _ ⟨hR1,?_⟩
          clear hK K
          try simp only [zA,zB,zC,Act.put,zD,zE,zF]
          unfold wpKeepL
          simp only [List.drop_succ_cons,List.drop_zero]
          try simp only [zA,zB,zC,Act.put,zD,zE,zF]
          refine wpKeep_step rfl (fun K hK=>?_)
          go_simp
          refine hK _ _ ⟨trivial,?_⟩
          clear hK K
          try simp only [zA,zB,zC,Act.put,zD,zE,zF]
          refine wpKeep_step rfl (fun K hK=>?_)
          go_simp
          refine hK _ _ ⟨trivial,wpKeep_nil ?_⟩
          clear hK K
          try simp only [zA,zB,zC,Act.put,zD,zE,zF]
          refine NormalOnly.mk ?_
          have HBZ:Below wr.heap.size wr _:=hbwC.trans (hR1.mono hbwC.size)
          go_wp2
          go_ret
          exact ⟨by rw [HR7.out];rfl,hbi.trans (HBZ.mono hbi.size)⟩
         ·have HN:=hid (HRT.out.step (.inr (.inr (by
           rcases HGC.out with ⟨q1,q2⟩ | ⟨q1,q2⟩ | ⟨q1,q2⟩
           ·omega
           ·omega
           ·exact q1))))
          have n5:decide (g≤0)=false:=decide_eq_false hg0
          clear hg0 HGC HBAD
          go_wp2_with fail
          refine wp_held_list (fun W'=>Below wC.heap.size wC W') [0,1,2,3,4,5,6,7,8,9,10,11,12,13,14] [15] 16 (by kernel_rfl) (by kernel_rfl) ⟨rfl,rfl,rfl,Nat.le_refl _,fun _ _=>rfl⟩ ?_
          iterate 15
           refine wpTakeL_step rfl ?_ rfl ?_ ?_
           rotate_left
           ·intro W' hS'
            have s0:=(hS'.cell (p:=⟨wo.heap.size,0,none⟩) lq0).trans g0
            have s1:=(hS'.cell (p:=⟨wo.heap.size,1,none⟩) lq0).trans g1
            have s2:=(hS'.cell (p:=⟨wr.heap.size,0,none⟩) lwC).trans z0
            have s3:=(hS'.cell (p:=⟨wr.heap.size,1,none⟩) lwC).trans z1
            have s4:=(hS'.cell (p:=⟨B,off+nxI M.length k*2,none⟩) hblC).trans d0
            have s5:=(hS'.cell (p:=⟨B,off+nxI M.length k*2+1,none⟩) hblC).trans d1
            go_simp
            try with_reducible rfl
           try simp only [zA,zB,zC,Act.put,zD,zE,zF]
          have hR0:Below wC.heap.size wC wC.drew:=⟨rfl,rfl,rfl,Nat.le_refl _,fun _ _=>rfl⟩
          refine wpKeepL_step rfl rfl (fun K hK=>?_)
          go_simp
          refine (H1.out _ (hw.below (hbC.trans (hR0.mono hbC.size)))).mono ?_
          rintro e u1 ⟨rfl,hbu1⟩
          have hR1:=hR0.trans (hbu1.mono hR0.size)
          refine hK _ _ ⟨hR1,?_⟩
          clear hK K
          try simp only [zA,zB,zC,Act.put,zD,zE,zF]
          unfold wpKeepL
          simp only [List.drop_succ_cons,List.drop_zero]
          try simp only [zA,zB,zC,Act.put,zD,zE,zF]
          refine wpKeep_step rfl (fun K hK=>?_)
          go_simp
          refine hK _ _ ⟨trivial,?_⟩
          clear hK K
          try simp only [zA,zB,zC,Act.put,zD,zE,zF]
          refine wpKeep_step rfl (fun K hK=>?_)
          go_simp
          refine hK _ _ ⟨trivial,wpKeep_nil ?_⟩
          clear hK K
          try simp only [zA,zB,zC,Act.put,zD,zE,zF]
          refine NormalOnly.mk ?_
          have HBZ:Below wr.heap.size wr _:=hbwC.trans (hR1.mono hbwC.size)
          go_wp2
          refine ⟨⟨j+1,hj,int_succ j,HN.out,hbo.trans (HBZ.mono hbo.size)⟩,?_⟩
          show M.length-((j:Int)+1).toNat<M.length-((j:Int)).toNat
          omega
      ·have hjn:decide ((j:Int)<(M.length:Int))=false:=decide_eq_false (by omega)
       have HN:=hid (HRS.out.step (by have:=HRT.out;rwa [show j=M.length by omega] at this))
       go_wp2
       refine ⟨⟨k+1,hk,int_succ k,HN.out,hbi⟩,?_⟩
       show M.length-((k:Int)+1).toNat<M.length-((k:Int)).toNat
       omega
    ·have hkn:decide ((k:Int)<(M.length:Int))=false:=decide_eq_false (by omega)
     have HCV:=hid (RowsTo.cvx h3 (by have:=HRS.out;rwa [show k=M.length by omega] at this))
     obtain ⟨wo,hwo⟩ : ∃ wo,wo=wr:=⟨_,rfl⟩
     subst hwo
     have s1:(1:Int)≤(M.length:Int):=by omega
     have s2:¬ c=1:=by omega
     have s3:1≤M.length:=by omega
     go_wp2_with fail
     go_loopw [73] (fun iv wr=>∃ k:Nat,k<M.length∧iv=.int .i64 (k:Int)∧(∀ j,j≤k→¬ lssP (pt M j) (pt M 0))∧Below w.heap.size w wr) (fun iv _=>M.length-(intOf iv).toNat)
     case atStart=>exact ⟨0,by omega,rfl,fun j hj=>by rw [show j=0 by omega];exact lssP_irrefl,hbr⟩
     case round =>
      clear hbr hk hkl hkn
      obtain ⟨k,hkl,rfl,hLE,hbr⟩:=hrel
      have HLE:=hid hLE
      clear hLE
      by_cases hk:k<M.length-1
      ·have hkn:decide ((k:Int)<((M.length-1:Nat):Int))=true:=decide_eq_true (by omega)
       have i1:(0:Int)≤(k:Int):=by omega
       have i2:(k:Int)<((M.length-1:Nat):Int):=by omega
       have hblr:B<wr.heap.size:=Nat.lt_of_lt_of_le hbl hbr.size
       obtain ⟨e0,e1⟩:=HCL.out (k+1) (by omega) wr hbr
       obtain ⟨f0,f1⟩:=HCL.out 0 (by omega) wr hbr
       rw [show off+(k+1)*2=off+2+k*2 by omega] at e0 e1
       rw [show off+0*2=off by omega] at f0 f1
       have H1:=hid (HLS.out (k+1) (by omega) 0 (by omega))
       have HLX:=hid (@lexI_neg (pt M (k+1)) (pt M 0))
       have zI:(0:Int)<(M.length:Int):=by omega
       have zN:0<M.length:=by omega
       generalize tx (pt M (k+1)).1=y1 at *
       generalize tx (pt M (k+1)).2=y2 at *
       generalize tx (pt M 0).1=x1 at *
       generalize tx (pt M 0).2=x2 at *
       generalize lexI (pt M (k+1)) (pt M 0)=g at *
       go_upto_region 26 with fail
       obtain ⟨wC,hwwC⟩ : ∃ wC,wC=wr.alloc (Obj.cells #[.string y1,.string y2] 31):=⟨_,rfl⟩
       obtain ⟨hbwC,lwC,z0,z1⟩:=box_new hwwC
       rw [←hwwC]
       clear hwwC
       have hbC:=hbr.trans (hbwC.mono hbr.size)
       have hblC:B<wC.heap.size:=Nat.lt_of_lt_of_le hblr hbwC.size
       have d0:=(hbwC.cell (p:=⟨B,off,none⟩) hblr).trans f0
       have d1:=(hbwC.cell (p:=⟨B,off+1,none⟩) hblr).trans f1
       clear e0 e1 f0 f1
       by_cases hg:g<0
       ·have HR6:=hid (show R=6 by rw [HR.out];exact polyC_six HCV.out (show k+1<M.length by omega) (HLX.out.1 hg))
        have n1:decide (g<0)=true:=decide_eq_true hg
        clear hg HLX
        go_wp2_with fail
        refine wp_held_list (fun W'=>Below wC.heap.size wC W') [0,1,2,3] [4] 5 (by kernel_rfl) (by kernel_rfl) ⟨rfl,rfl,rfl,Nat.le_refl _,fun _ _=>rfl⟩ ?_
        iterate 4
         refine wpTakeL_step rfl ?_ rfl ?_ ?_
         rotate_left
         ·intro W' hS'
          have s0:=(hS'.cell (p:=⟨wr.heap.size,0,none⟩) lwC).trans z0
          have s1:=(hS'.cell (p:=⟨wr.heap.size,1,none⟩) lwC).trans z1
          have s2:=(hS'.cell (p:=⟨B,off,none⟩) hblC).trans d0
          have s3:=(hS'.cell (p:=⟨B,off+1,none⟩) hblC).trans d1
          go_simp
          try with_reducible rfl
         try simp only [zA,zB,zC,Act.put,zD,zE,zF]
        have hR0:Below wC.heap.size wC wC.drew:=⟨rfl,rfl,rfl,Nat.le_refl _,fun _ _=>rfl⟩
        refine wpKeepL_step rfl rfl (fun K hK=>?_)
        go_simp
        refine (H1.out _ (hw.below (hbC.trans (hR0.mono hbC.size)))).mono ?_
        rintro e u1 ⟨rfl,hbu1⟩
        have hR1:=hR0.trans (hbu1.mono hR0.size)
        refine hK _ _ ⟨hR1,?_⟩
        clear hK K
        try simp only [zA,zB,zC,Act.put,zD,zE,zF]
        unfold wpKeepL
        simp only [List.drop_succ_cons,List.drop_zero]
        try simp only [zA,zB,zC,Act.put,zD,zE,zF]
        refine wpKeep_step rfl (fun K hK=>?_)
        go_simp
        refine hK _ _ ⟨trivial,wpKeep_nil ?_⟩
        clear hK K
        try simp only [zA,zB,zC,Act.put,zD,zE,zF]
        refine NormalOnly.mk ?_
        have HBZ:Below wr.heap.size wr _:=hbwC.trans (hR1.mono hbwC.size)
        go_wp2
        go_ret
        exact ⟨by rw [HR6.out];rfl,hbr.trans (HBZ.mono hbr.size)⟩
       ·have HN:=hid (show ∀ j,j≤k+1→¬ lssP (pt M j) (pt M 0) from fun j hj=>by
         rcases (show j≤k∨j=k+1 by omega) with e | e
         ·exact HLE.out j e
         ·rw [e];exact fun h=>hg (HLX.out.2 h))
        have n1:decide (g<0)=false:=decide_eq_false hg
        clear hg HLX
        go_wp2_with fail
        refine wp_held_list (fun W'=>Below wC.heap.size wC W') [0,1,2,3] [4] 5 (by kernel_rfl) (by kernel_rfl) ⟨rfl,rfl,rfl,Nat.le_refl _,fun _ _=>rfl⟩ ?_
        iterate 4
         refine wpTakeL_step rfl ?_ rfl ?_ ?_
         rotate_left
         ·intro W' hS'
          have s0:=(hS'.cell (p:=⟨wr.heap.size,0,none⟩) lwC).trans z0
          have s1:=(hS'.cell (p:=⟨wr.heap.size,1,none⟩) lwC).trans z1
          have s2:=(hS'.cell (p:=⟨B,off,none⟩) hblC).trans d0
          have s3:=(hS'.cell (p:=⟨B,off+1,none⟩) hblC).trans d1
          go_simp
          try with_reducible rfl
         try simp only [zA,zB,zC,Act.put,zD,zE,zF]
        have hR0:Below wC.heap.size wC wC.drew:=⟨rfl,rfl,rfl,Nat.le_refl _,fun _ _=>rfl⟩
        refine wpKeepL_step rfl rfl (fun K hK=>?_)
        go_simp
        refine (H1.out _ (hw.below (hbC.trans (hR0.mono hbC.size)))).mono ?_
        rintro e u1 ⟨rfl,hbu1⟩
        have hR1:=hR0.trans (hbu1.mono hR0.size)
        refine hK _ _ ⟨hR1,?_⟩
        clear hK K
        try simp only [zA,zB,zC,Act.put,zD,zE,zF]
        unfold wpKeepL
        simp only [List.drop_succ_cons,List.drop_zero]
        try simp only [zA,zB,zC,Act.put,zD,zE,zF]
        refine wpKeep_step rfl (fun K hK=>?_)
        go_simp
        refine hK _ _ ⟨trivial,wpKeep_nil ?_⟩
        clear hK K
        try simp only [zA,zB,zC,Act.put,zD,zE,zF]
        refine NormalOnly.mk ?_
        have HBZ:Below wr.heap.size wr _:=hbwC.trans (hR1.mono hbwC.size)
        go_wp2
        refine ⟨⟨k+1,by omega,int_succ k,HN.out,hbr.trans (HBZ.mono hbr.size)⟩,?_⟩
        show M.length-((k:Int)+1).toNat<M.length-((k:Int)).toNat
        omega
      ·have hkn:decide ((k:Int)<((M.length-1:Nat):Int))=false:=decide_eq_false (by omega)
       have HR0:=hid (show R=0 by rw [HR.out];exact polyC_zero HCV.out (fun j hj=>HLE.out j (by omega)))
       go_wp2
       go_ret
       exact ⟨by rw [HR0.out];rfl,hbr⟩
end Go.Proofs.YtgohnjdgoglcfaaGreatDoor
