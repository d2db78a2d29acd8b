import Derived.Test.YtogdahbbogimcaaGreatDoorC9Z
import Derived.Test.YtogdahbbogimcaaGreatDoorC8Z
set_option maxRecDepth 100000
set_option maxHeartbeats 8000000
namespace Go.Proofs.YtogdahbbogimcaaGreatDoor
open Go.RowKit Go.Shelf
open Go.Lib (decDigits itoa nDigits)
open Go.Lib (hid)
theorem app_grow {t e:TypeId} {z:Value} {size bytes:Nat} (S:SliceOf t e z size bytes) {ops:Array Oper} {rest:List Oper} {o:Oper} {a:Act} {Q:Exit→Act→World→Prop} {w:World}
  (hgd:o.guard=none) (s x:Operand) (ho:o.op=.call { callee:=.builtin .append,args:=#[s,x],argTypes:=#[t,t] })
  (base:Nat) (v:Value) (n:Nat) (xs:List Value) (hs:a.eval s=v) (hown:w.ownsRow base e size v n xs)
  (m c:Nat) (news:Array Value) (hx:a.eval x=.slice (some ⟨w.heap.size,0,none⟩) m c) (hl:news.size=m*size) (h1:∀ u∈news.toList,u.oneCell'=true)
  (hn:(n+m)*bytes≤140737488355328) (hby:0<bytes) (hbase:base≤w.heap.size) (xs':List Value) (hxs:xs++news.toList=xs')
  (h:∀ v' w',w'.ownsRow base e size v' (n+m) xs'→(w.alloc (.cells news e)).grownBy w' v.ownBlock→wpList Tryz.prog ops Q rest (a.put o.dst v') w'):wpList Tryz.prog ops Q (o :: rest) a (w.alloc (.cells news e)):=by
 obtain ⟨i,hi,hz0,hz1,hz2⟩:=info_parts S.info
 have hle:n+m≤(n+m)*bytes:=Nat.le_mul_of_pos_right _ hby
 refine wpList_append_own _ hgd s x t ho base e i z size bytes S.ht hi hz0 hz1 hz2 S.hzs S.hsz v n xs hs ?_ ⟨w.heap.size,0,none⟩ m c news.toList hx (by simpa using hl) ?_ h1 (by unfold maxLen;omega) hn (by simp;omega) ?_
 ·exact hown.alloc _
 ·intro j u hj
  rw [adr_add,World.cell?_alloc_new]
  simpa using hj
 ·intro v' w' ho hg _
  rw [hxs] at ho
  exact h v' w' ho hg
theorem slSu:SliceOf 118 46 (.slice none 0 0) 1 24:=⟨Tryz.underlying118,by kernel_rfl,rfl,by decide⟩
def SuR (w:World) (base:Nat) (v:Value) (us:List Value) (k:Nat) (L:List Rat):Prop:=us.length=k∧w.ownsRow base 46 1 v k us∧∀ i q,i<k→L[i]?=some q→∃ u b,us[i]?=some u∧Surd1 w u b q
theorem SuR.below {w w':World} {base:Nat} {v:Value} {us:List Value} {k:Nat} {L:List Rat} (h:SuR w base v us k L) (hb:Below w.heap.size w w'):SuR w' base v us k L:=by
 obtain ⟨h1,h2,h3⟩:=h
 refine ⟨h1,owns_below h2 hb,fun i q hi hq=>?_⟩
 obtain ⟨u,b,k1,k2⟩:=h3 i q hi hq
 exact ⟨u,b,k1,k2.below hb⟩
theorem Surd1.grown {w w':World} {base n:Nat} {v u:Value} {us:List Value} {b:Nat} {q:Rat} (h:Surd1 w u b q) (hr:w.ownsRow base 46 1 v n us) (hg:w.grownBy w' v.ownBlock):Surd1 w' u b q:=by
 obtain ⟨c,cur,h1,h2,h3,h4,h5⟩:=h
 refine ⟨c,cur,h1,h2,h3,?_,h5⟩
 rw [hg.block b (lt_of_some h4) ?_]
 ·exact h4
 ·intro e
  rcases hr.2 with ⟨r2,_⟩ | ⟨g,cap,cur',e1,_,e3,_⟩
  ·rw [r2] at e;simp [Value.ownBlock] at e
  ·rw [e1] at e
   simp only [Value.ownBlock,Option.some.injEq] at e
   subst e
   rw [h4] at e3
   simp only [Option.some.injEq,Obj.cells.injEq] at e3
   have:=e3.2.1
   revert this
   decide
theorem SuR.snoc {w w':World} {base:Nat} {v v' u:Value} {us:List Value} {k b:Nat} {L:List Rat} {q:Rat} (h:SuR w base v us k L) (hu:Surd1 w u b q) (hq:L[k]?=some q) (hg:(w.alloc (.cells #[u] 46)).grownBy w' v.ownBlock) (ho:w'.ownsRow base 46 1 v' (k+1) (us ++ [u])):SuR w' base v' (us ++ [u]) (k+1) L:=by
 obtain ⟨h1,h2,h3⟩:=h
 have hal:=alloc_below w (Obj.cells #[u] 46)
 have h2':=owns_below h2 hal
 refine ⟨by simp [h1],ho,fun i p hi hp=>?_⟩
 rcases Nat.lt_or_ge i k with hk | hk
 ·obtain ⟨u',b',k1,k2⟩:=h3 i p hk hp
  exact ⟨u',b',by rw [List.getElem?_append_left (by omega)];exact k1,(k2.below hal).grown h2' hg⟩
 ·obtain rfl:i=k:=by omega
  rw [hq] at hp
  cases hp
  exact ⟨u,b,by rw [List.getElem?_append_right (by omega),h1,Nat.sub_self];rfl,(hu.below hal).grown h2' hg⟩
theorem SuR.surds {w:World} {base:Nat} {v:Value} {us:List Value} {L:List Rat} (h:SuR w base v us L.length L) (h0:0<L.length):Surds w v w.heap.size L:=by
 obtain ⟨h1,h2,h3⟩:=h
 rcases h2.2 with ⟨r2,r3⟩ | ⟨g,cap,cur,e1,_,e3,e4,e5,e6,e7⟩
 ·obtain ⟨m,hm⟩ : ∃ m,L.length=m+1:=⟨L.length-1,by omega⟩
  rw [hm] at h2
  obtain ⟨_,_,e⟩:=ownsRow_succ h2
  rw [e] at r2
  cases r2
 ·refine ⟨g,cap,e1,e4,e5,lt_of_some e3,Nat.le_refl _,fun i hi=>?_⟩
  obtain ⟨u,b,k1,k2⟩:=h3 i L[i] hi (List.getElem?_eq_getElem hi)
  refine ⟨u,b,?_,?_,k2⟩
  ·rw [←e7,List.getElem?_take,if_pos (by omega)] at k1
   simp only [World.cell?,e3]
   simpa using k1
  ·obtain ⟨c,cur',_,_,_,k4,_⟩:=k2
   exact lt_of_some k4
def TwoP (w:World) (s8 s9:Value) (x1 x2 y1 y2:ByteArray) (W:World):Prop:=∃ A D,s8=.pointer (some ⟨A,0,none⟩)∧s9=.pointer (some ⟨D,0,none⟩)∧W.heap[A]?=some (.cells #[.string x1,.string x2] 30 (0,0))∧W.heap[D]?=some (.cells #[.string y1,.string y2] 30 (0,0))∧Below w.heap.size w W
theorem two_store {w W:World} {A D:Nat} {x1 x2 y1 y2 a b c d:Value} {t:TypeId} (hA:W.heap[A]?=some (.cells #[a,b] t (0,0))) (hD:W.heap[D]?=some (.cells #[c,d] t (0,0))) (hne:A≠D) (h1:w.heap.size≤A) (h2:w.heap.size≤D) (hb:Below w.heap.size w W) :
  ((((W.setCell ⟨A,0,none⟩ x1).setCell ⟨A,1,none⟩ x2).setCell ⟨D,0,none⟩ y1).setCell ⟨D,1,none⟩ y2).heap[A]?=some (.cells #[x1,x2] t (0,0)) ∧
  ((((W.setCell ⟨A,0,none⟩ x1).setCell ⟨A,1,none⟩ x2).setCell ⟨D,0,none⟩ y1).setCell ⟨D,1,none⟩ y2).heap[D]?=some (.cells #[y1,y2] t (0,0)) ∧
  Below w.heap.size w ((((W.setCell ⟨A,0,none⟩ x1).setCell ⟨A,1,none⟩ x2).setCell ⟨D,0,none⟩ y1).setCell ⟨D,1,none⟩ y2):=by
 have e1:=two_set1 x2 (two_set0 x1 hA)
 have e2:((W.setCell ⟨A,0,none⟩ x1).setCell ⟨A,1,none⟩ x2).heap[D]?=some (.cells #[c,d] t (0,0)):=by
  rw [Below.heap_setCell _ _ _ _ (Ne.symm hne),Below.heap_setCell _ _ _ _ (Ne.symm hne)];exact hD
 refine ⟨?_,two_set1 y2 (two_set0 y1 e2),?_⟩
 ·rw [Below.heap_setCell _ _ _ _ hne,Below.heap_setCell _ _ _ _ hne];exact e1
 ·exact (((hb.setCell (p:=⟨A,0,none⟩) h1 _).setCell (p:=⟨A,1,none⟩) h1 _).setCell (p:=⟨D,0,none⟩) h2 _).setCell (p:=⟨D,1,none⟩) h2 _
theorem pl_sides (v:Value) (c:List QP) (L:List Rat) (hL:L.length+1=c.length) (h1:0<L.length) (hn:c.length≤400) (hz:∀ p∈c,OkP p) (hq:∀ i (_:i<L.length),((pt c (i+1)).1-(pt c i).1)*((pt c (i+1)).1-(pt c i).1)+((pt c (i+1)).2-(pt c i).2)*((pt c (i+1)).2-(pt c i).2)=L[i]*L[i])
  (hp:∀ q∈L,0<q∧OkB q∧OkB (q*q)) (hP:∀ k,k≤L.length→Sz 10000000 (sumR (L.take k))) (h0:sumR L≠0) (hok:OkB (sumR L)) (w:World) (hw:Good w) (hv:PtsV w v (pt c) c.length) :
  Calls Tryz.prog 37 #[v,.int .i64 (L.length:Int)] w (SurdPost (sumR L) w):=by
 have HS:=hid (fun i (hi:i<L.length)=>And.intro (fun w' (hg:Good w')=>k_sub (pt c (i+1)).1 (pt c i).1 ((hz _ (pt_memL (show i+1<c.length by omega))).1.sz.mono (by decide)) ((hz _ (pt_memL (show i<c.length by omega))).1.sz.mono (by decide)) w' hg) (fun w' (hg:Good w')=>k_sub (pt c (i+1)).2 (pt c i).2 ((hz _ (pt_memL (show i+1<c.length by omega))).2.sz.mono (by decide)) ((hz _ (pt_memL (show i<c.length by omega))).2.sz.mono (by decide)) w' hg))
 have hzx:∀ i,i<L.length→Sz 100000 ((pt c (i+1)).1-(pt c i).1):=fun i hi=>(((hz _ (pt_memL (show i+1<c.length by omega))).1.sz).sub ((hz _ (pt_memL (show i<c.length by omega))).1.sz)).mono (by decide)
 have hzy:∀ i,i<L.length→Sz 100000 ((pt c (i+1)).2-(pt c i).2):=fun i hi=>(((hz _ (pt_memL (show i+1<c.length by omega))).2.sz).sub ((hz _ (pt_memL (show i<c.length by omega))).2.sz)).mono (by decide)
 have HM:=hid (fun i (hi:i<L.length)=>And.intro (fun w' (hg:Good w')=>k_mul _ _ ((hzx i hi).mono (by decide)) ((hzx i hi).mono (by decide)) w' hg) (fun w' (hg:Good w')=>k_mul _ _ ((hzy i hi).mono (by decide)) ((hzy i hi).mono (by decide)) w' hg))
 have HA:=hid (fun i (hi:i<L.length) w' (hg:Good w')=>k_add _ _ (((hzx i hi).mul (hzx i hi)).mono (by decide)) (((hzy i hi).mul (hzy i hi)).mono (by decide)) w' hg)
 have HQ:=hid hq
 have HO:=hid (fun i (hi:i<L.length) w' (hg:Good w')=>surd_Of L[i] (hp _ (List.getElem_mem hi)).1 (hp _ (List.getElem_mem hi)).2.1 (hp _ (List.getElem_mem hi)).2.2 w' hg)
 have HSM:=hid (fun v B w' (hg:Good w') (h:Surds w' v B L)=>surd_Sum v B L (fun q h=>⟨(hp q h).2.1,fun e=>by have:=(hp q h).1;rw [e] at this;exact absurd this (by decide)⟩) hP h0 hok h1 (by omega) w' hg h)
 obtain ⟨B,cp,rfl,hcl,hcm,hbl,HCE⟩:=hv.cellsB
 have hb:=Below.refl w.heap.size w
 have HR0:=hid (show SuR w w.heap.size (.slice none 0 0) [] 0 L from ⟨rfl,World.ownsRow_nil _ _ _ _,fun i q hi _=>absurd hi (Nat.not_lt_zero _)⟩)
 unfold RV SurdPost at *
 unfold maxLen at hcm
 have HSUM:=hid (show sumR L=sumR L from rfl)
 clear hz hv hq hp hP h0 hok hzx hzy HSUM
 go_enter Tryz.func37,Tryz.ntmps37
 go_wp2_with fail
 go_loopw [4,5,6,17] (fun _ _ lv iv wr=>∃ (k:Nat) (us:List Value),k≤L.length∧iv=.int .i64 (k:Int)∧SuR wr w.heap.size lv us k L∧Below w.heap.size w wr) (fun _ _ _ iv _=>L.length-(intOf iv).toNat)
 case atStart=>exact ⟨0,[],Nat.zero_le _,rfl,HR0.out,hb⟩
 case round =>
  clear hb HR0
  obtain ⟨k,us,hkl,rfl,hSR,hbr⟩:=hrel
  have HSR:=hid hSR
  clear hSR
  by_cases hk:k<L.length
  ·have hkn:decide ((k:Int)<(L.length:Int))=true:=decide_eq_true (by omega)
   have i1:(0:Int)≤(k:Int):=by omega
   have i2:(k:Int)<(c.length:Int):=by omega
   have i3:(0:Int)≤(k:Int)+1:=by omega
   have i4:(k:Int)+1<(c.length:Int):=by omega
   have i5:((k:Int)+1).toNat=k+1:=by omega
   have i6:k+1<c.length:=by omega
   have i7:k<c.length:=by omega
   have t1:Int.tmod ((k:Int)+1) (c.length:Int)=(k:Int)+1:=by rw [Int.tmod_eq_emod_of_nonneg (by omega),Int.emod_eq_of_lt (by omega) (by omega)]
   have t2:IntKind.i64.wrap ((k:Int)+1)=(k:Int)+1:=IntWalk.i64_in _ (by omega)
   have t4:((c.length:Int) == 0)=false:=beq_eq_false_iff_ne.2 (by omega)
   have t5:(c.length:Int)≠0:=by omega
   have t6:c≠[]:=by intro h;rw [h] at i6;simp at i6
   have hblr:B<wr.heap.size:=Nat.lt_of_lt_of_le hbl hbr.size
   obtain ⟨c0,c1⟩:=HCE.out k i7 wr hbr
   obtain ⟨d0,d1⟩:=HCE.out (k+1) i6 wr hbr
   have HS1:=hid (HS.out k hk).1
   have HS2:=hid (HS.out k hk).2
   have HM1:=hid (HM.out k hk).1
   have HM2:=hid (HM.out k hk).2
   have HAD:=hid (HA.out k hk)
   rw [HQ.out k hk] at HAD
   have HOF:=hid (HO.out k hk)
   have HLK:=hid (List.getElem?_eq_getElem hk)
   generalize tx (L[k]*L[k])=sq at *
   generalize tx (((pt c (k+1)).1-(pt c k).1)*((pt c (k+1)).1-(pt c k).1))=xx at *
   generalize tx (((pt c (k+1)).2-(pt c k).2)*((pt c (k+1)).2-(pt c k).2))=yy at *
   generalize tx ((pt c (k+1)).1-(pt c k).1)=dx at *
   generalize tx ((pt c (k+1)).2-(pt c k).2)=dy at *
   generalize tx (pt c k).1=x1 at *
   generalize tx (pt c k).2=x2 at *
   generalize tx (pt c (k+1)).1=y1 at *
   generalize tx (pt c (k+1)).2=y2 at *
   generalize L[k]=q at *
   go_upto_region 5 with fail
   go_cut [8,9] from 18 to 59 (fun s8 s9 wx=>TwoP wr s8 s9 x1 x2 y1 y2 wx)
   case first =>
    go_wp2_with fail
    refine wp_held_pl (fun W'=>Below wr.heap.size wr W') (.take 0 (.take 1 (.take 2 (.take 3 (.take 4 (.take 5 (.take 6 (.take 7 (.take 8 (.take 9 (.take 10 (.take 11 (.two 12 (.one 13 (.one 14 .fin)) 13 (.one 12 (.one 14 .fin))))))))))))))) 15 (by kernel_rfl) (by kernel_rfl) ⟨rfl,rfl,rfl,Nat.le_refl _,fun _ _=>rfl⟩ ?_
    have hP0:Below wr.heap.size wr wr.drew:=⟨rfl,rfl,rfl,Nat.le_refl _,fun _ _=>rfl⟩
    generalize wr.drew=pv0 at *
    iterate 12
     refine wpPl_take rfl ?_ rfl ?_ ?_
     rotate_left
     ·intro W' hS'
      have s0:=(hS'.cell (p:=⟨B,k*2,none⟩) hblr).trans c0
      have s1:=(hS'.cell (p:=⟨B,k*2+1,none⟩) hblr).trans c1
      have s2:=(hS'.cell (p:=⟨B,(k+1)*2,none⟩) hblr).trans d0
      have s3:=(hS'.cell (p:=⟨B,(k+1)*2+1,none⟩) hblr).trans d1
      go_simp
      try with_reducible rfl
     try simp only [zA,zB,zC,Act.put,zD,zE,zF]
    refine wpPl_two ?_ ?_
    ·refine wpPl_keep rfl rfl (fun K hK=>?_)
     go_simp
     obtain ⟨pv1,hwpv1⟩ : ∃ q,q=pv0.alloc (Obj.cells #[.string ⟨#[]⟩,.string ⟨#[]⟩] 30):=⟨_,rfl⟩
     have hz121:pv1.heap[pv0.heap.size]?=some (.cells #[.string ⟨#[]⟩,.string ⟨#[]⟩] 30 (0,0)):=by rw [hwpv1];exact World.alloc_heap_new _ _
     have hbpv1:Below pv0.heap.size pv0 pv1:=by rw [hwpv1];exact alloc_below _ _
     have hP1:=hP0.trans (hbpv1.mono hP0.size)
     rw [←hwpv1]
     clear hwpv1
     refine hK _ _ ⟨hP1,?_⟩
     clear hK K
     try simp only [zA,zB,zC,Act.put,zD,zE,zF]
     refine wpPl_keep rfl rfl (fun K hK=>?_)
     go_simp
     obtain ⟨pv2,hwpv2⟩ : ∃ q,q=pv1.alloc (Obj.cells #[.string ⟨#[]⟩,.string ⟨#[]⟩] 30):=⟨_,rfl⟩
     have hz132:pv2.heap[pv1.heap.size]?=some (.cells #[.string ⟨#[]⟩,.string ⟨#[]⟩] 30 (0,0)):=by rw [hwpv2];exact World.alloc_heap_new _ _
     have hbpv2:Below pv1.heap.size pv1 pv2:=by rw [hwpv2];exact alloc_below _ _
     have hP2:=hP1.trans (hbpv2.mono hP1.size)
     rw [←hwpv2]
     clear hwpv2
     have hz121_2:=(hbpv2.block _ (lt_of_some hz121)).trans hz121
     refine hK _ _ ⟨hP2,?_⟩
     clear hK K
     try simp only [zA,zB,zC,Act.put,zD,zE,zF]
     obtain ⟨_,_,_,_⟩:=two_cells hz121_2
     refine wpPl_keep rfl rfl (fun K hK=>?_)
     go_simp
     refine hK _ _ ⟨(hP2.setCell (p:=⟨_,0,none⟩) hP0.size _).setCell (p:=⟨_,1,none⟩) hP0.size _,?_⟩
     clear hK K
     try simp only [zA,zB,zC,Act.put,zD,zE,zF]
     unfold wpPl
     simp only [List.drop_succ_cons,List.drop_zero]
     have hLT:pv0.heap.size<pv1.heap.size:=by
      have:=lt_of_some hz121
      exact this
     have hTS:=two_store (x1:=.string x1) (x2:=.string x2) (y1:=.string y1) (y2:=.string y2) hz121_2 hz132 (Nat.ne_of_lt hLT) hP0.size hP1.size hP2
     obtain ⟨_,_,_,_⟩:=two_cells hz121_2
     obtain ⟨_,_,_,_⟩:=two_cells hz132
     have HBA:=hid (show TwoP wr (.pointer (some ⟨pv0.heap.size,0,none⟩)) (.pointer (some ⟨pv1.heap.size,0,none⟩)) x1 x2 y1 y2 _ from ⟨_,_,rfl,rfl,hTS.1,hTS.2.1,hTS.2.2⟩)
     have hNE:(pv0.heap.size:Nat)≠pv1.heap.size:=(Nat.ne_of_lt hLT)
     have hNE2:(pv1.heap.size:Nat)≠pv0.heap.size:=Ne.symm hNE
     clear hTS hLT
     go_wp2
     refine NormalOnly.mk ?_
     go_wp2_with fail
     go_meet
     exact HBA.out
    ·refine wpPl_keep rfl rfl (fun K hK=>?_)
     go_simp
     obtain ⟨pv4,hwpv4⟩ : ∃ q,q=pv0.alloc (Obj.cells #[.string ⟨#[]⟩,.string ⟨#[]⟩] 30):=⟨_,rfl⟩
     have hz134:pv4.heap[pv0.heap.size]?=some (.cells #[.string ⟨#[]⟩,.string ⟨#[]⟩] 30 (0,0)):=by rw [hwpv4];exact World.alloc_heap_new _ _
     have hbpv4:Below pv0.heap.size pv0 pv4:=by rw [hwpv4];exact alloc_below _ _
     have hP4:=hP0.trans (hbpv4.mono hP0.size)
     rw [←hwpv4]
     clear hwpv4
     refine hK _ _ ⟨hP4,?_⟩
     clear hK K
     try simp only [zA,zB,zC,Act.put,zD,zE,zF]
     refine wpPl_keep rfl rfl (fun K hK=>?_)
     go_simp
     obtain ⟨pv5,hwpv5⟩ : ∃ q,q=pv4.alloc (Obj.cells #[.string ⟨#[]⟩,.string ⟨#[]⟩] 30):=⟨_,rfl⟩
     have hz125:pv5.heap[pv4.heap.size]?=some (.cells #[.string ⟨#[]⟩,.string ⟨#[]⟩] 30 (0,0)):=by rw [hwpv5];exact World.alloc_heap_new _ _
     have hbpv5:Below pv4.heap.size pv4 pv5:=by rw [hwpv5];exact alloc_below _ _
     have hP5:=hP4.trans (hbpv5.mono hP4.size)
     rw [←hwpv5]
     clear hwpv5
     have hz134_5:=(hbpv5.block _ (lt_of_some hz134)).trans hz134
     refine hK _ _ ⟨hP5,?_⟩
     clear hK K
     try simp only [zA,zB,zC,Act.put,zD,zE,zF]
     obtain ⟨_,_,_,_⟩:=two_cells hz125
     refine wpPl_keep rfl rfl (fun K hK=>?_)
     go_simp
     refine hK _ _ ⟨(hP5.setCell (p:=⟨_,0,none⟩) hP4.size _).setCell (p:=⟨_,1,none⟩) hP4.size _,?_⟩
     clear hK K
     try simp only [zA,zB,zC,Act.put,zD,zE,zF]
     unfold wpPl
     simp only [List.drop_succ_cons,List.drop_zero]
     have hLT:pv0.heap.size<pv4.heap.size:=by
      have:=lt_of_some hz134
      exact this
     have hTS:=two_store (x1:=.string x1) (x2:=.string x2) (y1:=.string y1) (y2:=.string y2) hz125 hz134_5 (Nat.ne_of_gt hLT) hP4.size hP0.size hP5
     obtain ⟨_,_,_,_⟩:=two_cells hz125
     obtain ⟨_,_,_,_⟩:=two_cells hz134_5
     have HBA:=hid (show TwoP wr (.pointer (some ⟨pv4.heap.size,0,none⟩)) (.pointer (some ⟨pv0.heap.size,0,none⟩)) x1 x2 y1 y2 _ from ⟨_,_,rfl,rfl,hTS.1,hTS.2.1,hTS.2.2⟩)
     have hNE:(pv4.heap.size:Nat)≠pv0.heap.size:=(Nat.ne_of_gt hLT)
     have hNE2:(pv0.heap.size:Nat)≠pv4.heap.size:=Ne.symm hNE
     clear hTS hLT
     go_wp2
     refine NormalOnly.mk ?_
     go_wp2_with fail
     go_meet
     exact HBA.out
   case rest =>
   obtain ⟨A,D,rfl,rfl,hA,hD,hbc⟩:=hcut
   have hb5:=hbr.trans (hbc.mono hbr.size)
   have HSR5:=hid (HSR.out.below hbc)
   have hlA:=lt_of_blk hA
   have hlD:=lt_of_blk hD
   obtain ⟨a0,a1,_,_⟩:=two_cells hA
   obtain ⟨e0,e1,_,_⟩:=two_cells hD
   clear hA hD c0 c1 d0 d1 HSR t1 t4 t5 t6
   go_wp2_with fail
   refine wp_held_pl (fun W'=>Below wc.heap.size wc W') (.take 0 (.take 1 (.take 2 (.take 3 (.take 5 (.take 6 (.take 7 (.take 8 (.one 4 (.one 9 (.take 10 .fin))))))))))) 11 (by kernel_rfl) (by kernel_rfl) ⟨rfl,rfl,rfl,Nat.le_refl _,fun _ _=>rfl⟩ ?_
   have hQ0:Below wc.heap.size wc wc.drew:=⟨rfl,rfl,rfl,Nat.le_refl _,fun _ _=>rfl⟩
   generalize wc.drew=qv0 at *
   iterate 8
    refine wpPl_take rfl ?_ rfl ?_ ?_
    rotate_left
    ·intro W' hS'
     have s0:=(hS'.cell (p:=⟨A,0,none⟩) hlA).trans a0
     have s1:=(hS'.cell (p:=⟨A,1,none⟩) hlA).trans a1
     have s2:=(hS'.cell (p:=⟨D,0,none⟩) hlD).trans e0
     have s3:=(hS'.cell (p:=⟨D,1,none⟩) hlD).trans e1
     go_simp
     try with_reducible rfl
    try simp only [zA,zB,zC,Act.put,zD,zE,zF]
   refine wpPl_keep rfl rfl (fun K hK=>?_)
   go_simp
   refine (HS1.out _ (hw.below (hb5.trans (hQ0.mono hb5.size)))).mono ?_
   rintro e qv1 ⟨rfl,hbqv1⟩
   have hQ1:=hQ0.trans (hbqv1.mono hQ0.size)
   refine hK _ _ ⟨hQ1,?_⟩
   clear hK K
   try simp only [zA,zB,zC,Act.put,zD,zE,zF]
   refine wpPl_keep rfl rfl (fun K hK=>?_)
   go_simp
   refine (HS2.out _ (hw.below (hb5.trans (hQ1.mono hb5.size)))).mono ?_
   rintro e qv2 ⟨rfl,hbqv2⟩
   have hQ2:=hQ1.trans (hbqv2.mono hQ1.size)
   refine hK _ _ ⟨hQ2,?_⟩
   clear hK K
   try simp only [zA,zB,zC,Act.put,zD,zE,zF]
   refine wpPl_take rfl ?_ rfl ?_ ?_
   rotate_left
   ·intro W' hS'
    have s0:=(hS'.cell (p:=⟨A,0,none⟩) hlA).trans a0
    have s1:=(hS'.cell (p:=⟨A,1,none⟩) hlA).trans a1
    have s2:=(hS'.cell (p:=⟨D,0,none⟩) hlD).trans e0
    have s3:=(hS'.cell (p:=⟨D,1,none⟩) hlD).trans e1
    go_simp
    try with_reducible rfl
   try simp only [zA,zB,zC,Act.put,zD,zE,zF]
   unfold wpPl
   simp only [List.drop_succ_cons,List.drop_zero]
   have hb6:=hb5.trans (hQ2.mono hb5.size)
   have HSR6:=hid (HSR5.out.below hQ2)
   go_wp2
   refine NormalOnly.mk ?_
   go_wp2_with fail
   refine (HM1.out _ (hw.below hb6)).mono ?_
   rintro e u1 ⟨rfl,hu1⟩
   have hb7:=hb6.trans (hu1.mono hb6.size)
   go_wp2_with fail
   refine (HM2.out _ (hw.below hb7)).mono ?_
   rintro e u2 ⟨rfl,hu2⟩
   have hb8:=hb7.trans (hu2.mono hb7.size)
   go_wp2_with fail
   refine (HAD.out _ (hw.below hb8)).mono ?_
   rintro e u3 ⟨rfl,hu3⟩
   have hb9:=hb8.trans (hu3.mono hb8.size)
   go_wp2_with fail
   refine (HOF.out _ (hw.below hb9)).mono ?_
   rintro e u4 ⟨su,sb,rfl,hsu,hsl,hu4⟩
   have hb10:=hb9.trans (hu4.mono hb9.size)
   have hx6:=(hu1.trans (hu2.mono hu1.size)).trans (hu3.mono (Nat.le_trans hu1.size hu2.size))
   have HSR:=hid (HSR6.out.below (hx6.trans (hu4.mono hx6.size)))
   have hrow:=HSR.out.2.1
   have HSU:=hid hsu
   obtain ⟨cc,rfl,-⟩:=hsu.cells
   have HONE:=hid (show ∀ u∈(#[Value.slice (some ⟨sb,0,none⟩) 1 cc]:Array Value).toList,u.oneCell'=true by simp [Value.oneCell'])
   have hws:=hb10.size
   clear hsu hsl hu1 hu2 hu3 hu4 hx6
   go_wp2_with (at_builtin;refine app_grow slSu rfl _ _ rfl w.heap.size _ k _ rfl hrow 1 1 _ rfl rfl HONE.out (by omega) (by decide) hws _ rfl ?_;intro v1 w9 hown2 hg9;have HO2:=hid hown2;have HG9:=hid hg9;clear hown2 hg9)
   have HSN:=hid (HSR.out.snoc HSU.out HLK.out HG9.out HO2.out)
   have hb11:Below w.heap.size w w9:=(hb10.alloc hb10.size _).grown HG9.out (Nat.le_trans hb10.size (by simp)) (fun g hg=>(HSR.out.2.1.lt g hg).1)
   refine ⟨⟨k+1,_,hk,int_succ k,HSN.out,hb11⟩,?_⟩
   show L.length-((k:Int)+1).toNat<L.length-((k:Int)).toNat
   omega
  ·have hkn:decide ((k:Int)<(L.length:Int))=false:=decide_eq_false (by omega)
   obtain rfl:k=L.length:=by omega
   have HSS:=hid (HSM.out _ _ wr (hw.below hbr) (HSR.out.surds h1))
   go_wp2_with fail
   refine HSS.out.mono ?_
   rintro e w1 ⟨u,b,rfl,hs,hub,hb1⟩
   go_wp2
   go_ret2
   exact ⟨u,b,rfl,hs,Nat.le_trans hbr.size hub,hbr.trans (hb1.mono hbr.size)⟩
theorem pl_Length (v:Value) (c:List QP) (L:List Rat) (hS:SimpleC c (c.length-1)) (hL:L.length+1=c.length) (h1:0<L.length) (hn:c.length≤400) (hz:∀ p∈c,OkP p) (hq:∀ i (_:i<L.length),((pt c (i+1)).1-(pt c i).1)*((pt c (i+1)).1-(pt c i).1)+((pt c (i+1)).2-(pt c i).2)*((pt c (i+1)).2-(pt c i).2)=L[i]*L[i])
  (hp:∀ q∈L,0<q∧OkB q∧OkB (q*q)) (hP:∀ k,k≤L.length→Sz 10000000 (sumR (L.take k))) (h0:sumR L≠0) (hok:OkB (sumR L)) (w:World) (hw:Good w) (hv:PtsV w v (pt c) c.length) :
  Calls Tryz.prog 11 #[v] w (SurdPost (sumR L) w):=by
 have HC:=hid (pl_Check v c hS (by omega) hn hz w hw hv)
 have HS:=hid (fun w' (hb:Below w.heap.size w w')=>pl_sides v c L hL h1 hn hz hq hp hP h0 hok w' (hw.below hb) (hv.below hb))
 have m0:IntKind.i64.wrap ((c.length:Int)-1)=(L.length:Int):=(IntWalk.i64_in _ (by omega)).trans (by omega)
 obtain ⟨B,cp,rfl,hcl,hcm,hbl,HCE⟩:=hv.cellsB
 unfold RV at HC
 unfold SurdPost at *
 clear hS hz hv hq hp hP h0 hok HCE
 go_enter Tryz.func11,Tryz.ntmps11
 go_wp2_with fail
 refine HC.out.mono ?_
 rintro e w1 ⟨rfl,hb1⟩
 go_wp2_with fail
 refine (HS.out w1 hb1).mono ?_
 rintro e w2 ⟨u,b,rfl,hs,hub,hb2⟩
 go_wp2
 go_ret2
 exact ⟨u,b,rfl,hs,Nat.le_trans hb1.size hub,hb1.trans (hb2.mono hb1.size)⟩
end Go.Proofs.YtogdahbbogimcaaGreatDoor
