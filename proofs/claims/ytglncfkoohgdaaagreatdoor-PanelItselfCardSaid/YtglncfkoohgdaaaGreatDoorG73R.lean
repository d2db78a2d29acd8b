import Derived.Test.YtglncfkoohgdaaaGreatDoorG49R
import Derived.Test.YtglncfkoohgdaaaGreatDoorG65R
import Derived.Test.YtglncfkoohgdaaaGreatDoorG72R
import Derived.Great.BuildSlice
import Derived.Laws.CopyOwn
set_option maxRecDepth 100000
set_option maxHeartbeats 40000000
namespace Go.Proofs.YtglncfkoohgdaaaGreatDoor
open Go.RowKit Go.Shelf
open Go.Lib (decDigits itoa nDigits)
open Go.Lib (hid)
attribute [local go_sem] Oper.semAt_some
theorem air {W:World} {B:Nat} {t:TypeId} {a b c d:Value} {fz:Nat × Nat} (h:W.heap[B]?=some (.cells #[a,b,c,d] t fz)):W.cell? ⟨B,0,none⟩=some a∧W.cell? ⟨B,1,none⟩=some b∧W.cell? ⟨B,2,none⟩=some c∧W.cell? ⟨B,3,none⟩=some d:=by
 refine ⟨?_,?_,?_,?_⟩ <;> simp [World.cell?,h]
def aij (b:Bool) (v u:Value):Value:=bif b then v else u
def q8 (b:Bool) (N A:Nat) (o:Obj) (W:World):Prop:=b=true→W.heap[A]?=some o∧N≤A
theorem q8.below {b:Bool} {N A:Nat} {o:Obj} {W W':World} (h:q8 b N A o W) (hb:Below W.heap.size W W'):q8 b N A o W':=fun e=>⟨(hb.block _ (lt_of_some (h e).1)).trans (h e).1,(h e).2⟩
theorem q8.of {b:Bool} {N A:Nat} {o:Obj} {W:World} (h:W.heap[A]?=some o) (hN:N≤A):q8 b N A o W:=fun _=>⟨h,hN⟩
theorem q8.none {N A:Nat} {o:Obj} {W:World}:q8 false N A o W:=fun e=>by cases e
theorem ajg {l:List Value} {f:(Nat→Value)→List Seg} (h:frS (fun k=>l.getD k undef) 0 (f fun k=>l.getD k undef)=l):∃ u,({ tmps:=l.toArray,defers:=[] }:Act)={ tmps:=(frS u 0 (f u)).toArray,defers:=[] }:=⟨_,by rw [h]⟩
theorem wp_build {P:Program} {o:Oper} {a:Act} {w:World} {K:Act→World→Prop} {Q:Exit→Act→World→Prop} (t:TypeId) (parts:Array (Nat × Operand)) (ho:o.op=.build t parts) (cells:Array Value)
  (hb:P.built t (parts.map fun (i,x)=>(i,a.eval x)).toList=some cells) (hk:K (a.put o.dst (.agg cells)) w):o.wp P a w K Q:=by
 unfold Oper.wp execOp
 simp only [ho,Sem.run_bind,run_build w t _ cells hb,Result.andThen_ok]
 exact hk
theorem built_panel (a b c:Addr) (t0 t1 t2 t3:ByteArray):Tryz.prog.built 37 [(0,.slice (some a) 3 3),(1,.slice (some b) 3 3),(2,.slice (some c) 3 3),(3,.agg #[.string t0,.string t1,.string t2,.string t3])]=some #[.slice (some a) 3 3,.slice (some b) 3 3,.slice (some c) 3 3,.string t0,.string t1,.string t2,.string t3]:=by kernel_rfl
theorem row7 {w0 W:World} {A:Nat} {t:TypeId} {old:Array Value} (cs:Array Value) (h:W.heap[A]?=some (.cells old t (0,0))) (hA:w0.heap.size≤A) (hS:Below w0.heap.size w0 W) :
  ∃ W2,W.setRow A cs=W2∧W2.heap[A]?=some (.cells cs t (0,0))∧(∀ k,k≠A→W2.heap[k]?=W.heap[k]?)∧Below w0.heap.size w0 W2:=
 ⟨_,rfl,setRow_heap _ _ _ _ _ _ h,fun _ hk=>setRow_other _ _ _ _ hk,below_setRow hS hA _⟩
theorem aiH {x:Rat} (h:aiE 0 3 x=true):¬ x<0∧¬ 3<x:=by
 have h1:=aiO.1 h
 unfold ins at h1
 constructor
 ·intro hx
  have:=Rat.mul_pos (show 0 < -x by grind) (show 0<3-x by grind)
  grind
 ·intro hx
  have:=Rat.mul_pos (show 0<x by grind) (show 0<x-3 by grind)
  grind
theorem ajn:tx (-3)=⟨#[45,51]⟩:=by
 show (⟨(aX (-3)).toArray⟩ : ByteArray)=_
 rw [EK (by decide +kernel) (by decide +kernel),adS]
theorem aiY:(tx (-3)).size≤9:=by rw [ajn];decide
theorem law_itself {w:World} (v:Value) (B:List Bt) (c0 c1 c2 c3:Nat) (nn:Int) (dd:Nat) (hB:Y4 w v B) (hc:c0<256∧c1<256∧c2<256∧c3<256) (hn:-32768≤nn∧nn≤32767) (hd:dd<256) (hw:Good w) :
  Calls Tryz.prog 9 #[v,.agg #[.int .u8 (c0:Int),.int .u8 (c1:Int),.int .u8 (c2:Int),.int .u8 (c3:Int)],.agg #[.int .i16 nn,.int .u8 (dd:Int)]] w (RV (.bool true) w):=by
 have HKN:=hid (fun W' (hb:Below w.heap.size w W')=>Rx (hw.below hb))
 have HMK:=hid (fun h8 W' (hb:Below w.heap.size w W')=>Wh v B h8 (hB.below hb) (hw.below hb))
 have Kh:=hid (fun k (hk:k<256) W' (hb:Below w.heap.size w W')=>aip k hk W' (hw.below hb))
 have HXM:=hid (fun W' (hb:Below w.heap.size w W')=>aiS nn dd hn hd W' (hw.below hb))
 have HXP:=hid (aiq nn dd hn hd)
 have HW:=hid hw
 have HC4:=hid hc
 obtain ⟨p,c,rfl,hcl,hcm⟩:=hB.slice
 unfold maxLen at hcm
 obtain ⟨n,hnn⟩ : ∃ q,q=B.length:=⟨_,rfl⟩
 rw [←hnn] at HMK hcl ⊢
 have HN:=hid hnn
 obtain ⟨wB,iy⟩ : ∃ wB,wB=(w.alloc (Obj.cells #[.int .u8 (c0:Int),.int .u8 (c1:Int),.int .u8 (c2:Int),.int .u8 (c3:Int)] 24)).alloc (Obj.cells #[.int .i16 nn,.int .u8 (dd:Int)] 86):=⟨_,rfl⟩
 have hb:Below w.heap.size w wB:=by rw [iy];exact (ae _ _).trans ((ae _ _).mono (ae _ _).size)
 have k1:wB.heap[w.heap.size]?=some (.cells #[.int .u8 (c0:Int),.int .u8 (c1:Int),.int .u8 (c2:Int),.int .u8 (c3:Int)] 24 (0,0)):=by
  rw [iy]
  exact ((ae _ _).block _ (lt_of_some (World.alloc_heap_new _ _))).trans (World.alloc_heap_new _ _)
 have k2:wB.heap[w.heap.size+1]?=some (.cells #[.int .i16 nn,.int .u8 (dd:Int)] 86 (0,0)):=by
  rw [iy,show w.heap.size+1=(w.alloc (Obj.cells #[.int .u8 (c0:Int),.int .u8 (c1:Int),.int .u8 (c2:Int),.int .u8 (c3:Int)] 24)).heap.size by simp]
  exact World.alloc_heap_new _ _
 have HB:=hid hb
 have HK:=hid (And.intro k1 k2)
 have xJ:=hid iy
 unfold RV at HKN Kh HXM ⊢
 clear iy hb k1 k2 hB hw hc hn hd hnn
 go_enter Tryz.func9,Tryz.ntmps9
 go_upto_region 1 with fail
 rw [←xJ.out]
 clear xJ
 go_wp2_with fail
 refine (HKN.out wB HB.out).mono ?_
 rintro e w1 ⟨rfl,hb1⟩
 have HBa:=hid (HB.out.trans (hb1.mono HB.out.size))
 have HKa:=hid (And.intro ((hb1.block _ (lt_of_some HK.out.1)).trans HK.out.1) ((hb1.block _ (lt_of_some HK.out.2)).trans HK.out.2))
 clear hb1 HB HK
 by_cases h4:4<n
 ·have k4:decide ((4:Int)<(n:Int))=true:=decide_eq_true (by omega)
  have k5:decide (4<n)=true:=decide_eq_true h4
  as_aux_lemma =>
   go_wp2_with fail
   refine (HKN.out w1 HBa.out).mono ?_
   rintro e w3 ⟨rfl,hb3⟩
   have HB3:=hid (HBa.out.trans (hb3.mono HBa.out.size))
   clear hb3
   go_wp2
   go_ret
   exact ⟨rfl,HB3.out⟩
 have k4:decide ((4:Int)<(n:Int))=false:=decide_eq_false (by omega)
 have k5:decide (4<n)=false:=decide_eq_false h4
 have H8:=hid (show B.length≤8 by have:=HN.out;omega)
 go_wp2_with fail
 refine (HMK.out (by have:=HN.out;have:=H8.out;omega) w1 HBa.out).mono ?_
 rintro e w2 ⟨vl,rfl,hrow,hb2⟩
 have DY:=p8 (show w2.ownsRow w1.heap.size 89 3 vl (nS B).length (Af (nS B)) by rw [iJ];rw [←HN.out];exact hrow)
 obtain ⟨p2,cl2,rfl,hl2,hm2⟩:=DY.slice
 unfold maxLen at hm2
 rw [iJ,←HN.out] at hl2 DY ⊢
 have HBb:=hid (HBa.out.trans (hb2.mono HBa.out.size))
 have HKb:=hid (And.intro ((hb2.block _ (lt_of_some HKa.out.1)).trans HKa.out.1) ((hb2.block _ (lt_of_some HKa.out.2)).trans HKa.out.2))
 have HIV:=hid DY
 have HLL:=hid ((iJ B).trans HN.out.symm)
 clear hrow DY hb2 HKa HBa k4 k5
 go_wp2_with fail
 go_loopw [8] (fun iv wr=>∃ i:Nat,1≤i∧(i≤n∨i=1)∧iv=.int .i64 (i:Int)∧(∀ j,1≤j→j<i→(ah (nS B) (j-1)).u≠(ah (nS B) j).u)∧Below w2.heap.size w2 wr) (fun iv _=>n-(intOf iv).toNat)
 case atStart=>exact ⟨1,Nat.le_refl _,.inr rfl,rfl,fun j h1 h2=>by omega,Below.refl _ _⟩
 case round =>
  obtain ⟨i,hi1,hin,rfl,hne,hbr⟩:=hrel
  have tQ:=hid hne
  have sZ:=hid hbr
  clear hne hbr
  by_cases hi:i<n
  ·have kn:decide ((i:Int)<(n:Int))=true:=decide_eq_true (by omega)
   have Jc:decide (i<n)=true:=decide_eq_true hi
   obtain ⟨m,hm⟩ : ∃ m:Nat,m+1=i:=⟨i-1,by omega⟩
   have w6:IntKind.i64.wrap ((i:Int)-1)=(m:Int):=by rw [IntWalk.i64_in _ (by omega)];omega
   have w5:IntKind.i64.wrap ((i:Int)+1)=(i:Int)+1:=IntWalk.i64_in _ (by omega)
   obtain ⟨b,off,hpb,hbl,x0,_,_⟩:=(HIV.out.below sZ.out).at (show i<(nS B).length by rw [HLL.out];exact hi)
   obtain ⟨b',off',ajo,ahO,y0,_,_⟩:=(HIV.out.below sZ.out).at (show m<(nS B).length by rw [HLL.out];omega)
   rw [hpb] at ajo
   cases ajo
   have i1:(0:Int)≤(i:Int):=by omega
   have i2:(i:Int)<(n:Int):=by omega
   have i3:(0:Int)≤(m:Int):=by omega
   have i4:(m:Int)<(n:Int):=by omega
   have hmi:m=i-1:=by omega
   have HEU:=hid (show ((us (ah (nS B) i).u).toList == (us (ah (nS B) m).u).toList)=decide ((ah (nS B) i).u=(ah (nS B) m).u) by
    rw [Bool.eq_iff_iff,beq_iff_eq,decide_eq_true_eq,Lib.toList_data,Lib.toList_data])
   by_cases heq:(ah (nS B) i).u=(ah (nS B) m).u
   ·have e1:=HEU.out
    rw [decide_eq_true heq] at e1
    subst hpb
    generalize us (ah (nS B) i).u=ui at *
    generalize us (ah (nS B) m).u=um at *
    clear heq hmi hm
    go_wp2_with fail
    go_quiet (fail)
    go_wp2
    go_ret
    exact ⟨rfl,HBb.out.trans ((sZ.out.trans ((below_drewN wr _).mono sZ.out.size)).mono HBb.out.size)⟩
   ·have e1:=HEU.out
    rw [decide_eq_false heq] at e1
    have ajv:=hid (show ∀ j,1≤j→j<i+1→(ah (nS B) (j-1)).u≠(ah (nS B) j).u from fun j h1 h2=>by
     by_cases hj:j<i
     ·exact tQ.out j h1 hj
     ·rw [show j=i by omega,←hmi]
      exact fun e=>heq e.symm)
    subst hpb
    generalize us (ah (nS B) i).u=ui at *
    generalize us (ah (nS B) m).u=um at *
    clear heq hmi hm
    go_wp2_with fail
    go_quiet (fail)
    go_wp2
    refine ⟨⟨i+1,by omega,.inl (by omega),aA i,ajv.out,sZ.out.trans ((below_drewN wr _).mono sZ.out.size)⟩,?_⟩
    show n-((i:Int)+1).toNat<n-((i:Int)).toNat
    omega
  ·have kn:decide ((i:Int)<(n:Int))=false:=decide_eq_false (by omega)
   have Jc:decide (i<n)=false:=decide_eq_false hi
   obtain ⟨wL,hwL⟩ : ∃ q,q=wr:=⟨_,rfl⟩
   have HTH:=hid (ajf c0 c1 c2 c3 H8.out (fun j h1 h2=>tQ.out j h1 (by have:=HN.out;omega)))
   have HBL:=hid (HBb.out.trans (sZ.out.mono HBb.out.size))
   have HKL:=hid (And.intro ((sZ.out.block _ (lt_of_some HKb.out.1)).trans HKb.out.1) ((sZ.out.block _ (lt_of_some HKb.out.2)).trans HKb.out.2))
   have HIL:=hid (HIV.out.below sZ.out)
   rw [←hwL] at HBL HKL HIL ⊢
   clear hwL tQ sZ HBb HKb HIV hi hin hi1
   as_aux_lemma =>
    obtain ⟨q0,q1,q2,q3⟩:=air HKL.out.1
    have lq:=lt_of_some HKL.out.1
    obtain ⟨f0,f1,f2,f3⟩:=HC4.out
    obtain ⟨t0,ht0⟩ : ∃ q,q=tx (hf ((1+c0 % 6:Nat):Int)):=⟨_,rfl⟩
    obtain ⟨t1,ht1⟩ : ∃ q,q=tx (hf ((1+c1 % 6:Nat):Int)):=⟨_,rfl⟩
    obtain ⟨t2,ht2⟩ : ∃ q,q=tx (hf ((1+c2 % 6:Nat):Int)):=⟨_,rfl⟩
    obtain ⟨t3,ht3⟩ : ∃ q,q=tx (hf ((1+c3 % 6:Nat):Int)):=⟨_,rfl⟩
    have C0:=hid (fun W' hb=>Kh.out c0 f0 W' hb)
    have C1:=hid (fun W' hb=>Kh.out c1 f1 W' hb)
    have C2:=hid (fun W' hb=>Kh.out c2 f2 W' hb)
    have C3:=hid (fun W' hb=>Kh.out c3 f3 W' hb)
    rw [←ht0] at C0
    rw [←ht1] at C1
    rw [←ht2] at C2
    rw [←ht3] at C3
    have HT:=hid (And.intro ht0 (And.intro ht1 (And.intro ht2 ht3)))
    clear ht0 ht1 ht2 ht3 f0 f1 f2 f3 Kh
    go_wp2_with fail
    have kL:=hid (fun W' (hS':Below wL.heap.size wL W')=>And.intro ((hS'.cell (p:=⟨w.heap.size,0,none⟩) lq).trans q0) (And.intro ((hS'.cell (p:=⟨w.heap.size,1,none⟩) lq).trans q1) (And.intro ((hS'.cell (p:=⟨w.heap.size,2,none⟩) lq).trans q2) ((hS'.cell (p:=⟨w.heap.size,3,none⟩) lq).trans q3))))
    refine wp_held_float2 (fun W'=>Below wL.heap.size wL W') (.take 0 (.take 1 (.take 2 (.take 6 (.take 7 (.take 8 (.take 10 (.take 11 (.take 12 (.take 14 (.take 15 (.take 16 (.take 18 (.take 19 (.take 20 .fin))))))))))))))) [3,4,5,9,13,17,21,22,23,24] (fun i=>if i=22 then [9,13,17,21] else if i=23 then [3,4,5,22] else if i=13 then [9] else if i=17 then [13] else if i=21 then [17] else []) .fin 25 (by kernel_rfl) (by kernel_rfl) ⟨rfl,rfl,rfl,Nat.le_refl _,fun _ _=>rfl⟩ ?_
    have hP:Below wL.heap.size wL wL.drew:=⟨rfl,rfl,rfl,Nat.le_refl _,fun _ _=>rfl⟩
    generalize wL.drew=pv at *
    iterate 15
     refine aF rfl ?_ rfl ?_ ?_
     rotate_left
     ·intro W' hS'
      obtain ⟨s0,s1,s2,s3⟩:=kL.out _ hS'
      go_simp
      try with_reducible rfl
     try simp only [zA,zB,zC,Act.put,zD,zE,zF]
    refine ⟨fun d a W=>∃ (A3 A4 A5 A24:Nat),(∃ u:Nat→Value,a={ tmps:=(frS u 0 [.n 4,.k (.pointer (some ⟨w.heap.size,0,none⟩)),.k (.pointer (some ⟨w.heap.size+1,0,none⟩)),.n 1,.k (.slice p2 n cl2),.n 1,.k (.func (.func 36) #[] #[]),.k (aij (d 24) (.pointer (some ⟨A24,0,none⟩)) (u 10)),.n 35,.k (.slice p2 n cl2),.k (.slice p2 n cl2),.k (.slice p2 n cl2),.k (aij (d 3) (.slice (some ⟨A3,0,none⟩) 3 3) (u 49)),.k (aij (d 4) (.slice (some ⟨A4,0,none⟩) 3 3) (u 50)),.k (aij (d 5) (.slice (some ⟨A5,0,none⟩) 3 3) (u 51)),.k (.func (.func 36) #[] #[]),.n 1,.k (.int .u8 (c0:Int)),.k (aij (d 9) (.string t0) (u 55)),.k (.func (.func 36) #[] #[]),.n 1,.k (.int .u8 (c1:Int)),.k (aij (d 13) (.string t1) (u 59)),.k (.func (.func 36) #[] #[]),.n 1,.k (.int .u8 (c2:Int)),.k (aij (d 17) (.string t2) (u 63)),.k (.func (.func 36) #[] #[]),.n 1,.k (.int .u8 (c3:Int)),.k (aij (d 21) (.string t3) (u 67)),.k (aij (d 22) (.agg #[.string t0,.string t1,.string t2,.string t3]) (u 68)),.k (aij (d 23) (.agg #[.slice (some ⟨A3,0,none⟩) 3 3,.slice (some ⟨A4,0,none⟩) 3 3,.slice (some ⟨A5,0,none⟩) 3 3,.string t0,.string t1,.string t2,.string t3]) (u 69)),.n 45]).toArray,defers:=[] })∧q8 (d 3) wL.heap.size A3 (.cells #[.slice p2 n cl2,.slice p2 n cl2,.slice p2 n cl2] 66 (0,0)) W∧q8 (d 4) wL.heap.size A4 (.cells #[.string ⟨#[48]⟩,.string ⟨#[49]⟩,.string ⟨#[51]⟩] 33 (0,0)) W∧q8 (d 5) wL.heap.size A5 (.cells #[.string ⟨#[53]⟩,.string ⟨#[53]⟩,.string ⟨#[53]⟩] 33 (0,0)) W∧q8 (d 24) wL.heap.size A24 (.cells #[.slice none 0 0,.slice none 0 0,.slice none 0 0,.string ⟨#[]⟩,.string ⟨#[]⟩,.string ⟨#[]⟩,.string ⟨#[]⟩] 37 (0,0)) W∧(d 23=true→d 3=true∧d 4=true∧d 5=true),⟨0,0,0,0,ajg rfl,.none,.none,.none,.none,fun h=>by cases h⟩,hP,?_,?_⟩
    ·as_aux_lemma =>
      intro i hi
      simp only [List.mem_cons,List.not_mem_nil,or_false] at hi
      rcases hi with rfl | rfl | rfl | rfl | rfl | rfl | rfl | rfl | rfl | rfl
      all_goals
       unfold FlOp2
       rintro d a W hd hpr ⟨A3,A4,A5,A24,⟨u,rfl⟩,h3,h4,h5,h24,h23⟩ hS
      ·have e23:d 23=false:=by
        cases h:d 23
        ·rfl
        ·have:=(h23 h).1
         rw [hd] at this
         cases this
       simp only [frS,frU,Nat.reduceAdd,e23]
       refine ⟨_,rfl,rfl,fun K hK=>?_⟩
       go_simp
       refine hK _ _ (hS.trans ((ae _ _).mono hS.size)) ⟨W.heap.size,A4,A5,A24,⟨u,by rw [show upD d 3 23=false from e23];rfl⟩,.of (World.alloc_heap_new _ _) hS.size,h4.below (ae _ _),h5.below (ae _ _),h24.below (ae _ _),fun h=>by rw [show upD d 3 23=false from e23] at h;cases h⟩
      ·have e23:d 23=false:=by
        cases h:d 23
        ·rfl
        ·have:=(h23 h).2.1
         rw [hd] at this
         cases this
       simp only [frS,frU,Nat.reduceAdd,e23]
       refine ⟨_,rfl,rfl,fun K hK=>?_⟩
       go_simp
       refine hK _ _ (hS.trans ((ae _ _).mono hS.size)) ⟨A3,W.heap.size,A5,A24,⟨u,by rw [show upD d 4 23=false from e23];rfl⟩,h3.below (ae _ _),.of (World.alloc_heap_new _ _) hS.size,h5.below (ae _ _),h24.below (ae _ _),fun h=>by rw [show upD d 4 23=false from e23] at h;cases h⟩
      ·have e23:d 23=false:=by
        cases h:d 23
        ·rfl
        ·have:=(h23 h).2.2
         rw [hd] at this
         cases this
       simp only [frS,frU,Nat.reduceAdd,e23]
       refine ⟨_,rfl,rfl,fun K hK=>?_⟩
       go_simp
       refine hK _ _ (hS.trans ((ae _ _).mono hS.size)) ⟨A3,A4,W.heap.size,A24,⟨u,by rw [show upD d 5 23=false from e23];rfl⟩,h3.below (ae _ _),h4.below (ae _ _),.of (World.alloc_heap_new _ _) hS.size,h24.below (ae _ _),fun h=>by rw [show upD d 5 23=false from e23] at h;cases h⟩
      ·simp only [frS,frU,Nat.reduceAdd]
       refine ⟨_,rfl,rfl,fun K hK=>?_⟩
       go_simp
       refine (C0.out W (HBL.out.trans (hS.mono HBL.out.size))).mono ?_
       rintro e W1 ⟨rfl,hb⟩
       exact hK _ _ (hS.trans (hb.mono hS.size)) ⟨A3,A4,A5,A24,⟨u,rfl⟩,h3.below hb,h4.below hb,h5.below hb,h24.below hb,h23⟩
      ·simp only [frS,frU,Nat.reduceAdd]
       refine ⟨_,rfl,rfl,fun K hK=>?_⟩
       clear hpr
       go_simp
       refine (C1.out W (HBL.out.trans (hS.mono HBL.out.size))).mono ?_
       rintro e W1 ⟨rfl,hb⟩
       exact hK _ _ (hS.trans (hb.mono hS.size)) ⟨A3,A4,A5,A24,⟨u,rfl⟩,h3.below hb,h4.below hb,h5.below hb,h24.below hb,h23⟩
      ·simp only [frS,frU,Nat.reduceAdd]
       refine ⟨_,rfl,rfl,fun K hK=>?_⟩
       clear hpr
       go_simp
       refine (C2.out W (HBL.out.trans (hS.mono HBL.out.size))).mono ?_
       rintro e W1 ⟨rfl,hb⟩
       exact hK _ _ (hS.trans (hb.mono hS.size)) ⟨A3,A4,A5,A24,⟨u,rfl⟩,h3.below hb,h4.below hb,h5.below hb,h24.below hb,h23⟩
      ·simp only [frS,frU,Nat.reduceAdd]
       refine ⟨_,rfl,rfl,fun K hK=>?_⟩
       clear hpr
       go_simp
       refine (C3.out W (HBL.out.trans (hS.mono HBL.out.size))).mono ?_
       rintro e W1 ⟨rfl,hb⟩
       exact hK _ _ (hS.trans (hb.mono hS.size)) ⟨A3,A4,A5,A24,⟨u,rfl⟩,h3.below hb,h4.below hb,h5.below hb,h24.below hb,h23⟩
      ·have d9:=hpr 9 (by decide)
       have d13:=hpr 13 (by decide)
       have d17:=hpr 17 (by decide)
       have d21:=hpr 21 (by decide)
       simp only [frS,frU,Nat.reduceAdd,aij,d9,d13,d17,d21,cond_true]
       refine ⟨_,rfl,rfl,fun K hK=>?_⟩
       go_simp
       exact hK _ _ hS ⟨A3,A4,A5,A24,⟨u,by rw [show upD d 22 9=true from d9,show upD d 22 13=true from d13,show upD d 22 17=true from d17,show upD d 22 21=true from d21];rfl⟩,h3,h4,h5,h24,h23⟩
      ·have d3:=hpr 3 (by decide)
       have d4:=hpr 4 (by decide)
       have d5:=hpr 5 (by decide)
       have d22:=hpr 22 (by decide)
       simp only [frS,frU,Nat.reduceAdd,aij,d3,d4,d5,d22,cond_true]
       refine ⟨_,rfl,rfl,fun K hK=>?_⟩
       refine wp_build _ _ rfl #[.slice (some ⟨A3,0,none⟩) 3 3,.slice (some ⟨A4,0,none⟩) 3 3,.slice (some ⟨A5,0,none⟩) 3 3,.string t0,.string t1,.string t2,.string t3] (by simp only [List.map_toArray,List.map_cons,List.map_nil];exact built_panel _ _ _ _ _ _ _) ?_
       exact hK _ _ hS ⟨A3,A4,A5,A24,⟨u,by rw [show upD d 23 3=true from d3,show upD d 23 4=true from d4,show upD d 23 5=true from d5,show upD d 23 22=true from d22];rfl⟩,h3,h4,h5,h24,fun _=>⟨d3,d4,d5⟩⟩
      ·simp only [frS,frU,Nat.reduceAdd]
       refine ⟨_,rfl,rfl,fun K hK=>?_⟩
       go_simp
       refine hK _ _ (hS.trans ((ae _ _).mono hS.size)) ⟨A3,A4,A5,W.heap.size,⟨u,rfl⟩,h3.below (ae _ _),h4.below (ae _ _),h5.below (ae _ _),.of (World.alloc_heap_new _ _) hS.size,h23⟩
    ·rintro d a W hall ⟨A3,A4,A5,A24,⟨u,rfl⟩,h3,h4,h5,h24,_⟩ hS
     have d3:=hall 3 (by decide)
     have d4:=hall 4 (by decide)
     have d5:=hall 5 (by decide)
     have d9:=hall 9 (by decide)
     have d13:=hall 13 (by decide)
     have d17:=hall 17 (by decide)
     have d21:=hall 21 (by decide)
     have d22:=hall 22 (by decide)
     have d23:=hall 23 (by decide)
     have d24:=hall 24 (by decide)
     obtain ⟨b3,m3⟩:=h3 d3
     obtain ⟨b4,m4⟩:=h4 d4
     obtain ⟨b5,m5⟩:=h5 d5
     obtain ⟨b24,m24⟩:=h24 d24
     simp only [frS,frU,Nat.reduceAdd,aij,d3,d4,d5,d9,d13,d17,d21,d22,d23,d24,cond_true]
     clear h3 h4 h5 h24 d3 d4 d5 d9 d13 d17 d21 d22 d23 d24 hall m3 m4 m5 hP kL q0 q1 q2 q3 lq C0 C1 C2 C3
     unfold bR
     simp only [List.drop_succ_cons,List.drop_zero]
     obtain ⟨W2,hW2,kA,kO,kB⟩:=row7 #[.slice (some ⟨A3,0,none⟩) 3 3,.slice (some ⟨A4,0,none⟩) 3 3,.slice (some ⟨A5,0,none⟩) 3 3,.string t0,.string t1,.string t2,.string t3] b24 m24 hS
     refine wpList_store_rowTo rfl _ _ _ rfl rfl A24 #[.slice (some ⟨A3,0,none⟩) 3 3,.slice (some ⟨A4,0,none⟩) 3 3,.slice (some ⟨A5,0,none⟩) 3 3,.string t0,.string t1,.string t2,.string t3] rfl rfl _ _ b24 (by kernel_rfl) rfl (by kernel_rfl) ?_
     rw [hW2]
     have QY:=hid (aiX (c0:=c0) (c1:=c1) (c2:=c2) (c3:=c3) (HIL.out.below kB) ((kO A3 (by rintro rfl;rw [b3] at b24;cases b24)).trans b3) ((kO A4 (by rintro rfl;rw [b4] at b24;cases b24)).trans b4) ((kO A5 (by rintro rfl;rw [b5] at b24;cases b24)).trans b5))
     have HA:=hid kA
     have HB2:=hid (HBL.out.trans (kB.mono HBL.out.size))
     have HI2:=hid (HIL.out.below kB)
     have HK2:=hid ((kB.block _ (lt_of_some HKL.out.2)).trans HKL.out.2)
     clear b3 b4 b5 kO kB m24 hS HIL
     clear hW2 b24
     go_wp2
     refine ag.mk ?_
     have Yl:iX (.slice (some ⟨A3,0,none⟩) 3 3) (.slice (some ⟨A4,0,none⟩) 3 3) (.slice (some ⟨A5,0,none⟩) 3 3) (itP B c0 c1 c2 c3).cs=.agg #[.slice (some ⟨A3,0,none⟩) 3 3,.slice (some ⟨A4,0,none⟩) 3 3,.slice (some ⟨A5,0,none⟩) 3 3,.string t0,.string t1,.string t2,.string t3]:=by
      rw [HT.out.1,HT.out.2.1,HT.out.2.2.1,HT.out.2.2.2]
      rfl
     have HTO:=hid (fun W' (hb:Below W2.heap.size W2 W')=>UM _ _ _ (itP B c0 c1 c2 c3) HTH.out.ok (QY.out.below hb) (HW.out.below (HB2.out.trans (hb.mono HB2.out.size))))
     have HTR:=hid (fun W' (hb:Below W2.heap.size W2 W')=>NS _ _ _ (itP B c0 c1 c2 c3) HTH.out.ok (QY.out.below hb) (HW.out.below (HB2.out.trans (hb.mono HB2.out.size))))
     have HAT:=hid (fun (x:Rat) (hx:XOk x) (h0:¬ x<0) (h3:¬ 3<x) W' (hb:Below W2.heap.size W2 W')=>Ws _ _ _ (itP B c0 c1 c2 c3) x (HTH.out.at_ hx) h0 h3 HTH.out.ok (QY.out.below hb) (HW.out.below (HB2.out.trans (hb.mono HB2.out.size))))
     simp only [Yl] at HTO HTR HAT
     unfold RV at HTO
     rw [show qB (itP B c0 c1 c2 c3) ((itP B c0 c1 c2 c3).lg.length-1)=0 from HTH.out.t.total,tx0] at HTO
     have HLEN:=hid (HTH.out.t.uj.trans HLL.out)
     clear Yl QY HT
     obtain ⟨p0,p1,p2',p3,p4,p5,p6⟩:=au HA.out
     go_wp2_with fail
     refine (HTO.out W2 (Below.refl _ _)).mono ?_
     rintro e w5 ⟨rfl,hb5⟩
     have ze:=hid hb5
     clear p0 p1 p2' p3 p4 p5 p6 hb5
     obtain ⟨p0,p1,p2',p3,p4,p5,p6⟩:=au ((ze.out.block _ (lt_of_some HA.out)).trans HA.out)
     go_wp2_with fail
     refine (HTR.out w5 ze.out).mono ?_
     rintro e w6 ⟨vT,T,rfl,hT,hVT,hb6⟩
     obtain ⟨pT,kT,rfl,hkT,ajy⟩:=hVT.reads.slice
     have hTn:T.length=n:=by
      have h1:=congrArg List.length hT
      rw [List.length_map] at h1
      rw [h1]
      exact HLEN.out
     rw [hTn] at hkT ⊢
     have Nz:=hid (ze.out.trans (hb6.mono ze.out.size))
     clear p0 p1 p2' p3 p4 p5 p6 hb6 hT hVT hTn
     have HK6:=hid ((Nz.out.block _ (lt_of_some HK2.out)).trans HK2.out)
     obtain ⟨z0,z1,_,_⟩:=aj HK6.out
     go_wp2_with fail
     refine (HXM.out w6 (HB2.out.trans (Nz.out.mono HB2.out.size))).mono ?_
     rintro e w7 ⟨rfl,Db⟩
     obtain ⟨x,hx⟩ : ∃ q,q=Rat.divInt nn ((1+dd:Nat):Int):=⟨_,rfl⟩
     rw [←hx] at HXP ⊢
     have HB7:=hid (Nz.out.trans (Db.mono Nz.out.size))
     have HXO:=hid (show XOk x from ⟨by have:=HXP.out.1;omega,HXP.out.2⟩)
     have GR:=hid (fun W' (hg:Good W')=>aix 0 3 x (by unfold Mid;decide) (by unfold Mid;decide) ⟨by have:=HXP.out.1;omega,by have:=HXP.out.2;omega⟩ (by rw [Rat.neg_zero,tx0];decide) aiY W' hg)
     unfold RV at GR
     rw [tx0,adV] at GR
     have HX3:=hid (aiH (x:=x))
     have HLG:=hid (fun h0 h3=>HTH.out.aje (x:=x) h0 h3)
     have HAX:=hid (HAT.out x HXO.out)
     clear z0 z1 Db hx
     obtain ⟨xx,hxx⟩ : ∃ q,q=tx x:=⟨_,rfl⟩
     rw [←hxx] at GR HAX ⊢
     clear hxx
     go_wp2_with fail
     refine (GR.out w7 (HW.out.below (HB2.out.trans (HB7.out.mono HB2.out.size)))).mono ?_
     rintro e w8 ⟨rfl,hb8⟩
     have HB8:=hid (HB7.out.trans (hb8.mono HB7.out.size))
     have qA:=hid (HB2.out.trans (HB8.out.mono HB2.out.size))
     clear hb8
     cases hin:aiE 0 3 x with
     | false =>
      go_wp2
      go_ret
      exact ⟨rfl,qA.out⟩
     | true =>
      obtain ⟨h0,h3⟩:=HX3.out hin
      have HLA:=hid (HLG.out h0 h3)
      obtain ⟨p0,p1,p2',p3,p4,p5,p6⟩:=au ((HB8.out.block _ (lt_of_some HA.out)).trans HA.out)
      go_wp2_with fail
      refine (HAX.out h0 h3 w8 HB8.out).mono ?_
      rintro e w9 ⟨vo,rfl,hvo,Td⟩
      rw [HLA.out] at hvo
      have hsm:=Yh vo (.slice p2 n cl2) (nS B) w9 hvo (HI2.out.below (HB8.out.trans (Td.mono HB8.out.size)))
      obtain ⟨po,co,rfl,hco,hcom⟩:=hvo.slice
      unfold RV at hsm
      have HSM:=hid hsm
      have HB9:=hid (qA.out.trans (Td.mono qA.out.size))
      clear hsm hvo Td p0 p1 p2' p3 p4 p5 p6
      go_wp2_with fail
      refine HSM.out.mono ?_
      rintro e w10 ⟨rfl,ajp⟩
      have ajw:=hid (HB9.out.trans (ajp.mono HB9.out.size))
      clear ajp
      go_wp2
      go_ret
      exact ⟨rfl,ajw.out⟩
end Go.Proofs.YtglncfkoohgdaaaGreatDoor
