import Derived.Test.YtglncfkoohgdaaaGreatDoorT3R
import Derived.Test.YtglncfkoohgdaaaGreatDoorStillR
import Derived.Deep.WholeRow
import Derived.Test.YtglncfkoohgdaaaGreatDoorT9R
set_option maxRecDepth 100000
set_option maxHeartbeats 8000000
namespace Go.Proofs.YtglncfkoohgdaaaGreatDoor
open Go.RowKit Go.Shelf
open Go.Lib (decDigits itoa nDigits)
theorem acD (a b:QP) (w:World):(binOp .eql 113 (.agg #[.string (tx a.1),.string (tx a.2)]) (.agg #[.string (tx b.1),.string (tx b.2)])).run Tryz.prog w=.ok (.bool (decide (a=b))) w:=by
 have h:=Ub (aR a) (aR b) w
 rw [EY] at h
 rw [show decide (aR a=aR b)=decide (a=b) by rw [decide_eq_decide];exact ⟨EW,fun h=>by rw [h]⟩] at h
 exact h
theorem acE (a b:QP) (w:World):(binOp .neq 113 (.agg #[.string (tx a.1),.string (tx a.2)]) (.agg #[.string (tx b.1),.string (tx b.2)])).run Tryz.prog w=.ok (.bool (!decide (a=b))) w:=by
 have h:=Ua (aR a) (aR b) w
 rw [EY] at h
 rw [show decide (aR a=aR b)=decide (a=b) by rw [decide_eq_decide];exact ⟨EW,fun h=>by rw [h]⟩] at h
 exact h
theorem UX (op:BinOp) (a b:Operand) (xs ys:Array Value) (w:World):(eqGuard op 113 a b (.agg xs) (.agg ys)).run Tryz.prog w=.ok () w:=Qj op a b xs ys w
theorem UY (a b:ByteArray):∀ u∈(#[Value.string a,Value.string b]:Array Value).toList,u.oneCell'=true:=by
 intro u hu
 simp at hu
 rcases hu with rfl | rfl <;> rfl
theorem Nb (P:List QP) (q:QP):cellsS (P.map aR)++(#[Value.string (tx q.1),.string (tx q.2)]:Array Value).toList=cellsS ((P ++ [q]).map aR):=by
 rw [List.map_append];exact (zQ (P.map aR) (aR q)).symm
open Go.Lib (hid)
theorem KA {w:World} {base:Nat} {e:TypeId} {g n cap m:Nat} {xs:List Value} (h:w.ownsRow base e 2 (.slice (some ⟨g,0,none⟩) n cap) n xs) (hm:m≤n):w.ownsRow base e 2 (.slice (some ⟨g,0,none⟩) m cap) m (xs.take (m*2)):=by
 refine ⟨by rw [List.length_take,h.1];omega,?_⟩
 rcases h.2 with ⟨h1,_⟩ | ⟨g',cap',cur,h1,h2,h3,h4,h5,h6,h7⟩
 ·simp at h1
 ·simp only [Value.slice.injEq,Option.some.injEq,Addr.mk.injEq,and_true,true_and] at h1
  obtain ⟨rfl,rfl⟩:=h1
  exact .inr ⟨g,cap,cur,rfl,h2,h3,by omega,h5,h6,by rw [←h7,List.take_take];congr 1;omega⟩
theorem Da (P:List QP) (m:Nat):(cellsS (P.map aR)).take (m*2)=cellsS ((P.take m).map aR):=by
 have key:∀ (L:List jh) (m:Nat),(cellsS L).take (m*2)=cellsS (L.take m):=by
  intro L
  induction L with
  | nil=>intro m;simp [cellsS]
  | cons p r ih =>
   intro m
   cases m with
   | zero=>simp [cellsS]
   | succ m =>
    have:=ih m
    unfold cellsS at this ⊢
    rw [List.flatMap_cons,List.take_succ_cons,List.flatMap_cons,←this]
    rw [show (m+1)*2=[Value.string p.1,.string p.2].length+m*2 by simp;omega,List.take_length_add_append]
 rw [key,List.map_take]
def Nc (e:QP) (S O:List QP):Prop:=(S=[]∧O=[])∨Em e S O
theorem Nc.mem {e:QP} {S O:List QP} (h:Nc e S O):∀ p∈O,p∈S:=by
 rcases h with ⟨h1,h2⟩ | h
 ·rw [h2];intro p hp;simp at hp
 ·exact h.mem
structure KC (O:List QP) (x:QP) (j:Nat):Prop where
 le:j≤O.length
 pos:0<O.length→0<j
 pop:j<O.length→eu (pt O (j-1)) (pt O j) x≤0
theorem KC.zero (O:List QP) (x:QP):KC O x O.length:=⟨Nat.le_refl _,fun h=>h,fun h=>absurd h (Nat.lt_irrefl _)⟩
theorem KC.step {O:List QP} {x:QP} {i:Nat} (h:KC O x (i+2)) (hc:eu (pt O i) (pt O (i+1)) x≤0):KC O x (i+1):=⟨by have:=h.le;omega,fun _=>Nat.succ_pos _,fun _=>by rw [Nat.add_sub_cancel];exact hc⟩
theorem Nc.step {e:QP} {L O:List QP} {k j:Nat} (h:Nc e (L.take k) O) (hk:k<L.length) (hH:∀ p∈L.take k,Half e (way p (pt L k))) (hs:KC O (pt L k) j) (hx:∀ i,j=i+2→0<eu (pt O i) (pt O (i+1)) (pt L k)) :
  Nc e (L.take (k+1)) (O.take j ++ [pt L k]):=by
 have e1:L.take (k+1)=L.take k ++ [pt L k]:=by rw [List.take_succ_eq_append_getElem hk,cO hk]
 rw [e1]
 rcases h with ⟨h1,h2⟩ | h
 ·rw [h1,h2]
  right
  simp only [List.take_nil,List.nil_append]
  exact Em.one e _
 ·right
  have hne:=h.ne
  have hj:=hs.le
  refine h.step hH (hs.pos hne) hs.le (fun hl=>?_) (fun h1=>?_)
  ·have:=hs.pop hl
   rw [cO (by omega),cO hl] at this
   exact this
  ·have:=hx (j-2) (by omega)
   rw [show j-2+1=j-1 by omega,cO (by omega),cO (by omega)] at this
   exact this
def yR (d:QP) (L:List QP) (w:World) (e:Ending) (w':World):Prop:=
 ∃ r O,e=.returned r∧Em d L O∧w'.ownsRow w.heap.size 113 2 r (O.length-1) (cellsS (O.dropLast.map aR))∧Below w.heap.size w w'
theorem KD (d:QP) (v:Value) (L:List QP) (h0:0<L.length) (hn:L.length≤1000000) (hz:∀ p∈L,rf 1000000 p) (hH:∀ i j,i<j→j<L.length→Half d (way (pt L i) (pt L j))) (w:World) (hw:Good w) (hv:qp w v L) :
  Calls Tryz.prog 117 #[v] w (yR d L w):=by
 have HTU:=hid (fun a (ha:a∈L) b (hb:b∈L) k (hk:k<L.length) w' (hg:Good w')=>Ow a b (pt L k) (hz _ ha) (hz _ hb) (hz _ (bV hk)) w' hg)
 unfold RV at HTU
 unfold xm at HTU
 obtain ⟨p,c,rfl,hcl,hcm⟩:=hv.slice
 unfold maxLen at hcm
 obtain ⟨B,off,rfl,hbl,hcell⟩:=qp.cells hv h0
 have Cw:=hid (fun i (hi:i<L.length) wx (h:Below w.heap.size w wx)=>And.intro ((h.cell (p:=⟨B,off+i*2,none⟩) hbl).trans (hcell i hi).1) ((h.cell (p:=⟨B,off+i*2+1,none⟩) hbl).trans (hcell i hi).2))
 have HHF:=hid hH
 have hbw:=Below.refl w.heap.size w
 clear hz hv hcell hH
 go_enter Tryz.func117,Tryz.ntmps117
 go_wp2_with fail
 go_loopw [3,8] (fun ov iv wr=>∃ (k:Nat) (O:List QP),k≤L.length∧iv=.int .i64 (k:Int)∧Nc d (L.take k) O∧O.length≤k∧wr.ownsRow w.heap.size 113 2 ov O.length (cellsS (O.map aR))∧Below w.heap.size w wr) (fun _ iv _=>L.length-(intOf iv).toNat)
 case atStart=>exact ⟨0,[],Nat.zero_le _,rfl,.inl ⟨rfl,rfl⟩,Nat.le_refl _,World.ownsRow_nil _ _ _ _,hbw⟩
 case round =>
  obtain ⟨k,O,hkl,rfl,hCZ,hOk,hown,hbr⟩:=hrel
  have HCZ:=hid hCZ
  have HOM:=hid (show ∀ i,i<O.length→pt O i∈L from fun i hi=>List.mem_of_mem_take (hCZ.mem _ (bV hi)))
  have HOW:=hid hown
  clear hCZ hown
  by_cases hk:k<L.length
  ·have hkn:decide ((k:Int)<(L.length:Int))=true:=decide_eq_true (by omega)
   have i1:(0:Int)≤(k:Int):=by omega
   have i2:(k:Int)<(L.length:Int):=by omega
   obtain ⟨c0,c1⟩:=Cw.out k hk wr hbr
   have HT:=hid (fun i (h1:i<O.length) (h2:i+1<O.length)=>HTU.out (pt O i) (HOM.out i h1) (pt O (i+1)) (HOM.out (i+1) h2) k hk)
   obtain ⟨x,hx⟩ : ∃ x,x=pt L k:=⟨_,rfl⟩
   have HX:=hid hx
   rw [←hx] at c0 c1 HT
   clear hx
   generalize hx1:tx x.1=x1 at *
   generalize hx2:tx x.2=x2 at *
   obtain ⟨wo,hwo⟩ : ∃ wo,wo=wr:=⟨_,rfl⟩
   subst hwo
   go_upto_region 5 with fail
   obtain ⟨wB,MN⟩ : ∃ wB,wB=wo.alloc (Obj.cells #[.string x1,.string x2] 113):=⟨_,rfl⟩
   obtain ⟨Zy,lwB,g0,g1⟩:=mY MN
   rw [←MN]
   clear MN
   have HG:=hid (And.intro g0 g1)
   have il:=hbr.trans (Zy.mono hbr.size)
   have aee:=di HOW.out Zy
   have QI:=hid aee
   clear g0 g1 c0 c1 aee
   go_loopw [3] (fun ov wr=>∃ j,KC O x j∧wr.ownsRow w.heap.size 113 2 ov j (cellsS ((O.take j).map aR))∧Below wB.heap.size wB wr) (fun ov _=>lenOf ov)
   case atStart=>exact ⟨O.length,KC.zero _ _,by rw [List.take_length];exact QI.out,Below.refl _ _⟩
   case round =>
    clear QI
    obtain ⟨j,hS,hown,gU⟩:=hrel
    have HS:=hid hS
    have HOI:=hid hown
    have hjO:=hS.le
    have hbi:=il.trans (gU.mono il.size)
    have GZ:wo.heap.size<wr.heap.size:=Nat.lt_of_lt_of_le lwB gU.size
    have g0:=(gU.cell (p:=⟨wo.heap.size,0,none⟩) lwB).trans HG.out.1
    have g1:=(gU.cell (p:=⟨wo.heap.size,1,none⟩) lwB).trans HG.out.2
    have htl:(O.take j).length=j:=by rw [List.length_take];omega
    have hPS:qp wr _ (O.take j):=lU (by rw [List.length_map,htl];exact hown)
    have HLEN:=hid (show (O.take j ++ [x]).length=j+1 by rw [List.length_append,htl];rfl)
    have YQ:=hid (show cellsS ((O.take j).map aR)++(#[Value.string x1,.string x2]:Array Value).toList=cellsS ((O.take j ++ [x]).map aR) by
     have:=Nb (O.take j) x
     rw [hx1,hx2] at this
     exact this)
    have qR:=hid (fun (hh:∀ i,j=i+2→0<eu (pt O i) (pt O (i+1)) x)=>show Nc d (L.take (k+1)) (O.take j ++ [x]) by
     have hs:=HS.out
     rw [HX.out] at hs hh ⊢
     exact HCZ.out.step hk (fun p hp=>by
      obtain ⟨i,h1,h2,rfl⟩:=J3 hp
      exact HHF.out i k h1 hk) hs hh)
    clear hS hown
    by_cases h2:2≤j
    ·obtain ⟨i,rfl⟩ : ∃ i,j=i+2:=⟨j-2,by omega⟩
     obtain ⟨g,cap,rfl⟩:=ownsRow_succ HOI.out
     have aef:qp wr (.slice (some ⟨g,0,none⟩) (O.take (i+2)).length cap) (O.take (i+2)):=by rw [htl];exact hPS
     obtain ⟨bb,fo,hbb,YW,hcP⟩:=qp.cells aef (by omega)
     cases hbb
     obtain ⟨p0,p1⟩:=hcP i (by omega)
     obtain ⟨q0,q1⟩:=hcP (i+1) (by omega)
     have et:∀ t,t<i+2→pt (O.take (i+2)) t=pt O t:=fun t ht=>by rw [cO (by omega),cO (by omega),List.getElem_take]
     rw [et i (by omega),Nat.zero_add] at p0 p1
     rw [et (i+1) (by omega),Nat.zero_add] at q0 q1
     have H1:=hid (HT.out i (by omega) (by omega))
     have HSG:=hid (Ch (eu (pt O i) (pt O (i+1)) x))
     have hcap:i+2≤cap∧cap≤maxLen:=by
      obtain ⟨_,h⟩:=HOI.out
      rcases h with ⟨h,_⟩ | ⟨_,_,_,h,_,_,h3,h4,_⟩
      ·simp at h
      ·simp only [Value.slice.injEq,Option.some.injEq,Addr.mk.injEq,and_true,true_and] at h
       rw [h.2];exact ⟨h3,h4⟩
     have hcap1:=hcap.1
     have hcap2:=hcap.2
     unfold maxLen at hcap2
     have yw:=hid (fun wx (h:Below wr.heap.size wr wx)=>show wx.ownsRow w.heap.size 113 2 (.slice (some ⟨g,0,none⟩) (i+1) cap) (i+1) (cellsS ((O.take (i+1)).map aR)) by
      have:=KA (di HOI.out h) (show i+1≤i+2 by omega)
      rw [Da,List.take_take,show min (i+1) (i+2)=i+1 by omega] at this
      exact this)
     have m1:IntKind.i64.wrap (((i+2:Nat):Int)-2)=(i:Int):=IntWalk.i64_in _ (by omega) |>.trans (by omega)
     have m2:IntKind.i64.wrap (((i+2:Nat):Int)-1)=((i+1:Nat):Int):=IntWalk.i64_in _ (by omega) |>.trans (by omega)
     have m3:(0:Int)≤(i:Int):=by omega
     have m4:(i:Int)<((i+2:Nat):Int):=by omega
     have m5:(0:Int)≤((i+1:Nat):Int):=by omega
     have m6:((i+1:Nat):Int)<((i+2:Nat):Int):=by omega
     have m7:decide (((i+2:Nat):Int)>1)=true:=decide_eq_true (by omega)
     have m9:decide ((1:Int)<(i:Int)+1+1)=true:=decide_eq_true (by omega)
     have m10:decide ((i:Int)+1+1>1)=true:=decide_eq_true (by omega)
     have m11:IntKind.i64.wrap ((i:Int)+1+1-2)=(i:Int):=IntWalk.i64_in _ (by omega) |>.trans (by omega)
     have m12:IntKind.i64.wrap ((i:Int)+1+1-1)=(i:Int)+1:=IntWalk.i64_in _ (by omega) |>.trans (by omega)
     have m13:IntKind.i64.wrap ((i:Int)+1)=(i:Int)+1:=IntWalk.i64_in _ (by omega)
     have m14:(i:Int)<(i:Int)+1+1:=by omega
     have m15:(0:Int)≤(i:Int)+1:=by omega
     have m16:(i:Int)+1<(i:Int)+1+1:=by omega
     have m17:((i:Int)+1).toNat=i+1:=by omega
     have m8:((i+1:Nat):Int)≤(cap:Int):=by omega
     clear hcap hcP hPS aef et
     generalize tx (pt O i).1=y1 at *
     generalize tx (pt O i).2=y2 at *
     generalize tx (pt O (i+1)).1=z1 at *
     generalize tx (pt O (i+1)).2=z2 at *
     obtain ⟨sg,hsg⟩ : ∃ sg,sg=nJ (eu (pt O i) (pt O (i+1)) x):=⟨_,rfl⟩
     rw [←hsg] at H1 HSG
     clear hsg
     by_cases hg0:sg≤0
     ·have HN:=hid (HS.out.step (by
       rcases HSG.out with ⟨a,b⟩ | ⟨a,b⟩ | ⟨a,b⟩
       ·exact Rat.le_of_lt a
       ·rw [a];exact Rat.le_refl
       ·omega))
      have n5:decide (sg≤0)=true:=decide_eq_true hg0
      clear hg0 HSG
      go_wp2_with fail
      refine aN (fun W'=>Below wr.heap.size wr W') [0,1,2,3,4,5,6,7,8,9,10,11,12,13,14,15,16] [17] 18 (by kernel_rfl) (by kernel_rfl) ⟨rfl,rfl,rfl,Nat.le_refl _,fun _ _=>rfl⟩ ?_
      iterate 17
       refine aL rfl ?_ rfl ?_ ?_
       rotate_left
       ·intro W' hS'
        have s0:=(hS'.cell (p:=⟨g,i*2,none⟩) YW).trans p0
        have s1:=(hS'.cell (p:=⟨g,i*2+1,none⟩) YW).trans p1
        have s2:=(hS'.cell (p:=⟨g,(i+1)*2,none⟩) YW).trans q0
        have s3:=(hS'.cell (p:=⟨g,(i+1)*2+1,none⟩) YW).trans q1
        have s4:=(hS'.cell (p:=⟨wo.heap.size,0,none⟩) GZ).trans g0
        have s5:=(hS'.cell (p:=⟨wo.heap.size,1,none⟩) GZ).trans g1
        go_simp
        try with_reducible rfl
       try simp only [zA,zB,zC,Act.put,zD,zE,zF]
      have hR0:Below wr.heap.size wr wr.drew:=⟨rfl,rfl,rfl,Nat.le_refl _,fun _ _=>rfl⟩
      refine aD rfl rfl (fun K hK=>?_)
      go_simp
      refine (H1.out _ (hw.below (hbi.trans (hR0.mono hbi.size)))).mono ?_
      rintro e u1 ⟨rfl,lV⟩
      have eY:=hR0.trans (lV.mono hR0.size)
      refine hK _ _ ⟨eY,?_⟩
      clear hK K
      try simp only [zA,zB,zC,Act.put,zD,zE,zF]
      unfold bE
      simp only [List.drop_succ_cons,List.drop_zero]
      try simp only [zA,zB,zC,Act.put,zD,zE,zF]
      refine aB rfl (fun K hK=>?_)
      go_simp
      refine hK _ _ ⟨trivial,?_⟩
      clear hK K
      try simp only [zA,zB,zC,Act.put,zD,zE,zF]
      refine aB rfl (fun K hK=>?_)
      go_simp
      refine hK _ _ ⟨trivial,aQ ?_⟩
      clear hK K
      try simp only [zA,zB,zC,Act.put,zD,zE,zF]
      refine ag.mk ?_
      have yg:=gU.trans (eY.mono gU.size)
      have HCU:=hid (yw.out _ eY)
      go_wp2
      refine ⟨⟨i+1,HN.out,HCU.out,yg⟩,?_⟩
      show i+1<i+1+1
      omega
     ·have HN:=hid (qR.out (fun i' hi'=>by
       rw [show i'=i by omega]
       rcases HSG.out with ⟨a,b⟩ | ⟨a,b⟩ | ⟨a,b⟩
       ·omega
       ·omega
       ·exact a))
      have n5:decide (sg≤0)=false:=decide_eq_false hg0
      clear hg0 HSG
      go_wp2_with fail
      refine aN (fun W'=>Below wr.heap.size wr W') [0,1,2,3,4,5,6,7,8,9,10,11,12,13,14,15,16] [17] 18 (by kernel_rfl) (by kernel_rfl) ⟨rfl,rfl,rfl,Nat.le_refl _,fun _ _=>rfl⟩ ?_
      iterate 17
       refine aL rfl ?_ rfl ?_ ?_
       rotate_left
       ·intro W' hS'
        have s0:=(hS'.cell (p:=⟨g,i*2,none⟩) YW).trans p0
        have s1:=(hS'.cell (p:=⟨g,i*2+1,none⟩) YW).trans p1
        have s2:=(hS'.cell (p:=⟨g,(i+1)*2,none⟩) YW).trans q0
        have s3:=(hS'.cell (p:=⟨g,(i+1)*2+1,none⟩) YW).trans q1
        have s4:=(hS'.cell (p:=⟨wo.heap.size,0,none⟩) GZ).trans g0
        have s5:=(hS'.cell (p:=⟨wo.heap.size,1,none⟩) GZ).trans g1
        go_simp
        try with_reducible rfl
       try simp only [zA,zB,zC,Act.put,zD,zE,zF]
      have hR0:Below wr.heap.size wr wr.drew:=⟨rfl,rfl,rfl,Nat.le_refl _,fun _ _=>rfl⟩
      refine aD rfl rfl (fun K hK=>?_)
      go_simp
      refine (H1.out _ (hw.below (hbi.trans (hR0.mono hbi.size)))).mono ?_
      rintro e u1 ⟨rfl,lV⟩
      have eY:=hR0.trans (lV.mono hR0.size)
      refine hK _ _ ⟨eY,?_⟩
      clear hK K
      try simp only [zA,zB,zC,Act.put,zD,zE,zF]
      unfold bE
      simp only [List.drop_succ_cons,List.drop_zero]
      try simp only [zA,zB,zC,Act.put,zD,zE,zF]
      refine aB rfl (fun K hK=>?_)
      go_simp
      refine hK _ _ ⟨trivial,?_⟩
      clear hK K
      try simp only [zA,zB,zC,Act.put,zD,zE,zF]
      refine aB rfl (fun K hK=>?_)
      go_simp
      refine hK _ _ ⟨trivial,aQ ?_⟩
      clear hK K
      try simp only [zA,zB,zC,Act.put,zD,zE,zF]
      refine ag.mk ?_
      have hbu:=hbi.trans (eY.mono hbi.size)
      have HOU:=hid (di HOI.out eY)
      have g0:=(eY.cell (p:=⟨wo.heap.size,0,none⟩) GZ).trans g0
      have g1:=(eY.cell (p:=⟨wo.heap.size,1,none⟩) GZ).trans g1
      go_wp2_with (at_builtin;refine NZ rE rfl _ _ rfl w.heap.size _ (i+2) _ rfl HOU.out 1 1 _ rfl rfl (UY _ _) (by omega) (by decide) hbu.size _ YQ.out ?_;intro v1 w9 hown2 Td;have RJ:=hid hown2;clear hown2)
      refine ⟨⟨k+1,_,hk,aA k,HN.out,by rw [HLEN.out];omega,by rw [HLEN.out];exact RJ.out,hbu.trans Td⟩,?_⟩
      show L.length-((k:Int)+1).toNat<L.length-((k:Int)).toNat
      omega
    ·have HN:=hid (qR.out (fun i hi=>by omega))
     obtain ⟨pj,cj,rfl,hcj,hmj⟩:=hPS.slice
     rw [htl] at *
     have m7:decide ((j:Int)>1)=false:=decide_eq_false (by omega)
     have m9:decide ((1:Int)<(j:Int))=false:=decide_eq_false (by omega)
     have m10:decide (1<j)=false:=decide_eq_false (by omega)
     clear hPS
     go_wp2_with fail
     refine aN (fun W'=>Below wr.heap.size wr W') [0,1,2,3,4,5,6,7,8,9,10,11,12,13,14,15,16,17,18] [] 19 (by kernel_rfl) (by kernel_rfl) ⟨rfl,rfl,rfl,Nat.le_refl _,fun _ _=>rfl⟩ ?_
     iterate 4
      refine aL rfl ?_ rfl ?_ ?_
      rotate_left
      ·intro W' hS'
       go_simp
       try with_reducible rfl
      try simp only [zA,zB,zC,Act.put,zD,zE,zF]
     iterate 15
      refine kN rfl rfl ?_
      try simp only [zA,zB,zC,Act.put,zD,zE,zF]
     unfold bE
     simp only [List.drop_succ_cons,List.drop_zero]
     try simp only [zA,zB,zC,Act.put,zD,zE,zF]
     refine aB rfl (fun K hK=>?_)
     go_simp
     refine hK _ _ ⟨trivial,aQ ?_⟩
     clear hK K
     try simp only [zA,zB,zC,Act.put,zD,zE,zF]
     refine ag.mk ?_
     obtain ⟨u,Ud⟩ : ∃ u,u=wr.drew:=⟨_,rfl⟩
     have hRZ:Below wr.heap.size wr u:=by rw [Ud];exact ⟨rfl,rfl,rfl,Nat.le_refl _,fun _ _=>rfl⟩
     rw [←Ud]
     clear Ud
     have hbu:=hbi.trans (hRZ.mono hbi.size)
     have HOU:=hid (di HOI.out hRZ)
     have g0:=(hRZ.cell (p:=⟨wo.heap.size,0,none⟩) GZ).trans g0
     have g1:=(hRZ.cell (p:=⟨wo.heap.size,1,none⟩) GZ).trans g1
     go_wp2_with (at_builtin;refine NZ rE rfl _ _ rfl w.heap.size _ j _ rfl HOU.out 1 1 _ rfl rfl (UY _ _) (by omega) (by decide) hbu.size _ YQ.out ?_;intro v1 w9 hown2 Td;have RJ:=hid hown2;clear hown2)
     refine ⟨⟨k+1,_,hk,aA k,HN.out,by rw [HLEN.out];omega,by rw [HLEN.out];exact RJ.out,hbu.trans Td⟩,?_⟩
     show L.length-((k:Int)+1).toNat<L.length-((k:Int)).toNat
     omega
  ·have hkn:decide ((k:Int)<(L.length:Int))=false:=decide_eq_false (by omega)
   have hC:Em d L O:=by
    have:=HCZ.out
    rw [List.take_of_length_le (by omega)] at this
    rcases this with ⟨h1,_⟩ | h
    ·rw [h1] at h0;exact absurd h0 (Nat.lt_irrefl _)
    ·exact h
   have HC:=hid hC
   have ahp:=hC.ne
   obtain ⟨i,hi⟩ : ∃ i,O.length=i+1:=⟨O.length-1,by omega⟩
   have hown:=HOW.out
   rw [hi] at hown
   obtain ⟨g,cap,rfl⟩:=ownsRow_succ hown
   have hcap:i+1≤cap∧cap≤maxLen:=by
    obtain ⟨_,h⟩:=hown
    rcases h with ⟨h,_⟩ | ⟨_,_,_,h,_,_,h3,h4,_⟩
    ·simp at h
    ·simp only [Value.slice.injEq,Option.some.injEq,Addr.mk.injEq,and_true,true_and] at h
     rw [h.2];exact ⟨h3,h4⟩
   have hcap1:=hcap.1
   have hcap2:=hcap.2
   unfold maxLen at hcap2
   have yw:=hid (show wr.ownsRow w.heap.size 113 2 (.slice (some ⟨g,0,none⟩) i cap) (O.length-1) (cellsS (O.dropLast.map aR)) by
    have:=KA hown (show i≤i+1 by omega)
    rw [Da] at this
    rw [List.dropLast_eq_take,show O.length-1=i by omega]
    exact this)
   have m11:IntKind.i64.wrap ((i:Int)+1-1)=(i:Int):=IntWalk.i64_in _ (by omega) |>.trans (by omega)
   have m12:IntKind.i64.wrap (i:Int)=(i:Int):=IntWalk.i64_in _ (by omega)
   have m13:(0:Int)≤(i:Int):=by omega
   have m14:(i:Int)≤(cap:Int):=by omega
   clear hC hown hcap hi
   go_wp2
   go_ret
   exact ⟨_,O,rfl,HC.out,yw.out,hbr⟩
end Go.Proofs.YtglncfkoohgdaaaGreatDoor
