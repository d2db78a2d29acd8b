import Derived.Test.YtgohnjdgoglcfaaGreatDoorV4Z
import Derived.Test.YtgohnjdgoglcfaaGreatDoorU8Z
import Derived.Test.YtgohnjdgoglcfaaGreatDoorBxZ
set_option maxRecDepth 100000
set_option maxHeartbeats 8000000
namespace Go.Proofs.YtgohnjdgoglcfaaGreatDoor
open Go.RowKit Go.Shelf
open Go.Lib (decDigits itoa nDigits)
open Go.Lib (hid)
def RClip (f:QP→Rat) (P:List QP) (W:World) (r:Value):Prop:=((clipL f P).length<3∧r=.slice none 0 0)∨(¬ (clipL f P).length<3∧∃ t,LeastAt (clipL f P) t∧Pts W r (rotL (clipL f P) t))
def RClPost (f:QP→Rat) (P:List QP) (w:World) (e:Ending) (w':World):Prop:=∃ r,e=.returned r∧RClip f P w' r∧Below w.heap.size w w'
theorem app_new2 {t e:TypeId} {z:Value} {size bytes:Nat} (S:SliceOf t e z size bytes) {ops:Array Oper} {rest:List Oper} {o:Oper} {a:Act} {Q:Exit→Act→World→Prop} {w:World}
  (hgd:o.guard=none) (s x:Operand) (ho:o.op=.call { callee:=.builtin .append,args:=#[s,x],argTypes:=#[t,t] })
  (base:Nat) (v:Value) (n:Nat) (xs:List Value) (hs:a.eval s=v) (hown:w.ownsRow base e size v n xs)
  (m c:Nat) (news:Array Value) (hx:a.eval x=.slice (some ⟨w.heap.size,0,none⟩) m c) (hl:news.size=m*size) (h1:∀ u∈news.toList,u.oneCell'=true)
  (hn:(n+m)*bytes≤140737488355328) (hby:0<bytes) (hbase:base≤w.heap.size) (xs':List Value) (hxs:xs++news.toList=xs')
  (h:∀ v' w',w'.ownsRow base e size v' (n+m) xs'→Below base w w'→(∀ j,j<w.heap.size→some j≠v.ownBlock→w'.heap[j]?=w.heap[j]?)→wpList Tryz.prog ops Q rest (a.put o.dst v') w'):wpList Tryz.prog ops Q (o :: rest) a (w.alloc (.cells news e)):=by
 obtain ⟨i,hi,hz0,hz1,hz2⟩:=info_parts S.info
 have hb1:Below base w (w.alloc (.cells news e)):=(Below.refl _ _).alloc hbase _
 have hle:n+m≤(n+m)*bytes:=Nat.le_mul_of_pos_right _ hby
 refine wpList_append_own _ hgd s x t ho base e i z size bytes S.ht hi hz0 hz1 hz2 S.hzs S.hsz v n xs hs ?_ ⟨w.heap.size,0,none⟩ m c news.toList hx (by simpa using hl) ?_ h1 (by unfold maxLen;omega) hn (by simp;omega) ?_
 ·exact hown.alloc _
 ·intro j u hj
  rw [addr_add,Nat.zero_add,World.cell?_alloc_new]
  simpa using hj
 ·intro v' w' ho hg _
  rw [hxs] at ho
  refine h v' w' ho (hb1.grown hg (by simp;omega) (fun k hk=>(hown.lt k hk).1)) (fun j hj hjv=>?_)
  rw [hg.block j (by simp;omega) hjv]
  exact (alloc_below w _).block j hj
theorem mul_sgn {p q:Rat}:decide (sgnR p*sgnR q<0)=decide (p*q<0):=by
 rw [decide_eq_decide]
 rcases sgnR_cases p with ⟨a,b⟩ | ⟨a,b⟩ | ⟨a,b⟩ <;> rcases sgnR_cases q with ⟨c,d⟩ | ⟨c,d⟩ | ⟨c,d⟩ <;> rw [b,d]
 ·have:=Rat.mul_pos (show 0 < -p by grind) (show 0 < -q by grind);constructor <;> intro h <;> grind
 ·rw [c];constructor <;> intro h <;> grind
 ·have:=Rat.mul_pos (show 0 < -p by grind) c;constructor <;> intro h <;> grind
 ·rw [a];constructor <;> intro h <;> grind
 ·rw [a];constructor <;> intro h <;> grind
 ·rw [a];constructor <;> intro h <;> grind
 ·have:=Rat.mul_pos a (show 0 < -q by grind);constructor <;> intro h <;> grind
 ·rw [c];constructor <;> intro h <;> grind
 ·have:=Rat.mul_pos a c;constructor <;> intro h <;> grind
theorem sgn_wrap (p q:Rat):IntKind.i64.wrap (sgnR p*sgnR q)=sgnR p*sgnR q:=by
 refine IntWalk.i64_in _ ?_
 rcases sgnR_cases p with ⟨_,b⟩ | ⟨_,b⟩ | ⟨_,b⟩ <;> rcases sgnR_cases q with ⟨_,d⟩ | ⟨_,d⟩ | ⟨_,d⟩ <;> rw [b,d] <;> decide
theorem sgn_geB (p:Rat):decide (sgnR p≥0)=decide (0≤p):=by
 rw [decide_eq_decide]
 rcases sgnR_cases p with ⟨a,b⟩ | ⟨a,b⟩ | ⟨a,b⟩ <;> rw [b] <;> constructor <;> intro h <;> first | omega | grind
theorem r9_clip (v:Value) (P:List QP) (a b c:Rat) (h3:3≤P.length) (hn:P.length≤1000) (hz:∀ p∈P,Sz2 402 p) (ha:Sz 100 a) (hb:Sz 100 b) (hc:Sz 100 c) (w:World) (hw:Good w) (hv:Pts w v P) (f:QP→Rat) (hf:∀ p,valP a b c p=f p) :
  Calls Tryz.prog 37 #[v,.string (tx a),.string (tx b),.string (tx c)] w (RClPost f P w):=by
 have hvz:∀ p∈P,Sz 4300 (f p):=fun p hp=>by rw [←hf];exact ((((ha.mul (hz p hp).1).add (hb.mul (hz p hp).2))).sub hc).mono (by decide)
 have HV:=hid (fun k (hk:k<P.length) w' (hg:Good w')=>r5_value a b c (pt P k) (ha.mono (by decide)) (hb.mono (by decide)) (hc.mono (by decide)) ((hz _ (pt_mem hk)).mono (by decide)) w' hg)
 have HSG:=hid (fun q w'=>r_sign (f q) w')
 have KSB:=hid (fun k (hk:k<P.length) w' (hg:Good w')=>r_sub (f (pt P k)) (f (pt P (nxI P.length k))) ((hvz _ (pt_mem hk)).mono (by decide)) ((hvz _ (pt_mem (nxI_lt (by omega)))).mono (by decide)) w' hg)
 have KDV:=hid (fun k (hk:k<P.length) (h0:f (pt P k)-f (pt P (nxI P.length k))≠0) w' (hg:Good w')=>r_div (f (pt P k)) (f (pt P k)-f (pt P (nxI P.length k))) h0 ((hvz _ (pt_mem hk)).mono (by decide)) (((hvz _ (pt_mem hk)).sub (hvz _ (pt_mem (nxI_lt (by omega))))).mono (by decide)) w' hg)
 have KTW:=hid (fun k (hk:k<P.length) w' (hg:Good w')=>r5_toward (pt P k) (pt P (nxI P.length k)) (f (pt P k)*(f (pt P k)-f (pt P (nxI P.length k)))⁻¹) ((hz _ (pt_mem hk)).mono (by decide)) ((hz _ (pt_mem (nxI_lt (by omega)))).mono (by decide)) (((hvz _ (pt_mem hk)).div ((hvz _ (pt_mem hk)).sub (hvz _ (pt_mem (nxI_lt (by omega)))))).mono (by decide)) w' hg)
 have hcz:∀ q∈clipL f P,Sz2 100000 q:=fun q hq=>by
  rcases clip_mem hq with hq | ⟨i,hi,_,rfl⟩
  ·exact (hz q hq).mono (by decide)
  ·have k1:=hz _ (pt_mem hi)
   have k2:=hz _ (pt_mem (nxI_lt (n:=P.length) (i:=i) (by omega)))
   have k3:Sz 30000 (f (pt P i)/(f (pt P i)-f (pt P (nxI P.length i)))):=by rw [Rat.div_def];exact ((hvz _ (pt_mem hi)).div ((hvz _ (pt_mem hi)).sub (hvz _ (pt_mem (nxI_lt (by omega)))))).mono (by decide)
   unfold towP
   exact ⟨(k1.1.add (k3.mul (k2.1.sub k1.1))).mono (by decide),(k1.2.add (k3.mul (k2.2.sub k1.2))).mono (by decide)⟩
 have hlen:=cycTo_len f P P.length
 have hall:=cycTo_all (emit f) P
 have HBG:=hid (fun (h:¬ (clipL f P).length<3) r w' (hg:Good w') hp=>r9_begin r (clipL f P) (by omega) (by unfold clipL;rw [←hall];omega) hcz w' hg hp)
 have HEC:=hid (fun k=>emit_cases f P k)
 have HCT:=hid (show cycTo (emit f) P P.length=clipL f P from hall)
 have HLN:=hid (fun k=>cycTo_len f P k)
 unfold RV at HV HSG KSB KDV KTW
 unfold ptV at HV KTW
 unfold BegPost at HBG
 obtain ⟨p,cc,rfl,hcl,hcm⟩:=hv.slice
 unfold maxLen at hcm
 obtain ⟨B,off,rfl,hbl,hcell⟩:=Pts.cells hv (by omega)
 have HCC:=hid (fun i (hi:i<P.length) wx (h:Below w.heap.size w wx)=>And.intro ((h.cell (p:=⟨B,off+i*2,none⟩) hbl).trans (hcell i hi).1) ((h.cell (p:=⟨B,off+i*2+1,none⟩) hbl).trans (hcell i hi).2))
 have HFE:=hid hf
 have hown0:w.ownsRow w.heap.size 31 2 (.slice none 0 0) 0 (cellsS ((cycTo (emit f) P 0).map textP)):=⟨rfl,.inl ⟨rfl,rfl⟩⟩
 have HO0:=hid hown0
 have hbw:=Below.refl w.heap.size w
 clear hv hcell hz hvz hcz hlen hall hown0 ha hb hc hf
 generalize tx a=ta at *
 generalize tx b=tb at *
 generalize tx c=tc at *
 go_enter Tryz.func37,Tryz.ntmps37
 go_wp2_with fail
 go_loopw [9,10,11,12,13] (fun ov iv _ _ _ wr=>∃ (k:Nat) (xv:Value),xv=ov∧k≤P.length∧iv=.int .i64 (k:Int)∧wr.ownsRow w.heap.size 31 2 xv (cycTo (emit f) P k).length (cellsS ((cycTo (emit f) P k).map textP))∧Below w.heap.size w wr) (fun _ iv _ _ _ _=>P.length-(intOf iv).toNat)
 case atStart=>exact ⟨0,_,rfl,Nat.zero_le _,rfl,HO0.out,hbw⟩
 case round =>
  clear HO0 hbw
  obtain ⟨k,xv,rfl,hkl,rfl,hown,hbr⟩:=hrel
  have HO:=hid hown
  by_cases hk:k<P.length
  ·have hblr0:B<wr.heap.size:=Nat.lt_of_lt_of_le hbl hbr.size
   have hkn:decide ((k:Int)<(P.length:Int))=true:=decide_eq_true (by omega)
   have hnl:nxI P.length k<P.length:=nxI_lt (by omega)
   have t1:=tmod_nx hk
   have t2:(0:Int)≤((nxI P.length k:Nat):Int):=by omega
   have t3:((nxI P.length k:Nat):Int)<(P.length:Int):=by omega
   have t4:IntKind.i64.wrap ((k:Int)+1)=(k:Int)+1:=IntWalk.i64_in _ (by omega)
   have t6:(P.length:Int)≠0:=by omega
   have t8:((P.length:Int) == 0)=false:=beq_eq_false_iff_ne.2 (by omega)
   have t7:¬ P=[]:=fun e=>by rw [e] at hk;exact absurd hk (Nat.not_lt_zero _)
   have i1:(0:Int)≤(k:Int):=by omega
   have i2:(k:Int)<(P.length:Int):=by omega
   obtain ⟨c0,c1⟩:=HCC.out k hk wr hbr
   obtain ⟨d0,d1⟩:=HCC.out (nxI P.length k) hnl wr hbr
   have H1:=hid (HV.out k hk)
   have H2:=hid (HV.out (nxI P.length k) hnl)
   rw [HFE.out] at H1 H2
   have HE:=hid (HEC.out k)
   have HSB:=hid (KSB.out k hk)
   have HDK:=hid (KDV.out k hk)
   have HTW:=hid (KTW.out k hk)
   have HS1:=hid (HSG.out (pt P k))
   have HS2:=hid (HSG.out (pt P (nxI P.length k)))
   have HGE:=hid (sgn_geB (f (pt P k)))
   have HMU:=hid (mul_sgn (p:=f (pt P k)) (q:=f (pt P (nxI P.length k))))
   have HC0:=hid (HCC.out k hk)
   have HL:=HLN.out k
   have HNB:=hid (show some wr.heap.size≠xv.ownBlock from fun e=>by have:=(hown.lt _ e.symm).2;omega)
   clear hown
   obtain ⟨L,hLd⟩ : ∃ L,L=cycTo (emit f) P k:=⟨_,rfl⟩
   rw [←hLd] at HO HE HL
   have HCT1:=hid hLd
   clear hLd
   have HCE1:=hid (cells_last L (pt P k))
   generalize pt P k=A at *
   generalize pt P (nxI P.length k)=C at *
   generalize tx A.1=p1 at *
   generalize tx A.2=p2 at *
   generalize tx C.1=q1 at *
   generalize tx C.2=q2 at *
   go_upto_region 6 with fail
   obtain ⟨wC,hwwC⟩ : ∃ wC,wC=wr.alloc (Obj.cells #[.string q1,.string q2] 31):=⟨_,rfl⟩
   obtain ⟨hbwC,hxC⟩:=box_any hwwC
   have HXC:=hid hxC
   have lC:=lt_of_blk hxC
   obtain ⟨z0,z1,_,_⟩:=two_cells hxC
   rw [←hwwC]
   clear hwwC d0 d1 hxC
   have hbC:=hbr.trans (hbwC.mono hbr.size)
   have hblr:B<wC.heap.size:=Nat.lt_of_lt_of_le hblr0 hbwC.size
   replace c0:=(hbwC.cell (p:=⟨B,off+k*2,none⟩) hblr0).trans c0
   replace c1:=(hbwC.cell (p:=⟨B,off+k*2+1,none⟩) hblr0).trans c1
   replace HO:=hid (owns_below HO.out hbwC)
   go_wp2_with fail
   refine wp_held_list (fun W'=>Below wC.heap.size wC W') [0,1,2,3,4,5,6,8,9,10,11] [7,12] 13 (by kernel_rfl) (by kernel_rfl) ⟨rfl,rfl,rfl,Nat.le_refl _,fun _ _=>rfl⟩ ?_
   iterate 11
    refine wpTakeL_step rfl ?_ rfl ?_ ?_
    rotate_left
    ·intro W' hS'
     have s0:=(hS'.cell (p:=⟨B,off+k*2,none⟩) hblr).trans c0
     have s1:=(hS'.cell (p:=⟨B,off+k*2+1,none⟩) hblr).trans c1
     have s2:=(hS'.cell (p:=⟨wr.heap.size,0,none⟩) lC).trans z0
     have s3:=(hS'.cell (p:=⟨wr.heap.size,1,none⟩) lC).trans z1
     go_simp
     try with_reducible rfl
    try simp only [zA,zB,zC,Act.put,zD,zE,zF]
   have hR0:Below wC.heap.size wC wC.drew:=⟨rfl,rfl,rfl,Nat.le_refl _,fun _ _=>rfl⟩
   refine wpKeepL_step rfl rfl (fun K hK=>?_)
   go_simp
   refine (H1.out _ (hw.below (hbC.trans (hR0.mono hbC.size)))).mono ?_
   rintro e u1 ⟨rfl,hbu1⟩
   have hR1:=hR0.trans (hbu1.mono hR0.size)
   refine hK _ _ ⟨hR1,?_⟩
   clear hK K
   try simp only [zA,zB,zC,Act.put,zD,zE,zF]
   refine wpKeepL_step rfl rfl (fun K hK=>?_)
   go_simp
   refine (H2.out _ (hw.below (hbC.trans (hR1.mono hbC.size)))).mono ?_
   rintro e u2 ⟨rfl,hbu2⟩
   have hR2:=hR1.trans (hbu2.mono hR1.size)
   refine hK _ _ ⟨hR2,?_⟩
   clear hK K
   try simp only [zA,zB,zC,Act.put,zD,zE,zF]
   unfold wpKeepL
   simp only [List.drop_succ_cons,List.drop_zero]
   try simp only [zA,zB,zC,Act.put,zD,zE,zF]
   refine wpKeep_step rfl (fun K hK=>?_)
   go_simp
   refine hK _ _ ⟨trivial,?_⟩
   clear hK K
   try simp only [zA,zB,zC,Act.put,zD,zE,zF]
   refine wpKeep_step rfl (fun K hK=>?_)
   go_simp
   refine hK _ _ ⟨trivial,wpKeep_nil ?_⟩
   clear hK K
   try simp only [zA,zB,zC,Act.put,zD,zE,zF]
   refine NormalOnly.mk ?_
   have hbu:=hbC.trans (hR2.mono hbC.size)
   replace HO:=hid (owns_below HO.out hR2)
   have HXU:=hid ((hR2.block _ lC).trans HXC.out)
   clear c0 c1 z0 z1 lC hblr hblr0 H1 H2
   by_cases hge:0≤f A
   ·have n0:decide (sgnR (f A)≥0)=true:=by rw [HGE.out];exact decide_eq_true hge
    have n0':decide (0≤sgnR (f A))=true:=n0
    obtain ⟨c0,c1⟩:=HC0.out _ hbu
    have hblq:B<_:=Nat.lt_of_lt_of_le hbl hbu.size
    go_wp2_with fail
    refine (HS1.out _).mono ?_
    rintro e v0 ⟨rfl,g0⟩
    have hv0:=hbu.trans (g0.mono hbu.size)
    replace HO:=hid (owns_below HO.out g0)
    replace HXU:=hid ((g0.block _ (lt_of_blk HXU.out)).trans HXU.out)
    have hbase:=hv0.size
    replace c0:=(g0.cell (p:=⟨B,off+k*2,none⟩) hblq).trans c0
    replace c1:=(g0.cell (p:=⟨B,off+k*2+1,none⟩) hblq).trans c1
    clear g0 hblq
    go_wp2_with (at_builtin;refine app_new2 slPt rfl _ _ rfl w.heap.size _ L.length _ rfl HO.out 1 1 _ rfl rfl (oneTwo _ _) (by omega) (by decide) hbase _ HCE1.out ?_;intro x0 w8 hown1 hb8 hoth;have HO1:=hid hown1;have HTH:=hid hoth;clear hown1 hoth)
    replace HXU:=hid ((HTH.out _ (lt_of_blk HXU.out) HNB.out).trans HXU.out)
    replace HO:=HO1
    obtain ⟨g1',cp1,rfl⟩:=ownsRow_succ HO.out
    have hv8:=hv0.trans hb8
    clear c0 c1 HO1 HTH HCE1
    go_wp2_with fail
    refine (HS1.out _).mono ?_
    rintro e v1 ⟨rfl,g1⟩
    have hv1:=hv8.trans (g1.mono hv8.size)
    go_wp2_with fail
    refine (HS2.out _).mono ?_
    rintro e v2 ⟨rfl,g2⟩
    have hv2:=hv1.trans (g2.mono hv1.size)
    replace HO:=hid (owns_below (owns_below HO.out g1) g2)
    replace HXU:=hid ((g2.block _ (lt_of_blk ((g1.block _ (lt_of_blk HXU.out)).trans HXU.out))).trans ((g1.block _ (lt_of_blk HXU.out)).trans HXU.out))
    clear g1 g2
    have nw:=sgn_wrap (f A) (f C)
    by_cases hc:f A*f C<0
    ·have hcn:f A-f C≠0:=fun e=>by
      have e':f A=f C:=by grind
      rw [e'] at hc
      have:=sq_nn (f C)
      grind
     have HFIN:=hid (show cycTo (emit f) P (k+1)=(L ++ [A]) ++ [towP A C (f A*(f A-f C)⁻¹)] by rw [HE.out,if_pos hge,if_pos hc,Rat.div_def];simp)
     have n1:decide (sgnR (f A)*sgnR (f C)<0)=true:=by rw [HMU.out];exact decide_eq_true hc
     have HDV:=hid (HDK.out hcn)
     obtain ⟨c0,c1⟩:=HC0.out v2 hv2
     have hblq:B<v2.heap.size:=Nat.lt_of_lt_of_le hbl hv2.size
     have lq:=lt_of_blk HXU.out
     obtain ⟨z0,z1,_,_⟩:=two_cells HXU.out
     have HCE:=hid (cells_last (L ++ [A]) (towP A C (f A*(f A-f C)⁻¹)))
     clear hc hcn HS1 HS2 HGE HMU HE
     generalize towP A C (f A*(f A-f C)⁻¹)=tw at *
     generalize tx (f A*(f A-f C)⁻¹)=tk at *
     generalize tx (f A-f C)=tm at *
     generalize tx (f A)=tu at *
     generalize tx (f C)=tv at *
     generalize sgnR (f A)=gu at *
     generalize sgnR (f C)=gv at *
     go_wp2_with fail
     refine wp_held_ph (fun W'=>Below v2.heap.size v2 W') [(true,0),(true,1),(true,2),(true,3),(true,4),(true,5),(true,6),(true,7),(true,8),(false,9),(false,10),(false,11),(false,12)] 13 (by kernel_rfl) (by kernel_rfl) ⟨rfl,rfl,rfl,Nat.le_refl _,fun _ _=>rfl⟩ ?_
     have K0:Below v2.heap.size v2 v2.drew:=⟨rfl,rfl,rfl,Nat.le_refl _,fun _ _=>rfl⟩
     iterate 9
      refine wpPh_take rfl ?_ rfl ?_ ?_
      rotate_left
      ·intro W' hS'
       have s0:=(hS'.cell (p:=⟨B,off+k*2,none⟩) hblq).trans c0
       have s1:=(hS'.cell (p:=⟨B,off+k*2+1,none⟩) hblq).trans c1
       have s2:=(hS'.cell (p:=⟨wr.heap.size,0,none⟩) lq).trans z0
       have s3:=(hS'.cell (p:=⟨wr.heap.size,1,none⟩) lq).trans z1
       go_simp
       try with_reducible rfl
      try simp only [zA,zB,zC,Act.put,zD,zE,zF]
     refine wpPh_keep rfl rfl (fun K hK=>?_)
     go_simp
     refine (HSB.out _ (hw.below (hv2.trans (K0.mono hv2.size)))).mono ?_
     rintro e k1 ⟨rfl,hbk1⟩
     have K1:=K0.trans (hbk1.mono K0.size)
     refine hK _ _ ⟨K1,?_⟩
     clear hK K
     try simp only [zA,zB,zC,Act.put,zD,zE,zF]
     refine wpPh_keep rfl rfl (fun K hK=>?_)
     go_simp
     refine (HDV.out _ (hw.below (hv2.trans (K1.mono hv2.size)))).mono ?_
     rintro e k2 ⟨rfl,hbk2⟩
     have K2:=K1.trans (hbk2.mono K1.size)
     refine hK _ _ ⟨K2,?_⟩
     clear hK K
     try simp only [zA,zB,zC,Act.put,zD,zE,zF]
     refine wpPh_keep rfl rfl (fun K hK=>?_)
     go_simp
     refine (HTW.out _ (hw.below (hv2.trans (K2.mono hv2.size)))).mono ?_
     rintro e k3 ⟨rfl,hbk3⟩
     have K3:=K2.trans (hbk3.mono K2.size)
     refine hK _ _ ⟨K3,?_⟩
     clear hK K
     try simp only [zA,zB,zC,Act.put,zD,zE,zF]
     refine wpPh_keep rfl rfl (fun K hK=>?_)
     go_simp
     refine hK _ _ ⟨K3.trans ((alloc_below _ _).mono K3.size),?_⟩
     clear hK K
     try simp only [zA,zB,zC,Act.put,zD,zE,zF]
     unfold wpPh
     simp only [List.drop_succ_cons,List.drop_zero]
     have hbk:=hv2.trans (K3.mono hv2.size)
     have HOK:=hid (owns_below HO.out K3)
     have hbase:=hbk.size
     clear c0 c1 z0 z1
     go_wp2_with (at_builtin;refine app_new slPt rfl _ _ rfl w.heap.size _ (L.length+1) _ rfl HOK.out 1 1 _ rfl rfl (oneTwo _ _) (by omega) (by decide) hbase _ HCE.out ?_;intro x1 w9 hown2 hb9;have HO2:=hid hown2;clear hown2)
     obtain ⟨g2,cp2,rfl⟩:=ownsRow_succ HO2.out
     refine NormalOnly.mk ?_
     go_wp2
     refine ⟨⟨k+1,_,rfl,hk,int_succ k,by rw [HFIN.out,List.length_append,List.length_singleton,List.length_append,List.length_singleton];exact HO2.out,hbk.trans hb9⟩,?_⟩
     show P.length-((k:Int)+1).toNat<P.length-((k:Int)).toNat
     omega
    ·have HFIN:=hid (show cycTo (emit f) P (k+1)=(L ++ [A]) by rw [HE.out,if_pos hge,if_neg hc];simp)
     have n1:decide (sgnR (f A)*sgnR (f C)<0)=false:=by rw [HMU.out];exact decide_eq_false hc
     clear hc
     go_wp2
     refine ⟨⟨k+1,_,rfl,hk,int_succ k,by rw [HFIN.out,List.length_append,List.length_singleton];exact HO.out,hv2⟩,?_⟩
     show P.length-((k:Int)+1).toNat<P.length-((k:Int)).toNat
     omega
   ·have n0:decide (sgnR (f A)≥0)=false:=by rw [HGE.out];exact decide_eq_false hge
    have n0':decide (0≤sgnR (f A))=false:=n0
    go_wp2_with fail
    refine (HS1.out _).mono ?_
    rintro e v0 ⟨rfl,g0⟩
    have hv0:=hbu.trans (g0.mono hbu.size)
    replace HO:=hid (owns_below HO.out g0)
    replace HXU:=hid ((g0.block _ (lt_of_blk HXU.out)).trans HXU.out)
    clear g0
    go_wp2_with fail
    refine (HS1.out _).mono ?_
    rintro e v1 ⟨rfl,g1⟩
    have hv1:=hv0.trans (g1.mono hv0.size)
    go_wp2_with fail
    refine (HS2.out _).mono ?_
    rintro e v2 ⟨rfl,g2⟩
    have hv2:=hv1.trans (g2.mono hv1.size)
    replace HO:=hid (owns_below (owns_below HO.out g1) g2)
    replace HXU:=hid ((g2.block _ (lt_of_blk ((g1.block _ (lt_of_blk HXU.out)).trans HXU.out))).trans ((g1.block _ (lt_of_blk HXU.out)).trans HXU.out))
    clear g1 g2
    have nw:=sgn_wrap (f A) (f C)
    by_cases hc:f A*f C<0
    ·have hcn:f A-f C≠0:=fun e=>by
      have e':f A=f C:=by grind
      rw [e'] at hc
      have:=sq_nn (f C)
      grind
     have HFIN:=hid (show cycTo (emit f) P (k+1)=(L) ++ [towP A C (f A*(f A-f C)⁻¹)] by rw [HE.out,if_neg hge,if_pos hc,Rat.div_def];simp)
     have n1:decide (sgnR (f A)*sgnR (f C)<0)=true:=by rw [HMU.out];exact decide_eq_true hc
     have HDV:=hid (HDK.out hcn)
     obtain ⟨c0,c1⟩:=HC0.out v2 hv2
     have hblq:B<v2.heap.size:=Nat.lt_of_lt_of_le hbl hv2.size
     have lq:=lt_of_blk HXU.out
     obtain ⟨z0,z1,_,_⟩:=two_cells HXU.out
     have HCE:=hid (cells_last (L) (towP A C (f A*(f A-f C)⁻¹)))
     clear hc hcn HS1 HS2 HGE HMU HE
     generalize towP A C (f A*(f A-f C)⁻¹)=tw at *
     generalize tx (f A*(f A-f C)⁻¹)=tk at *
     generalize tx (f A-f C)=tm at *
     generalize tx (f A)=tu at *
     generalize tx (f C)=tv at *
     generalize sgnR (f A)=gu at *
     generalize sgnR (f C)=gv at *
     go_wp2_with fail
     refine wp_held_ph (fun W'=>Below v2.heap.size v2 W') [(true,0),(true,1),(true,2),(true,3),(true,4),(true,5),(true,6),(true,7),(true,8),(false,9),(false,10),(false,11),(false,12)] 13 (by kernel_rfl) (by kernel_rfl) ⟨rfl,rfl,rfl,Nat.le_refl _,fun _ _=>rfl⟩ ?_
     have K0:Below v2.heap.size v2 v2.drew:=⟨rfl,rfl,rfl,Nat.le_refl _,fun _ _=>rfl⟩
     iterate 9
      refine wpPh_take rfl ?_ rfl ?_ ?_
      rotate_left
      ·intro W' hS'
       have s0:=(hS'.cell (p:=⟨B,off+k*2,none⟩) hblq).trans c0
       have s1:=(hS'.cell (p:=⟨B,off+k*2+1,none⟩) hblq).trans c1
       have s2:=(hS'.cell (p:=⟨wr.heap.size,0,none⟩) lq).trans z0
       have s3:=(hS'.cell (p:=⟨wr.heap.size,1,none⟩) lq).trans z1
       go_simp
       try with_reducible rfl
      try simp only [zA,zB,zC,Act.put,zD,zE,zF]
     refine wpPh_keep rfl rfl (fun K hK=>?_)
     go_simp
     refine (HSB.out _ (hw.below (hv2.trans (K0.mono hv2.size)))).mono ?_
     rintro e k1 ⟨rfl,hbk1⟩
     have K1:=K0.trans (hbk1.mono K0.size)
     refine hK _ _ ⟨K1,?_⟩
     clear hK K
     try simp only [zA,zB,zC,Act.put,zD,zE,zF]
     refine wpPh_keep rfl rfl (fun K hK=>?_)
     go_simp
     refine (HDV.out _ (hw.below (hv2.trans (K1.mono hv2.size)))).mono ?_
     rintro e k2 ⟨rfl,hbk2⟩
     have K2:=K1.trans (hbk2.mono K1.size)
     refine hK _ _ ⟨K2,?_⟩
     clear hK K
     try simp only [zA,zB,zC,Act.put,zD,zE,zF]
     refine wpPh_keep rfl rfl (fun K hK=>?_)
     go_simp
     refine (HTW.out _ (hw.below (hv2.trans (K2.mono hv2.size)))).mono ?_
     rintro e k3 ⟨rfl,hbk3⟩
     have K3:=K2.trans (hbk3.mono K2.size)
     refine hK _ _ ⟨K3,?_⟩
     clear hK K
     try simp only [zA,zB,zC,Act.put,zD,zE,zF]
     refine wpPh_keep rfl rfl (fun K hK=>?_)
     go_simp
     refine hK _ _ ⟨K3.trans ((alloc_below _ _).mono K3.size),?_⟩
     clear hK K
     try simp only [zA,zB,zC,Act.put,zD,zE,zF]
     unfold wpPh
     simp only [List.drop_succ_cons,List.drop_zero]
     have hbk:=hv2.trans (K3.mono hv2.size)
     have HOK:=hid (owns_below HO.out K3)
     have hbase:=hbk.size
     clear c0 c1 z0 z1
     go_wp2_with (at_builtin;refine app_new slPt rfl _ _ rfl w.heap.size _ L.length _ rfl HOK.out 1 1 _ rfl rfl (oneTwo _ _) (by omega) (by decide) hbase _ HCE.out ?_;intro x1 w9 hown2 hb9;have HO2:=hid hown2;clear hown2)
     obtain ⟨g2,cp2,rfl⟩:=ownsRow_succ HO2.out
     refine NormalOnly.mk ?_
     go_wp2
     refine ⟨⟨k+1,_,rfl,hk,int_succ k,by rw [HFIN.out,List.length_append,List.length_singleton];exact HO2.out,hbk.trans hb9⟩,?_⟩
     show P.length-((k:Int)+1).toNat<P.length-((k:Int)).toNat
     omega
    ·have HFIN:=hid (show cycTo (emit f) P (k+1)=(L) by rw [HE.out,if_neg hge,if_neg hc];simp)
     have n1:decide (sgnR (f A)*sgnR (f C)<0)=false:=by rw [HMU.out];exact decide_eq_false hc
     clear hc
     go_wp2
     refine ⟨⟨k+1,_,rfl,hk,int_succ k,by rw [HFIN.out];exact HO.out,hv2⟩,?_⟩
     show P.length-((k:Int)+1).toNat<P.length-((k:Int)).toNat
     omega
  ·have hkn:decide ((k:Int)<(P.length:Int))=false:=decide_eq_false (by omega)
   have e:k=P.length:=by omega
   subst e
   rw [HCT.out] at HO hown
   clear HEC HLN
   have HPS:=hid (show Pts wr _ (clipL f P) from pairs_of_cells (by rw [List.length_map];exact hown))
   clear hown
   obtain ⟨M,hMD⟩ : ∃ M,M=clipL f P:=⟨_,rfl⟩
   rw [←hMD] at HPS HBG HO
   have HMD:=hid hMD.symm
   clear hMD
   by_cases hM:M.length<3
   ·rcases Nat.eq_zero_or_pos M.length with h0 | h0
    ·obtain ⟨pm,cm,hm,_,_⟩:=HPS.out.slice
     subst hm
     have hMd:decide ((M.length:Int)<3)=true:=decide_eq_true (by omega)
     have HM:=hid hM
     clear h0 hM
     go_wp2
     go_ret
     exact ⟨_,rfl,.inl ⟨by rw [HMD.out];exact HM.out,rfl⟩,hbr⟩
    ·obtain ⟨pm,cm,hm,_,_⟩:=HPS.out.slice
     subst hm
     have hMd:decide ((M.length:Int)<3)=true:=decide_eq_true (by omega)
     have HM:=hid hM
     clear h0 hM
     go_wp2
     go_ret
     exact ⟨_,rfl,.inl ⟨by rw [HMD.out];exact HM.out,rfl⟩,hbr⟩
   ·obtain ⟨pm,cm,hm,_,_⟩:=HPS.out.slice
    subst hm
    have hMd:decide ((M.length:Int)<3)=false:=decide_eq_false (by omega)
    have HB:=hid (HBG.out hM (.slice pm M.length cm) wr (hw.below hbr) HPS.out)
    have HM:=hid hM
    clear hM
    go_wp2_with fail
    refine HB.out.mono ?_
    rintro e w2 ⟨r,t,rfl,hL,hP2,hb2⟩
    have HR:=hid (show RClip f P w2 r from .inr ⟨by rw [HMD.out];exact HM.out,t,by rw [HMD.out];exact hL,by rw [HMD.out];exact hP2⟩)
    clear hL hP2
    go_wp2
    go_ret
    exact ⟨_,rfl,HR.out,hbr.trans (hb2.mono hbr.size)⟩
end Go.Proofs.YtgohnjdgoglcfaaGreatDoor
