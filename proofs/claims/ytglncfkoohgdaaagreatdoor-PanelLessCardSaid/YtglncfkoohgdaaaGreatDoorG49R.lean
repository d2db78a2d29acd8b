import Derived.Test.YtglncfkoohgdaaaGreatDoorT3R
import Derived.Test.YtglncfkoohgdaaaGreatDoorE3R
import Derived.Test.YtglncfkoohgdaaaGreatDoorG30R
import Derived.Test.YtglncfkoohgdaaaGreatDoorStillR
import Derived.Test.YtglncfkoohgdaaaGreatDoorG20R
import Derived.Test.YtglncfkoohgdaaaGreatDoorG40R
import Derived.Test.YtglncfkoohgdaaaGreatDoorG48R
import Derived.Test.YtglncfkoohgdaaaGreatDoorG29R
set_option maxRecDepth 100000
set_option maxHeartbeats 4000000
namespace Go.Proofs.YtglncfkoohgdaaaGreatDoor
open Go.RowKit Go.Shelf
open Go.Lib (decDigits itoa nDigits)
open Go.Lib (hid)
theorem aaF:Tryz.prog.underlying 89=some (.struct (Tryz.prog.fieldsOf 89)):=by kernel_rfl
theorem aaG:Tryz.prog.stoodInHeld 89=false:=by kernel_rfl
theorem aaH:Tryz.prog.eqGuardType Tryz.prog.depth 89=false:=by kernel_rfl
theorem aeZ (x y z:ByteArray) (w:World):(binOp .neq 89 (.agg #[.string x,.string y,.string z]) (.agg #[.string x,.string y,.string z])).run Tryz.prog w=.ok (.bool false) w:=by
 rw [run_neq_struct,run_equalIn_struct _ 9999 _ _ _ aaF aaG]
 have hf:(Tryz.prog.fieldsOf 89).toList=[(Tryz.prog.fieldsOf 89)[0]!,(Tryz.prog.fieldsOf 89)[1]!,(Tryz.prog.fieldsOf 89)[2]!]:=by kernel_rfl
 have t0:((Tryz.prog.fieldsOf 89)[0]!).type=9:=by kernel_rfl
 have t1:((Tryz.prog.fieldsOf 89)[1]!).type=33:=by kernel_rfl
 have t2:((Tryz.prog.fieldsOf 89)[2]!).type=33:=by kernel_rfl
 have o0:((Tryz.prog.fieldsOf 89)[0]!).offset=0:=by kernel_rfl
 have o1:((Tryz.prog.fieldsOf 89)[1]!).offset=1:=by kernel_rfl
 have o2:((Tryz.prog.fieldsOf 89)[2]!).offset=2:=by kernel_rfl
 have n0 : ((Tryz.prog.fieldsOf 89)[0]!).name ≠ "_" := of_decide_eq_true (by kernel_rfl)
 have n1 : ((Tryz.prog.fieldsOf 89)[1]!).name ≠ "_" := of_decide_eq_true (by kernel_rfl)
 have n2 : ((Tryz.prog.fieldsOf 89)[2]!).name ≠ "_" := of_decide_eq_true (by kernel_rfl)
 have hp:∀ (t:TypeId) (cs:Array Value) (i:Nat) (v:Value),(isAgg t).run Tryz.prog w=.ok false w→cs[i]?=some v→(part t cs i).run Tryz.prog w=.ok v w:=by
  intro t cs i v ha h
  unfold part
  simp only [Sem.run_bind,ha,Result.andThen_ok,Bool.false_eq_true,if_false,h,Sem.run_pure]
 have a9:(isAgg 9).run Tryz.prog w=.ok false w:=Tryz.isAgg9 _
 have a33:(isAgg 33).run Tryz.prog w=.ok false w:=Tryz.isAgg33 _
 rw [hf]
 simp only [Op.eqFields,if_pos n0,if_pos n1,if_pos n2,t0,t1,t2,o0,o1,o2,Sem.run_bind]
 rw [hp _ _ 0 (.string x) a9 rfl]
 simp only [Result.andThen_ok]
 rw [hp _ _ 0 (.string x) a9 rfl]
 simp only [Result.andThen_ok]
 rw [run_equalIn_string w 9998 _ _ _ Tryz.underlying9]
 simp only [Result.andThen_ok,BEq.rfl,Bool.not_true,Bool.false_eq_true,if_false,Sem.run_bind]
 rw [hp _ _ 1 (.string y) a33 rfl]
 simp only [Result.andThen_ok]
 rw [hp _ _ 1 (.string y) a33 rfl]
 simp only [Result.andThen_ok]
 rw [run_equalIn_string w 9998 _ _ _ Tryz.underlying33]
 simp only [Result.andThen_ok,BEq.rfl,Bool.not_true,Bool.false_eq_true,if_false,Sem.run_bind]
 rw [hp _ _ 2 (.string z) a33 rfl]
 simp only [Result.andThen_ok]
 rw [hp _ _ 2 (.string z) a33 rfl]
 simp only [Result.andThen_ok]
 rw [run_equalIn_string w 9998 _ _ _ Tryz.underlying33]
 simp
theorem XX (op:BinOp) (a b:Operand) (xs ys:Array Value) (w:World):(eqGuard op 89 a b (.agg xs) (.agg ys)).run Tryz.prog w=.ok () w:=run_eqGuard_agg w op _ a b xs ys aaH
theorem XY (v u:Value) (L:List Iv) (w:World) (hv:gq w v L) (hu:gq w u L):Calls Tryz.prog 81 #[v,u] w (RV (.bool true) w):=by
 obtain ⟨p,c,rfl,hc,hm⟩:=hv.slice
 obtain ⟨p',c',rfl,hc',hm'⟩:=hu.slice
 unfold maxLen at hm
 have HV:=hid hv
 have HU:=hid hu
 have hbw:=Below.refl w.heap.size w
 generalize hn:L.length=n at *
 have HN:=hid hn
 have hguard:=XX
 clear hv hu hn
 go_enter Tryz.func81,Tryz.ntmps81
 go_wp2_with fail
 go_loopw [5,4] (fun iv rv wr=>∃ k:Nat,k≤n∧iv=.int .i64 (k:Int)∧rv=.bool false∧Below w.heap.size w wr) (fun iv _ _=>n-(intOf iv).toNat)
 case atStart=>exact ⟨0,Nat.zero_le _,rfl,rfl,hbw⟩
 case round =>
  obtain ⟨k,hkn,rfl,rfl,hbr⟩:=hrel
  by_cases hk:k<n
  ·obtain ⟨b,off,rfl,hbl,c0,c1,c2⟩:=(HV.out.below hbr).at (show k<L.length by rw [HN.out];exact hk)
   obtain ⟨b',off',rfl,abK,d0,d1,d2⟩:=(HU.out.below hbr).at (show k<L.length by rw [HN.out];exact hk)
   have hkk:decide ((k:Int)<(n:Int))=true:=decide_eq_true (by omega)
   have i1:(0:Int)≤(k:Int):=by omega
   have i2:(k:Int)<(n:Int):=by omega
   generalize us (ah L k).u=x at *
   generalize tx (ah L k).a=y at *
   generalize tx (ah L k).b=z at *
   have hneq:=aeZ x y z
   go_wp2_with fail
   go_quiet (fail)
   go_wp2
   refine ⟨⟨k+1,hk,aH k,rfl,hbr.trans ((below_drewN wr _).mono hbr.size)⟩,?_⟩
   show n-((k:Int)+1).toNat<n-((k:Int)).toNat
   omega
  ·have hkk:decide ((k:Int)<(n:Int))=false:=decide_eq_false (by omega)
   obtain rfl:k=n:=by omega
   go_wp2
   go_ret
   exact ⟨rfl,hbr⟩
theorem XZ (v u:Value) (L:List Iv) (w:World) (hv:gq w v L) (hu:gq w u L):Calls Tryz.prog 27 #[v,u] w (RV (.bool true) w):=by
 have H:=hid (XY v u L w hv hu)
 unfold RV at H
 clear hv hu
 go_enter Tryz.func27,Tryz.ntmps27
 go_wp2_with fail
 refine H.out.mono ?_
 rintro e w1 ⟨rfl,hb1⟩
 go_wp2
 go_ret
 exact ⟨rfl,hb1⟩
end Go.Proofs.YtglncfkoohgdaaaGreatDoor
namespace Go.Proofs.YtglncfkoohgdaaaGreatDoor
open Go.RowKit Go.Shelf
open Go.Lib (decDigits itoa nDigits)
open Go.Lib (hid)
attribute [local go_sem] Oper.semAt_some
theorem X0 (v u:Value) (A B:List (lH × Value)) (hAB:A.map (·.1)=B.map (·.1)) (hn:A.length≤1000) (w:World) (hv:tJ w v A) (hu:tJ w u B):Calls Tryz.prog 16 #[v,u] w (RV (.bool true) w):=by
 obtain ⟨p,c,rfl,hc,hm⟩:=hv.slice
 obtain ⟨p',c',rfl,hc',hm'⟩:=hu.slice
 have hl:B.length=A.length:=by have:=congrArg List.length hAB;rw [List.length_map,List.length_map] at this;exact this.symm
 rw [hl] at hc' hu ⊢
 unfold maxLen at hm hm'
 have HV:=hid hv
 have HU:=hid hu
 have HAB:=hid hAB
 have hbw:=Below.refl w.heap.size w
 generalize hnn:A.length=n at *
 have HN:=hid hnn
 have HL:=hid hl
 clear hv hu hnn hAB hl
 go_enter Tryz.func16,Tryz.ntmps16
 go_wp2_with fail
 go_loopw [5,4] (fun iv rv wr=>∃ i:Nat,i≤n∧iv=.int .i64 (i:Int)∧rv=.bool false∧Below w.heap.size w wr) (fun iv _ _=>n-(intOf iv).toNat)
 case atStart=>exact ⟨0,Nat.zero_le _,rfl,rfl,hbw⟩
 case round =>
  obtain ⟨i,hin,rfl,rfl,hbr⟩:=hrel
  by_cases hi:i<n
  ·obtain ⟨⟨⟨k,un,pg⟩,vx⟩,hx⟩ : ∃ x,A[i]?=some x:=⟨_,List.getElem?_eq_getElem (by rw [HN.out];exact hi)⟩
   obtain ⟨⟨bd,vy⟩,hy⟩ : ∃ x,B[i]?=some x:=⟨_,List.getElem?_eq_getElem (by rw [HL.out];exact hi)⟩
   have hxy:(⟨k,un,pg⟩ : lH)=bd:=by
    have h1:(A.map (·.1))[i]?=some ⟨k,un,pg⟩:=by rw [List.getElem?_map,hx];rfl
    have h2:(B.map (·.1))[i]?=some bd:=by rw [List.getElem?_map,hy];rfl
    rw [HAB.out,h2] at h1
    exact (Option.some.inj h1).symm
   subst hxy
   obtain ⟨b,off,rfl,hbl,c0,c1,c2,hp1⟩:=(HV.out.below hbr).at hx
   obtain ⟨b2,oC,rfl,Ie,d0,d1,d2,hp2⟩:=(HU.out.below hbr).at hy
   dsimp only at c0 c1 c2 d0 d1 d2 hp1 hp2
   have HEQ:=hid (fun W' (hb:Below wr.heap.size wr W')=>TW TV vx vy (pg.map aQ) (pg.map aQ) W' (ik.below hp1.1 hb) (ik.below hp2.1 hb))
   have tu:=hid hbr
   have hkk:decide ((i:Int)<(n:Int))=true:=decide_eq_true (by omega)
   have i1:(0:Int)≤(i:Int):=by omega
   have i2:(i:Int)<(n:Int):=by omega
   rw [decide_eq_true (rfl:pg.map aQ=pg.map aQ)] at HEQ
   have e1:((k:Int) != (k:Int))=false:=by simp
   generalize us un=su at *
   have e2:(su.toList == su.toList)=true:=by simp
   generalize (k:Int)=kk at *
   clear hp1 hp2 hx hy hbr
   go_wp2_with fail
   refine gJ (fun W'=>Below wr.heap.size wr W') (.take 0 (.take 1 (.take 2 (.take 3 (.take 4 (.take 5 (.take 6 (.take 7 (.take 8 (.take 9 (.take 10 (.take 11 (.take 12 (.take 13 (.take 14 (.take 15 (.take 16 (.take 17 (.take 18 (.take 19 (.take 20 (.take 21 (.take 22 (.take 23 (.take 24 (.take 25 (.take 26 (.take 27 (.take 28 (.take 29 (.take 30 (.take 31 (.take 32 (.take 33 (.take 34 (.one 35 (.take 36 .fin))))))))))))))))))))))))))))))))))))) 37 (by kernel_rfl) (by kernel_rfl) ⟨rfl,rfl,rfl,Nat.le_refl _,fun _ _=>rfl⟩ ?_
   have cO:Below wr.heap.size wr wr.drew:=⟨rfl,rfl,rfl,Nat.le_refl _,fun _ _=>rfl⟩
   generalize wr.drew=dP at *
   iterate 35
    refine aD rfl ?_ rfl ?_ ?_
    rotate_left
    ·intro W' hS'
     have s0:=(hS'.cell (p:=⟨b,off+i*3,none⟩) hbl).trans c0
     have s1:=(hS'.cell (p:=⟨b,off+i*3+1,none⟩) hbl).trans c1
     have s2:=(hS'.cell (p:=⟨b,off+i*3+2,none⟩) hbl).trans c2
     have s3:=(hS'.cell (p:=⟨b2,oC+i*3,none⟩) Ie).trans d0
     have s4:=(hS'.cell (p:=⟨b2,oC+i*3+1,none⟩) Ie).trans d1
     have s5:=(hS'.cell (p:=⟨b2,oC+i*3+2,none⟩) Ie).trans d2
     go_simp
     try with_reducible rfl
    try simp only [zA,zB,zC,Act.put,zD,zE,zF]
   refine af rfl rfl (fun K hK=>?_)
   go_simp
   refine (HEQ.out _ (cO)).mono ?_
   rintro e gy ⟨rfl,bR⟩
   have hP1:=cO.trans (bR.mono cO.size)
   refine hK _ _ ⟨hP1,?_⟩
   clear hK K
   try simp only [zA,zB,zC,Act.put,zD,zE,zF]
   refine aD rfl ?_ rfl ?_ ?_
   rotate_left
   ·intro W' hS'
    have s0:=(hS'.cell (p:=⟨b,off+i*3,none⟩) hbl).trans c0
    have s1:=(hS'.cell (p:=⟨b,off+i*3+1,none⟩) hbl).trans c1
    have s2:=(hS'.cell (p:=⟨b,off+i*3+2,none⟩) hbl).trans c2
    have s3:=(hS'.cell (p:=⟨b2,oC+i*3,none⟩) Ie).trans d0
    have s4:=(hS'.cell (p:=⟨b2,oC+i*3+1,none⟩) Ie).trans d1
    have s5:=(hS'.cell (p:=⟨b2,oC+i*3+2,none⟩) Ie).trans d2
    go_simp
    try with_reducible rfl
   try simp only [zA,zB,zC,Act.put,zD,zE,zF]
   unfold bU
   simp only [List.drop_succ_cons,List.drop_zero]
   have eH:=hid (tu.out.trans (hP1.mono tu.out.size))
   go_wp2
   refine ag.mk ?_
   go_wp2
   refine ⟨⟨i+1,hi,aH i,rfl,eH.out⟩,?_⟩
   show n-((i:Int)+1).toNat<n-((i:Int)).toNat
   omega
  ·have hkk:decide ((i:Int)<(n:Int))=false:=decide_eq_false (by omega)
   obtain rfl:i=n:=by omega
   go_wp2
   go_ret
   exact ⟨rfl,hbr⟩
end Go.Proofs.YtglncfkoohgdaaaGreatDoor
namespace Go.Proofs.YtglncfkoohgdaaaGreatDoor
instance:DecidableEq Iv:=fun a b=>decidable_of_iff (a.u=b.u∧a.a=b.a∧a.b=b.b) ⟨fun ⟨h1,h2,h3⟩=>by cases a;cases b;simp_all,fun h=>by rw [h];exact ⟨rfl,rfl,rfl⟩⟩
def vC:dB:=⟨[[⟨[97],0,2⟩,⟨[98],2,4⟩],[⟨[97],0,3⟩]],[0,10],[0,0],⟨1,1,1,1⟩⟩
theorem Gf {q:Rat} {n:Nat} (k:Int) (h:k.natAbs≤n) (e:q*2=(k:Rat)):H2 n q:=⟨k,h,e⟩
theorem PH:dw vC:=by
 have hz:H2 64 0:=Gf 0 (by decide) (by decide +kernel)
 have two:∀ (P:Nat→Prop),P 0→P 1→∀ k,k<2→P k:=fun P h0 h1 k hk=>by
  match k,hk with
  | 0,_=>exact h0
  | 1,_=>exact h1
 have one:∀ (P:Nat→Prop),P 0→∀ k,k<1→P k:=fun P h0 k hk=>by
  match k,hk with
  | 0,_=>exact h0
 have u97:qZ [97]:=.inr ⟨97,rfl,by decide,by decide⟩
 have u98:qZ [98]:=.inr ⟨98,rfl,by decide,by decide⟩
 have h2':H2 64 2:=Gf 4 (by decide) (by decide +kernel)
 have h3':H2 64 3:=Gf 6 (by decide) (by decide +kernel)
 have h4':H2 64 4:=Gf 8 (by decide) (by decide +kernel)
 have h10:H2 64 10:=Gf 20 (by decide) (by decide +kernel)
 have h1':H2 16 1:=Gf 2 (by decide) (by decide +kernel)
 refine ⟨by decide,by decide,rfl,rfl,?_,?_,?_,?_,?_,⟨h1',h1',h1',h1'⟩,⟨by decide +kernel,by decide +kernel,by decide +kernel,by decide +kernel⟩⟩
 ·refine two _ ⟨⟨by decide,two _ u97 u98,two _ ⟨hz.ok (by decide),h2'.ok (by decide)⟩ ⟨h2'.ok (by decide),h4'.ok (by decide)⟩,two _ ⟨by decide +kernel,by decide +kernel⟩ ⟨by decide +kernel,by decide +kernel⟩,fun i hi=>?_⟩,by decide⟩ ⟨⟨by decide,one _ u97,one _ ⟨hz.ok (by decide),h3'.ok (by decide)⟩,one _ ⟨by decide +kernel,by decide +kernel⟩,fun i hi=>?_⟩,by decide⟩
  ·have hi':i+1<2:=hi
   obtain rfl:i=0:=by omega
   decide +kernel
  ·have hi':i+1<1:=hi
   omega
 ·intro k i hk
  revert i
  revert k
  exact two (fun k=>∀ i,i<(ai vC k).length→H2 64 (ah (ai vC k) i).a∧H2 64 (ah (ai vC k) i).b) (two _ ⟨hz,h2'⟩ ⟨h2',h4'⟩) (one _ ⟨hz,h3'⟩)
 ·exact two _ hz h10
 ·exact two _ hz hz
 ·intro k hk
  have hk':k+1<2:=hk
  obtain rfl:k=0:=by omega
  decide +kernel
theorem ac7:jM vC 1=3:=by decide +kernel
theorem aaI:F5 vC=[(0,[0,0]),(0,[1])]:=by decide +kernel
theorem X4 {A:List (List UInt8 × Rat)} (h:AR (dA (gD vC)) A):A=[([97],50),([98],20)]:=by
 have hm:∀ u,u∈(dA (gD vC)).map (·.1)↔u=[97]∨u=[98]:=fun u=>by
  have e:(dA (gD vC)).map (·.1)=[[97],[98]]∨(dA (gD vC)).map (·.1)=[[98],[97]]∨(dA (gD vC)).map (·.1)=[[97],[98],[97]]∨(dA (gD vC)).map (·.1)=[[97],[97],[98]]:=by decide +kernel
  rcases e with e | e | e | e <;> rw [e] <;> simp <;> grind
 have s1:jA (dA (gD vC)) [97]=50:=by decide +kernel
 have s2:jA (dA (gD vC)) [98]=20:=by decide +kernel
 have hA:∀ a∈A,a=([97],50)∨a=([98],20):=fun a ha=>by
  have h1:=(hm a.1).1 ((h.mem a.1).1 (List.mem_map_of_mem ha))
  have h2:=h.sum a ha
  rcases h1 with e | e
  ·left;rw [e,s1] at h2;exact Prod.ext e h2
  ·right;rw [e,s2] at h2;exact Prod.ext e h2
 have i1:[97]∈A.map (·.1):=(h.mem _).2 ((hm _).2 (.inl rfl))
 have i2:[98]∈A.map (·.1):=(h.mem _).2 ((hm _).2 (.inr rfl))
 have hp:=h.GG
 match A,hA,i1,i2,hp with
 | [],_,i1,_,_=>simp at i1
 | [a],hA,i1,i2,_ =>
  simp at i1 i2
  rw [←i1] at i2
  simp at i2
 | [a,b],hA,_,_,hp =>
  have ha:=hA a (by simp)
  have hb:=hA b (by simp)
  simp at hp
  rcases ha with rfl | rfl <;> rcases hb with rfl | rfl
  ·exact absurd hp (by decide)
  ·rfl
  ·exact absurd hp (by decide)
  ·exact absurd hp (by decide)
 | a :: b :: c :: r,hA,_,_,hp =>
  exfalso
  have ha:=hA a (by simp)
  have hb:=hA b (by simp)
  have hc:=hA c (by simp)
  simp at hp
  obtain ⟨⟨h1,h2,_⟩,⟨h3,_⟩,_⟩:=hp
  rcases ha with rfl | rfl <;> rcases hb with rfl | rfl <;> rcases hc with rfl | rfl <;> first | exact absurd h1 (by decide) | exact absurd h2 (by decide) | exact absurd h3 (by decide)
theorem ae0:atX vC 5=[⟨[97],0,5/2⟩,⟨[98],5/2,7/2⟩]:=by decide +kernel
theorem agt:Fc 64 4 5:=⟨20,by decide,by decide +kernel⟩
end Go.Proofs.YtglncfkoohgdaaaGreatDoor
namespace Go.Proofs.YtglncfkoohgdaaaGreatDoor
open Go.RowKit Go.Shelf
open Go.Lib (decDigits itoa nDigits)
attribute [local go_sem] Oper.semAt_some
theorem X6:tx 0=⟨#[48]⟩:=tx0
theorem agu:tx 2=⟨#[50]⟩:=um adw
theorem ae1:tx 10=⟨#[49,48]⟩:=um (by rw [nZ (n:=((10:Nat):Int)) (d:=1) (by decide +kernel) (by decide +kernel),yg (by decide) (by decide)];decide)
theorem ae2:tx 50=⟨#[53,48]⟩:=um (by rw [nZ (n:=((50:Nat):Int)) (d:=1) (by decide +kernel) (by decide +kernel),yg (by decide) (by decide)];decide)
theorem ae3:tx 20=⟨#[50,48]⟩:=um (by rw [nZ (n:=((20:Nat):Int)) (d:=1) (by decide +kernel) (by decide +kernel),yg (by decide) (by decide)];decide)
theorem ac8:tx (5/2)=⟨#[53,47,50]⟩:=um (by rw [nZ (n:=((5:Nat):Int)) (d:=2) (by decide +kernel) (by decide +kernel),qP (by decide) (by decide)];decide)
theorem ac9:tx (7/2)=⟨#[55,47,50]⟩:=um (by rw [nZ (n:=((7:Nat):Int)) (d:=2) (by decide +kernel) (by decide +kernel),qP (by decide) (by decide)];decide)
theorem PI {W:World} {B:Nat} {x y:Iv} {fz:Nat × Nat} {t:TypeId} (h:W.heap[B]?=some (.cells #[.string (us x.u),.string (tx x.a),.string (tx x.b),.string (us y.u),.string (tx y.a),.string (tx y.b)] t fz)):gq W (.slice (some ⟨B,0,none⟩) 2 2) [x,y]:=by
 refine ⟨_,2,rfl,Nat.le_refl _,by decide,fun _=>⟨B,0,rfl,aa h,fun i hi=>?_⟩⟩
 match i,hi with
 | 0,_=>exact ⟨by simp [World.cell?,h,ah],by simp [World.cell?,h,ah],by simp [World.cell?,h,ah]⟩
 | 1,_=>exact ⟨by simp [World.cell?,h,ah],by simp [World.cell?,h,ah],by simp [World.cell?,h,ah]⟩
theorem aaJ {W:World} {B:Nat} {x:Iv} {fz:Nat × Nat} {t:TypeId} (h:W.heap[B]?=some (.cells #[.string (us x.u),.string (tx x.a),.string (tx x.b)] t fz)):gq W (.slice (some ⟨B,0,none⟩) 1 1) [x]:=by
 refine ⟨_,1,rfl,Nat.le_refl _,by decide,fun _=>⟨B,0,rfl,aa h,fun i hi=>?_⟩⟩
 match i,hi with
 | 0,_=>exact ⟨by simp [World.cell?,h,ah],by simp [World.cell?,h,ah],by simp [World.cell?,h,ah]⟩
theorem K9 {W:World} {B:Nat} {a b:Rat} {fz:Nat × Nat} {t:TypeId} (h:W.heap[B]?=some (.cells #[.string (tx a),.string (tx b)] t fz)):nO W (.slice (some ⟨B,0,none⟩) 2 2) ([a,b].map tx):=by
 refine ⟨_,2,rfl,Nat.le_refl _,by decide,fun _=>⟨B,0,rfl,aa h,fun i hi=>?_⟩⟩
 match i,hi with
 | 0,_=>simp [World.cell?,h]
 | 1,_=>simp [World.cell?,h]
theorem Ru {W0 W:World} {a b c d e:Obj} (h:W=((((W0.alloc a).alloc b).alloc c).alloc d).alloc e):Below W0.heap.size W0 W∧W.heap[W0.heap.size]?=some a∧W.heap[W0.heap.size+1]?=some b∧W.heap[W0.heap.size+1+1]?=some c∧W.heap[W0.heap.size+1+1+1]?=some d∧W.heap[W0.heap.size+1+1+1+1]?=some e:=by
 obtain ⟨h1,h2,h3,h4,h5⟩:=aex (W:=W0) (q:=a) (a:=b) (b:=c) (c:=d) rfl
 have hb:=ae ((((W0.alloc a).alloc b).alloc c).alloc d) e
 rw [h]
 refine ⟨h1.trans (hb.mono h1.size),(hb.block _ (lt_of_some h2)).trans h2,(hb.block _ (lt_of_some h3)).trans h3,(hb.block _ (lt_of_some h4)).trans h4,(hb.block _ (lt_of_some h5)).trans h5,?_⟩
 rw [show W0.heap.size+1+1+1+1=((((W0.alloc a).alloc b).alloc c).alloc d).heap.size by simp]
 exact World.alloc_heap_new _ _
theorem aaK {W:World} {b1 b2 b3 b4 b5:Nat} {t1 t2 t3 t4 t5:TypeId} {f1 f2 f3 f4 f5:Nat × Nat} (h1:W.heap[b1]?=some (.cells #[.string ⟨#[97]⟩,.string ⟨#[48]⟩,.string ⟨#[50]⟩,.string ⟨#[98]⟩,.string ⟨#[50]⟩,.string ⟨#[52]⟩] t1 f1)) (h2:W.heap[b2]?=some (.cells #[.string ⟨#[97]⟩,.string ⟨#[48]⟩,.string ⟨#[51]⟩] t2 f2))
  (h3:W.heap[b3]?=some (.cells #[.slice (some ⟨b1,0,none⟩) 2 2,.slice (some ⟨b2,0,none⟩) 1 1] t3 f3)) (h4:W.heap[b4]?=some (.cells #[.string ⟨#[48]⟩,.string ⟨#[49,48]⟩] t4 f4)) (h5:W.heap[b5]?=some (.cells #[.string ⟨#[48]⟩,.string ⟨#[48]⟩] t5 f5)) :
  ma W (.slice (some ⟨b3,0,none⟩) 2 2) (.slice (some ⟨b4,0,none⟩) 2 2) (.slice (some ⟨b5,0,none⟩) 2 2) vC:=by
 rw [←X6,←agu,←afu] at h1
 rw [←X6,←adA] at h2
 rw [←X6,←ae1] at h4
 rw [←X6] at h5
 refine ⟨⟨_,2,rfl,Nat.le_refl _,by decide,fun _=>⟨b3,0,rfl,aa h3,fun k hk=>?_⟩⟩,K9 h4,K9 h5⟩
 match k,hk with
 | 0,_=>exact ⟨_,by simp [World.cell?,h3],PI (x:=⟨[97],0,2⟩) (y:=⟨[98],2,4⟩) h1⟩
 | 1,_=>exact ⟨_,by simp [World.cell?,h3],aaJ (x:=⟨[97],0,3⟩) h2⟩
theorem La (w:World):Calls Tryz.prog 45 #[] w fun e w'=>∃ vg va vt,e=.returned (j6 vg va vt vC.cs)∧ma w' vg va vt vC∧Below w.heap.size w w':=by
 go_enter Tryz.func45,Tryz.ntmps45
 go_wp2
 obtain ⟨W0,hW0⟩ : ∃ W0,W0=w.alloc (Obj.cells #[.slice (some ⟨w.heap.size+1+1+1,0,none⟩) 2 2,.slice (some ⟨w.heap.size+1+1+1+1,0,none⟩) 2 2,.slice (some ⟨w.heap.size+1+1+1+1+1,0,none⟩) 2 2,.string ⟨#[49]⟩,.string ⟨#[49]⟩,.string ⟨#[49]⟩,.string ⟨#[49]⟩] 37):=⟨_,rfl⟩
 rw [←hW0]
 obtain ⟨W,hW⟩ : ∃ W,W=((((W0.alloc (Obj.cells #[.string ⟨#[97]⟩,.string ⟨#[48]⟩,.string ⟨#[50]⟩,.string ⟨#[98]⟩,.string ⟨#[50]⟩,.string ⟨#[52]⟩] 89)).alloc (Obj.cells #[.string ⟨#[97]⟩,.string ⟨#[48]⟩,.string ⟨#[51]⟩] 89)).alloc (Obj.cells #[.slice (some ⟨w.heap.size+1,0,none⟩) 2 2,.slice (some ⟨w.heap.size+1+1,0,none⟩) 1 1] 66)).alloc (Obj.cells #[.string ⟨#[48]⟩,.string ⟨#[49,48]⟩] 33)).alloc (Obj.cells #[.string ⟨#[48]⟩,.string ⟨#[48]⟩] 33):=⟨_,rfl⟩
 rw [←hW]
 have hs:W0.heap.size=w.heap.size+1:=by rw [hW0];simp
 have hb0:Below w.heap.size w W0:=by rw [hW0];exact ae _ _
 have k00:=World.alloc_heap_new w (Obj.cells #[.slice (some ⟨w.heap.size+1+1+1,0,none⟩) 2 2,.slice (some ⟨w.heap.size+1+1+1+1,0,none⟩) 2 2,.slice (some ⟨w.heap.size+1+1+1+1+1,0,none⟩) 2 2,.string ⟨#[49]⟩,.string ⟨#[49]⟩,.string ⟨#[49]⟩,.string ⟨#[49]⟩] 37)
 rw [←hW0] at k00
 obtain ⟨hb,k1,k2,k3,k4,k5⟩:=Ru hW
 have k0:=(hb.block _ (lt_of_some k00)).trans k00
 rw [hs] at k1 k2 k3 k4 k5
 obtain ⟨q0,q1,q2,q3,q4,q5,q6⟩:=au k0
 have hlow:=hb0.trans (hb.mono hb0.size)
 clear hW hW0 hb hb0 k00 hs
 refine bodyPost_ret (v:=.agg #[.slice (some ⟨w.heap.size+1+1+1,0,none⟩) 2 2,.slice (some ⟨w.heap.size+1+1+1+1,0,none⟩) 2 2,.slice (some ⟨w.heap.size+1+1+1+1+1,0,none⟩) 2 2,.string ⟨#[49]⟩,.string ⟨#[49]⟩,.string ⟨#[49]⟩,.string ⟨#[49]⟩]) (by simp [results,Tryz.results45,go_sem,q0,q1,q2,q3,q4,q5,q6]) rfl ?_
 refine ⟨_,_,_,?_,aaK k1 k2 k3 k4 k5,hlow⟩
 show _=Ending.returned (.agg #[_,_,_,.string (tx 1),.string (tx 1),.string (tx 1),.string (tx 1)])
 rw [tx1]
end Go.Proofs.YtglncfkoohgdaaaGreatDoor
namespace Go.Proofs.YtglncfkoohgdaaaGreatDoor
open Go.RowKit Go.Shelf
open Go.Lib (decDigits itoa nDigits)
open Go.Lib (hid)
attribute [local go_sem] Oper.semAt_some
theorem aaL:Tryz.prog.underlying 64=some (.struct (Tryz.prog.fieldsOf 64)):=by kernel_rfl
theorem aaM:Tryz.prog.stoodInHeld 64=false:=by kernel_rfl
theorem aaN:Tryz.prog.eqGuardType Tryz.prog.depth 64=false:=by kernel_rfl
theorem ae4 (x y:ByteArray) (w:World):(binOp .eql 64 (.agg #[.string x,.string y]) (.agg #[.string x,.string y])).run Tryz.prog w=.ok (.bool true) w:=by
 rw [run_eql_struct,run_equalIn_struct _ 9999 _ _ _ aaL aaM]
 have hf:(Tryz.prog.fieldsOf 64).toList=[(Tryz.prog.fieldsOf 64)[0]!,(Tryz.prog.fieldsOf 64)[1]!]:=by kernel_rfl
 have t0:((Tryz.prog.fieldsOf 64)[0]!).type=9:=by kernel_rfl
 have t1:((Tryz.prog.fieldsOf 64)[1]!).type=33:=by kernel_rfl
 have o0:((Tryz.prog.fieldsOf 64)[0]!).offset=0:=by kernel_rfl
 have o1:((Tryz.prog.fieldsOf 64)[1]!).offset=1:=by kernel_rfl
 have n0 : ((Tryz.prog.fieldsOf 64)[0]!).name ≠ "_" := of_decide_eq_true (by kernel_rfl)
 have n1 : ((Tryz.prog.fieldsOf 64)[1]!).name ≠ "_" := of_decide_eq_true (by kernel_rfl)
 have hp:∀ (t:TypeId) (cs:Array Value) (i:Nat) (v:Value),(isAgg t).run Tryz.prog w=.ok false w→cs[i]?=some v→(part t cs i).run Tryz.prog w=.ok v w:=by
  intro t cs i v ha h
  unfold part
  simp only [Sem.run_bind,ha,Result.andThen_ok,Bool.false_eq_true,if_false,h,Sem.run_pure]
 have a9:(isAgg 9).run Tryz.prog w=.ok false w:=Tryz.isAgg9 _
 have a33:(isAgg 33).run Tryz.prog w=.ok false w:=Tryz.isAgg33 _
 rw [hf]
 simp only [Op.eqFields,if_pos n0,if_pos n1,t0,t1,o0,o1,Sem.run_bind]
 rw [hp _ _ 0 (.string x) a9 rfl]
 simp only [Result.andThen_ok]
 rw [hp _ _ 0 (.string x) a9 rfl]
 simp only [Result.andThen_ok]
 rw [run_equalIn_string w 9998 _ _ _ Tryz.underlying9]
 simp only [Result.andThen_ok,BEq.rfl,Bool.not_true,Bool.false_eq_true,if_false,Sem.run_bind]
 rw [hp _ _ 1 (.string y) a33 rfl]
 simp only [Result.andThen_ok]
 rw [hp _ _ 1 (.string y) a33 rfl]
 simp only [Result.andThen_ok]
 rw [run_equalIn_string w 9998 _ _ _ Tryz.underlying33]
 simp
theorem X7 (op:BinOp) (a b:Operand) (xs ys:Array Value) (w:World):(eqGuard op 64 a b (.agg xs) (.agg ys)).run Tryz.prog w=.ok () w:=run_eqGuard_agg w op _ a b xs ys aaN
theorem agv {T:List vD} (h:T.map (·.1)=F5 vC):∃ a b,T=[((0,[0,0]),a),((0,[1]),b)]:=by
 rw [aaI] at h
 match T,h with
 | [],h=>simp at h
 | [x],h=>simp at h
 | x :: y :: z :: r,h=>simp at h
 | [x,y],h =>
  simp only [List.map_cons,List.map_nil,List.cons.injEq,and_true] at h
  exact ⟨x.2,y.2,by rw [←h.1,←h.2]⟩
theorem ada {base:Nat} {W:World} {v:Value} {T:List vD} (hT:T.map (·.1)=F5 vC) (h:DJ base W v T):∃ g c pa ca pb cb,v=.slice (some ⟨g,0,none⟩) 2 c∧g<W.heap.size∧W.cell? ⟨g,1,none⟩=some (.slice pa 2 ca)∧W.cell? ⟨g,3,none⟩=some (.slice pb 1 cb):=by
 obtain ⟨a,b,rfl⟩:=agv hT
 obtain ⟨g,c,rfl⟩:=ownsRow_succ (k:=1) h.row
 obtain ⟨pa,ca,rfl⟩ : ∃ p c,a=.slice p 2 c:=by obtain ⟨_,p,c,h,_⟩:=Reads.bO (h.own ((0,[0,0]),a) (by simp));exact ⟨p,c,h⟩
 obtain ⟨pb,cb,rfl⟩ : ∃ p c,b=.slice p 1 c:=by obtain ⟨_,p,c,h,_⟩:=Reads.bO (h.own ((0,[1]),b) (by simp));exact ⟨p,c,h⟩
 have c1:=dG h.row rfl (j:=1) (u:=.slice pa 2 ca) rfl
 have c3:=dG h.row rfl (j:=3) (u:=.slice pb 1 cb) rfl
 exact ⟨g,c,pa,ca,pb,cb,rfl,c1.2.2.1,c1.1,c3.1⟩
theorem adb {W:World} {v:Value} {A:List (List UInt8 × Rat)} (hA:AR (dA (gD vC)) A) (h:ik W v (A.map R4)):∃ b o c,v=.slice (some ⟨b,o,none⟩) 2 c∧b<W.heap.size∧W.cell? ⟨b,o,none⟩=some (.string ⟨#[97]⟩)∧W.cell? ⟨b,o+1,none⟩=some (.string ⟨#[53,48]⟩)∧W.cell? ⟨b,o+2,none⟩=some (.string ⟨#[98]⟩)∧W.cell? ⟨b,o+3,none⟩=some (.string ⟨#[50,48]⟩):=by
 rw [X4 hA] at h
 obtain ⟨p,c,rfl,_,_,hx⟩:=h
 obtain ⟨b,o,rfl,hb,hc⟩:=hx (by decide)
 have h0:=hc 0 (by decide)
 have h1:=hc 1 (by decide)
 refine ⟨b,o,c,rfl,hb,h0.1,h0.2.trans ?_,h1.1,h1.2.trans ?_⟩
 ·show some (Value.string (tx 50))=_
  rw [ae2]
 ·show some (Value.string (tx 20))=_
  rw [ae3]
theorem Gg {w:World} (hw:Good w):Calls Tryz.prog 12 #[] w (RV (.bool true) w):=by
 have HEX:=hid (La w)
 have Lb:j6=fun vg va vt C=>.agg #[vg,va,vt,.string (tx C.ch),.string (tx C.mi),.string (tx C.ga),.string (tx C.re)]:=rfl
 go_enter Tryz.func12,Tryz.ntmps12
 go_wp2_with fail
 refine HEX.out.mono ?_
 rintro e w1 ⟨vg,va,vt,rfl,hP,hb1⟩
 obtain ⟨pg,cg,rfl⟩ : ∃ p c,vg=.slice p 2 c:=by obtain ⟨p,c,h,_⟩:=hP.g.slice;exact ⟨p,c,h⟩
 obtain ⟨pa,ca,rfl⟩ : ∃ p c,va=.slice p 2 c:=by obtain ⟨p,c,h,_⟩:=hP.a.slice;exact ⟨p,c,h⟩
 obtain ⟨pt,ct,rfl⟩ : ∃ p c,vt=.slice p 2 c:=by obtain ⟨p,c,h,_⟩:=hP.t.slice;exact ⟨p,c,h⟩
 have HB1:=hid hb1
 have RL:=hid (fun W' (hb:Below w1.heap.size w1 W')=>Kj (.slice pg 2 cg) (.slice pa 2 ca) (.slice pt 2 ct) vC PH (hP.below hb) (hw.below (hb1.trans (hb.mono hb1.size))))
 have xL:=hid (fun W' (hb:Below w1.heap.size w1 W')=>aaq (.slice pg 2 cg) (.slice pa 2 ca) (.slice pt 2 ct) vC PH (hP.below hb) (hw.below (hb1.trans (hb.mono hb1.size))))
 have ZC:=hid (fun W' (hb:Below w1.heap.size w1 W')=>VI (.slice pg 2 cg) (.slice pa 2 ca) (.slice pt 2 ct) vC PH (hP.below hb) (hw.below (hb1.trans (hb.mono hb1.size))))
 have HAT:=hid (fun W' (hb:Below w1.heap.size w1 W')=>V7 (.slice pg 2 cg) (.slice pa 2 ca) (.slice pt 2 ct) vC 5 agt (by decide +kernel) (by decide +kernel) PH (hP.below hb) (hw.below (hb1.trans (hb.mono hb1.size))))
 rw [show jM vC (vC.lg.length-1)=3 from ac7,adA] at RL
 rw [afv] at HAT
 unfold RV at RL
 simp only [Lb] at RL xL ZC HAT ⊢
 generalize tx vC.cs.ch=c0 at *
 generalize tx vC.cs.mi=c1 at *
 generalize tx vC.cs.ga=c2 at *
 generalize tx vC.cs.re=c3 at *
 clear hP hb1 Lb
 go_upto_region 2 with fail
 obtain ⟨wB,jD⟩ : ∃ wB,wB=w1.alloc (Obj.cells #[.slice pg 2 cg,.slice pa 2 ca,.slice pt 2 ct,.string c0,.string c1,.string c2,.string c3] 37):=⟨_,rfl⟩
 rw [←jD]
 have ja:Below w1.heap.size w1 wB:=by rw [jD];exact ae _ _
 have hoB:wB.heap[w1.heap.size]?=some (.cells #[.slice pg 2 cg,.slice pa 2 ca,.slice pt 2 ct,.string c0,.string c1,.string c2,.string c3] 37 (0,0)):=by rw [jD];exact World.alloc_heap_new _ _
 have eZ:=hid ja
 have HOB:=hid hoB
 obtain ⟨p0,p1,p2,p3,p4,p5,p6⟩:=au hoB
 clear jD ja hoB
 go_wp2_with fail
 refine (RL.out wB eZ.out).mono ?_
 rintro e w2 ⟨rfl,hb2⟩
 have HB2:=hid (eZ.out.trans (hb2.mono eZ.out.size))
 have ho2:=(hb2.block _ (aa HOB.out)).trans HOB.out
 have RA:=hid ho2
 clear p0 p1 p2 p3 p4 p5 p6
 obtain ⟨p0,p1,p2,p3,p4,p5,p6⟩:=au ho2
 clear hb2 ho2
 go_wp2_with fail
 refine (xL.out w2 HB2.out).mono ?_
 rintro e w3 ⟨v4,T,rfl,hT,hbd,hb3⟩
 obtain ⟨gT,cT,pi,ci,pj,cj,rfl,hgT,t1,t3⟩:=ada hT hbd
 have HT1:=hid (And.intro hgT (And.intro t1 t3))
 have HB3:=hid (HB2.out.trans (hb3.mono HB2.out.size))
 have ho3:=(hb3.block _ (aa RA.out)).trans RA.out
 have HO3:=hid ho3
 clear p0 p1 p2 p3 p4 p5 p6 hT hbd hgT t1 t3
 obtain ⟨p0,p1,p2,p3,p4,p5,p6⟩:=au ho3
 clear hb3 ho3
 go_wp2_with fail
 refine (ZC.out w3 HB3.out).mono ?_
 rintro e w4 ⟨v6,A,rfl,hA,hpr,hb4⟩
 obtain ⟨bA,oA,cA,rfl,hlA,a0,a1,a2,a3⟩:=adb hA hpr
 have HA1:=hid (And.intro hlA (And.intro a0 (And.intro a1 (And.intro a2 a3))))
 have aaO:=hid hb4
 have YH:=hid (HB3.out.trans (hb4.mono HB3.out.size))
 have ho4:=(hb4.block _ (aa HO3.out)).trans HO3.out
 clear p0 p1 p2 p3 p4 p5 p6 hA hpr hlA a0 a1 a2 a3
 obtain ⟨p0,p1,p2,p3,p4,p5,p6⟩:=au ho4
 clear hb4 ho4
 go_wp2_with fail
 refine (HAT.out w4 YH.out).mono ?_
 rintro e w5 ⟨v8,rfl,DI,hb5⟩
 rw [ae0] at DI
 obtain ⟨pv,cv,rfl,hcv,MS⟩:=DI.slice
 have HIV:=hid DI
 have t1:=(hb5.cell (p:=⟨gT,1,none⟩) (Nat.lt_of_lt_of_le HT1.out.1 aaO.out.size)).trans ((aaO.out.cell (p:=⟨gT,1,none⟩) HT1.out.1).trans HT1.out.2.1)
 have t3:=(hb5.cell (p:=⟨gT,3,none⟩) (Nat.lt_of_lt_of_le HT1.out.1 aaO.out.size)).trans ((aaO.out.cell (p:=⟨gT,3,none⟩) HT1.out.1).trans HT1.out.2.2)
 have a0:=(hb5.cell (p:=⟨bA,oA,none⟩) HA1.out.1).trans HA1.out.2.1
 have a1:=(hb5.cell (p:=⟨bA,oA+1,none⟩) HA1.out.1).trans HA1.out.2.2.1
 have a2:=(hb5.cell (p:=⟨bA,oA+2,none⟩) HA1.out.1).trans HA1.out.2.2.2.1
 have a3:=(hb5.cell (p:=⟨bA,oA+3,none⟩) HA1.out.1).trans HA1.out.2.2.2.2
 have Av:=hid (HB1.out.trans ((YH.out.trans (hb5.mono YH.out.size)).mono HB1.out.size))
 have hqs:=ae4
 have hgd:=X7
 clear p0 p1 p2 p3 p4 p5 p6 DI hb5 hcv MS
 go_wp2_with fail
 obtain ⟨w6,hw6⟩ : ∃ w6,w6=w5.alloc (Obj.cells #[.string ⟨#[97]⟩,.string ⟨#[48]⟩,.string ⟨#[53,47,50]⟩,.string ⟨#[98]⟩,.string ⟨#[53,47,50]⟩,.string ⟨#[55,47,50]⟩] 89):=⟨_,rfl⟩
 rw [←hw6]
 have hb6:Below w5.heap.size w5 w6:=by rw [hw6];exact ae _ _
 have ho6:w6.heap[w5.heap.size]?=some (.cells #[.string ⟨#[97]⟩,.string ⟨#[48]⟩,.string ⟨#[53,47,50]⟩,.string ⟨#[98]⟩,.string ⟨#[53,47,50]⟩,.string ⟨#[55,47,50]⟩] 89 (0,0)):=by rw [hw6];exact World.alloc_heap_new _ _
 rw [←X6,←ac8,←ac9] at ho6
 have HS:=hid (XZ _ _ _ w6 (HIV.out.below hb6) (PI (x:=⟨[97],0,5/2⟩) (y:=⟨[98],5/2,7/2⟩) ho6))
 unfold RV at HS
 have LF:=hid (Av.out.trans (hb6.mono Av.out.size))
 clear hw6 hb6 ho6 t1 t3 a0 a1 a2 a3 hqs hgd
 refine HS.out.mono ?_
 rintro e w7 ⟨rfl,Fv⟩
 have HB7:=hid (LF.out.trans (Fv.mono LF.out.size))
 clear Fv
 go_wp2
 go_ret
 exact ⟨rfl,HB7.out⟩
end Go.Proofs.YtglncfkoohgdaaaGreatDoor
