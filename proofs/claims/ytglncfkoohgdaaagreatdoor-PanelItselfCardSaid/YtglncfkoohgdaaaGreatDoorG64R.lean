import Derived.Test.YtglncfkoohgdaaaGreatDoorG63R
import Derived.Test.YtglncfkoohgdaaaGreatDoorStillR
set_option maxRecDepth 100000
set_option maxHeartbeats 4000000
namespace Go.Proofs.YtglncfkoohgdaaaGreatDoor
open Go.RowKit Go.Shelf
open Go.Lib (decDigits itoa nDigits)
open Go.Lib (hid)
attribute [local go_sem] Oper.semAt_some
structure PR (W:World) (vo:Value) (T:List iN):Prop where
 row:Reads W 2 vo T.length (gp T)
 own:∀ x∈T,Reads W 1 x.2 x.1.2.length (mq x.1.2)
theorem PR.below {W W':World} {vo:Value} {T:List iN} (h:PR W vo T) (hb:Below W.heap.size W W'):PR W' vo T:=⟨h.row.below hb,fun x hx=>(h.own x hx).below hb⟩
theorem IW.reads {base:Nat} {W:World} {vo:Value} {T:List iN} (h:IW base W vo T):PR W vo T:=⟨Reads.bu h.row,fun x hx=>Reads.bu (h.own x hx)⟩
theorem PR.at {W:World} {p:Option Addr} {n c:Nat} {T:List iN} (h:PR W (.slice p n c) T) {i:Nat} {x:iN} (hx:T[i]?=some x):∃ b off q cq,p=some ⟨b,off,none⟩∧b<W.heap.size∧W.cell? ⟨b,off+i*2,none⟩=some (.int .i64 (x.1.1:Int))∧W.cell? ⟨b,off+i*2+1,none⟩=some (.slice q x.1.2.length cq)∧x.1.2.length≤cq∧cq≤maxLen∧∀ (k y:Nat),x.1.2[k]?=some y→∃ b2 lW,q=some ⟨b2,lW,none⟩∧b2<W.heap.size∧W.cell? ⟨b2,lW+k,none⟩=some (.int .i64 (y:Int)):=by
 obtain ⟨hl,p',c',hv,_,_,hc⟩:=h.row
 cases hv
 obtain ⟨hi,_⟩:=List.getElem?_eq_some_iff.1 hx
 obtain ⟨b,off,rfl,hbl,hcell⟩:=hc (by omega)
 obtain ⟨hl2,q,cq,hq,hcq,IY,hc2⟩:=h.own x (List.mem_of_getElem? hx)
 obtain ⟨g0,g1⟩:=oN T i x hx
 obtain ⟨l0,g0⟩:=List.getElem?_eq_some_iff.1 g0
 obtain ⟨l1,g1⟩:=List.getElem?_eq_some_iff.1 g1
 refine ⟨b,off,q,cq,rfl,hbl,(hcell _ l0).trans (congrArg some g0),(hcell (i*2+1) l1).trans (congrArg some (g1.trans hq)),hcq,IY,fun k y hy=>?_⟩
 obtain ⟨hk,hy⟩:=List.getElem?_eq_some_iff.1 hy
 obtain ⟨b2,lW,e,hb2,h2⟩:=hc2 (by omega)
 refine ⟨b2,lW,e,hb2,(h2 k (by omega)).trans ?_⟩
 unfold mq
 rw [List.getElem_map,hy]
theorem PR.slice {W:World} {v:Value} {T:List iN} (h:PR W v T):∃ p c,v=.slice p T.length c∧T.length≤c∧c≤maxLen:=by
 obtain ⟨_,p,c,hv,h1,h2,_⟩:=h.row
 exact ⟨p,c,hv,h1,h2⟩
theorem yc (v u:Value) (A B:List iN) (hAB:A.map (·.1)=B.map (·.1)) (hn:A.length≤1000) (hn2:∀ x∈A,x.1.2.length≤1000) (w:World) (hv:PR w v A) (hu:PR w u B):Calls Tryz.prog 34 #[v,u] w (RV (.bool true) w):=by
 obtain ⟨p,c,rfl,hc,hm⟩:=hv.slice
 obtain ⟨p',c',rfl,hc',hm'⟩:=hu.slice
 have hl:B.length=A.length:=by have:=congrArg List.length hAB;rw [List.length_map,List.length_map] at this;exact this.symm
 rw [hl] at hc' hu ⊢
 unfold maxLen at hm hm'
 have HV:=hid hv
 have HU:=hid hu
 have HAB:=hid hAB
 have HN2:=hid hn2
 have hbw:=Below.refl w.heap.size w
 generalize hnn:A.length=n at *
 have HN:=hid hnn
 have HL:=hid hl
 clear hv hu hnn hAB hl hn2
 have k0:((n:Int) != (n:Int))=false:=by simp
 go_enter Tryz.func34,Tryz.ntmps34
 go_wp2_with fail
 clear k0
 go_loopw [5,4,6] (fun iv rv _ wr=>∃ i:Nat,i≤n∧iv=.int .i64 (i:Int)∧rv=.bool false∧Below w.heap.size w wr) (fun iv _ _ _=>n-(intOf iv).toNat)
 case atStart=>exact ⟨0,Nat.zero_le _,rfl,rfl,hbw⟩
 case round =>
  obtain ⟨i,hin,rfl,rfl,hbr⟩:=hrel
  generalize wr=wO at *
  have uE:=hid hbr
  by_cases hi:i<n
  ·obtain ⟨⟨⟨fi,L⟩,vx⟩,hx⟩ : ∃ x,A[i]?=some x:=⟨_,List.getElem?_eq_getElem (by rw [HN.out];exact hi)⟩
   obtain ⟨⟨bd,vy⟩,hy⟩ : ∃ x,B[i]?=some x:=⟨_,List.getElem?_eq_getElem (by rw [HL.out];exact hi)⟩
   have hxy:(fi,L)=bd:=by
    have h1:(A.map (·.1))[i]?=some (fi,L):=by rw [List.getElem?_map,hx];rfl
    have h2:(B.map (·.1))[i]?=some bd:=by rw [List.getElem?_map,hy];rfl
    rw [HAB.out,h2] at h1
    exact (Option.some.inj h1).symm
   subst hxy
   have hLm:=HN2.out _ (List.mem_of_getElem? hx)
   obtain ⟨b,off,q,cq,rfl,hbl,c0,c1,hcq,IY,hR⟩:=(HV.out.below hbr).at hx
   obtain ⟨b2,lW,q2,cq2,rfl,DF,d0,d1,agV,afr,hS⟩:=(HU.out.below hbr).at hy
   dsimp only at c0 c1 d0 d1 hcq agV hR hS hLm
   have HR:=hid hR
   have HS:=hid hS
   have HC:=hid (And.intro (And.intro hbl c1) (And.intro DF d1))
   have hkk:decide ((i:Int)<(n:Int))=true:=decide_eq_true (by omega)
   have w5:IntKind.i64.wrap ((i:Int)+1)=(i:Int)+1:=IntWalk.i64_in _ (by omega)
   have i1:(0:Int)≤(i:Int):=by omega
   have i2:(i:Int)<(n:Int):=by omega
   have e1:((fi:Int) != (fi:Int))=false:=by simp
   have e2:((L.length:Int) != (L.length:Int))=false:=by simp
   generalize hmm:L.length=m at *
   have HM:=hid hmm
   generalize (fi:Int)=ff at *
   unfold maxLen at IY afr
   clear hx hy hbr hR hS hmm
   go_wp2_with fail
   have kL:=hid (fun W' (hS':Below wO.heap.size wO W')=>And.intro ((hS'.cell (p:=⟨b,off+i*2,none⟩) hbl).trans c0) (And.intro ((hS'.cell (p:=⟨b,off+i*2+1,none⟩) hbl).trans c1) (And.intro ((hS'.cell (p:=⟨b2,lW+i*2,none⟩) DF).trans d0) ((hS'.cell (p:=⟨b2,lW+i*2+1,none⟩) DF).trans d1))))
   refine fK (fun W'=>Below wO.heap.size wO W') (.take 0 (.take 1 (.take 2 (.take 3 (.take 4 (.take 5 (.take 6 (.take 7 (.take 8 (.take 9 (.take 10 (.take 11 (.take 12 (.take 13 (.take 14 (.take 15 (.take 16 (.take 17 (.take 18 (.take 19 (.take 20 (.take 21 (.take 22 (.take 23 (.take 24 .fin))))))))))))))))))))))))) 25 (by kernel_rfl) (by kernel_rfl) ⟨rfl,rfl,rfl,Nat.le_refl _,fun _ _=>rfl⟩ ?_
   have bZ:Below wO.heap.size wO wO.drew:=⟨rfl,rfl,rfl,Nat.le_refl _,fun _ _=>rfl⟩
   generalize wO.drew=dW at *
   iterate 25
    refine aF rfl ?_ rfl ?_ ?_
    rotate_left
    ·intro W' hS'
     obtain ⟨s0,s1,s2,s3⟩:=kL.out _ hS'
     go_simp
     try with_reducible rfl
    try simp only [zA,zB,zC,Act.put,zD,zE,zF]
   unfold bR
   simp only [List.drop_succ_cons,List.drop_zero]
   have eF:=hid (uE.out.trans (bZ.mono uE.out.size))
   have dY:=hid bZ
   go_wp2
   refine ag.mk ?_
   go_wp2_with fail
   clear c0 c1 d0 d1 e1 e2
   go_loopw [6,4] (fun kv rv wr=>∃ k:Nat,k≤m∧kv=.int .i64 (k:Int)∧rv=.bool false∧Below wO.heap.size wO wr) (fun kv _ _=>m-(intOf kv).toNat)
   case atStart=>exact ⟨0,Nat.zero_le _,rfl,rfl,dY.out⟩
   case round =>
    obtain ⟨k,YU,rfl,rfl,hbr⟩:=hrel
    generalize wr=wI at *
    obtain ⟨⟨hbl,c1⟩,DF,d1⟩:=HC.out
    have c1:=(hbr.cell (p:=⟨b,off+i*2+1,none⟩) hbl).trans c1
    have d1:=(hbr.cell (p:=⟨b2,lW+i*2+1,none⟩) DF).trans d1
    have G8:=hid hbr
    by_cases hk:k<m
    ·obtain ⟨y,hy⟩ : ∃ y,L[k]?=some y:=⟨_,List.getElem?_eq_getElem (by rw [HM.out];exact hk)⟩
     obtain ⟨b3,VK,rfl,KU,x0⟩:=HR.out k y hy
     obtain ⟨b4,afs,rfl,V9,y0⟩:=HS.out k y hy
     have x0:=(hbr.cell (p:=⟨b3,VK+k,none⟩) KU).trans x0
     have y0:=(hbr.cell (p:=⟨b4,afs+k,none⟩) V9).trans y0
     have g1:decide ((k:Int)<(m:Int))=true:=decide_eq_true (by omega)
     have g2:(0:Int)≤(k:Int):=by omega
     have g3:(k:Int)<(m:Int):=by omega
     have w6:IntKind.i64.wrap ((k:Int)+1)=(k:Int)+1:=IntWalk.i64_in _ (by omega)
     have e1:((y:Int) != (y:Int))=false:=by simp
     generalize (y:Int)=yy at *
     have KU:=Nat.lt_of_lt_of_le KU hbr.size
     have V9:=Nat.lt_of_lt_of_le V9 hbr.size
     have hbl:=Nat.lt_of_lt_of_le hbl hbr.size
     have DF:=Nat.lt_of_lt_of_le DF hbr.size
     clear hbr hy
     go_wp2_with fail
     have kL:=hid (fun W' (hS':Below wI.heap.size wI W')=>And.intro ((hS'.cell (p:=⟨b,off+i*2+1,none⟩) hbl).trans c1) (And.intro ((hS'.cell (p:=⟨b2,lW+i*2+1,none⟩) DF).trans d1) (And.intro ((hS'.cell (p:=⟨b3,VK+k,none⟩) KU).trans x0) ((hS'.cell (p:=⟨b4,afs+k,none⟩) V9).trans y0))))
     refine fK (fun W'=>Below wI.heap.size wI W') (.take 0 (.take 1 (.take 2 (.take 3 (.take 4 (.take 5 (.take 6 (.take 7 (.take 8 (.take 9 (.take 10 (.take 11 (.take 12 (.take 13 (.take 14 (.take 15 .fin)))))))))))))))) 16 (by kernel_rfl) (by kernel_rfl) ⟨rfl,rfl,rfl,Nat.le_refl _,fun _ _=>rfl⟩ ?_
     have bZ:Below wI.heap.size wI wI.drew:=⟨rfl,rfl,rfl,Nat.le_refl _,fun _ _=>rfl⟩
     generalize wI.drew=dW at *
     iterate 16
      refine aF rfl ?_ rfl ?_ ?_
      rotate_left
      ·intro W' hS'
       obtain ⟨s0,s1,s2,s3⟩:=kL.out _ hS'
       go_simp
       try with_reducible rfl
      try simp only [zA,zB,zC,Act.put,zD,zE,zF]
     unfold bR
     simp only [List.drop_succ_cons,List.drop_zero]
     have DX:=hid (G8.out.trans (bZ.mono G8.out.size))
     go_wp2
     refine ag.mk ?_
     go_wp2
     refine ⟨⟨k+1,hk,aA k,rfl,DX.out⟩,?_⟩
     show m-((k:Int)+1).toNat<m-((k:Int)).toNat
     omega
    ·obtain rfl:k=m:=by omega
     have g1:decide ((k:Int)<(k:Int))=false:=decide_eq_false (by omega)
     clear hbr
     go_wp2
     refine ⟨⟨i+1,hi,aA i,rfl,uE.out.trans (G8.out.mono uE.out.size)⟩,?_⟩
     show n-((i:Int)+1).toNat<n-((i:Int)).toNat
     omega
  ·have hkk:decide ((i:Int)<(n:Int))=false:=decide_eq_false (by omega)
   obtain rfl:i=n:=by omega
   go_wp2
   go_ret
   exact ⟨rfl,hbr⟩
end Go.Proofs.YtglncfkoohgdaaaGreatDoor
