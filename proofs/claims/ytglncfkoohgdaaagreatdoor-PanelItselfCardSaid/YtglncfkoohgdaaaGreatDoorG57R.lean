import Derived.Test.YtglncfkoohgdaaaGreatDoorG6R
set_option maxRecDepth 100000
set_option maxHeartbeats 4000000
namespace Go.Proofs.YtglncfkoohgdaaaGreatDoor
open Go.RowKit Go.Shelf
open Go.Lib (decDigits itoa nDigits)
open Go.Lib (hid)
theorem kz.two {W:World} {v:Value} {L:List Stp} (h:kz W v L) {b:Nat} {cs:Array Value} {fz:Nat × Nat} (hz:W.heap[b]?=some (.cells cs 54 fz)) (x y:Value):kz ((W.setCell ⟨b,0,none⟩ x).setCell ⟨b,1,none⟩ y) v L:=by
 obtain ⟨p,c,h1,h2,h3,h4⟩:=h
 refine ⟨p,c,h1,h2,h3,fun h0=>?_⟩
 obtain ⟨g,off,k1,⟨ds,fy,kt⟩,k3⟩:=h4 h0
 have hne:g≠b:=fun e=>by
  rw [e,hz] at kt
  simp at kt
 have he:((W.setCell ⟨b,0,none⟩ x).setCell ⟨b,1,none⟩ y).heap[g]?=W.heap[g]?:=by
  rw [Below.heap_setCell _ _ _ _ hne,Below.heap_setCell _ _ _ _ hne]
 refine ⟨g,off,k1,⟨ds,fy,he.trans kt⟩,fun i hi=>?_⟩
 obtain ⟨m1,m2,m3⟩:=k3 i hi
 exact ⟨(World.cell?_of_block he).trans m1,(World.cell?_of_block he).trans m2,(World.cell?_of_block he).trans m3⟩
theorem Ym {w:World} (vg va vt:Value) (P:bQ) (k:Nat) (hk:k+1<P.lg.length) (hO:dm P) (hP:l9 w vg va vt P) (hw:Good w) :
  Calls Tryz.prog 19 #[iX vg va vt P.cs,.int .i64 (k:Int)] w fun e w'=>∃ ps cs,e=.returned (.agg #[.slice ps (aZ P k).length cs,.string (tx (tY P k))])∧kz w' (.slice ps (aZ P k).length cs) (aZ P k)∧Below w.heap.size w w':=by
 have xE:=hO.n20
 obtain ⟨pg,cg,rfl,hcg,jK⟩:=hP.g.slice
 obtain ⟨pa,ca,rfl,ET,ma⟩:=hP.a.slice
 obtain ⟨oQ,ct,rfl,hct,mf⟩:=hP.t.slice
 obtain ⟨b,off,vl,rfl,hbl,c0,hvl⟩:=hP.g.at (k:=k) (by omega)
 obtain ⟨b',off',vr,e,_,c1,eO⟩:=hP.g.at (k:=k+1) hk
 cases e
 unfold maxLen at jK
 obtain ⟨pl,cl,rfl,_,_⟩:=hvl.slice
 obtain ⟨pr,cr,rfl,_,_⟩:=eO.slice
 have hbe:=fun W' (hb:Below w.heap.size w W')=>OG _ _ P.cs (ai P k) (ai P (k+1)) (hO.log k (by omega)).1 (hO.log (k+1) hk).1 (by have:=(hO.log k (by omega)).2;omega) (by have:=(hO.log (k+1) hk).2;omega) hO.ZR (hO.link hk).1 ((hO.link hk).2.ok (by decide)) (hvl.below hb) (eO.below hb) (hw.below hb)
 obtain ⟨iL,zb⟩ : ∃ q,q=(aZ P k).length:=⟨_,rfl⟩
 obtain ⟨tt,OJ⟩ : ∃ q,q=tx (tY P k):=⟨_,rfl⟩
 rw [←zb,←OJ]
 have xI:Go.RowKit.Hid (∀ W',Below w.heap.size w W'→Calls _ _ _ W' fun e w'=>∃ ps cs,e=.returned (.tuple #[.agg #[.slice ps iL cs,.string tt],.int .i64 0])∧kz w' (.slice ps iL cs) (aZ P k)∧Below W'.heap.size W' w'):=hid (fun W' hb=>(hbe W' hb).mono fun e w' ⟨vs,he,hs,hb2⟩=>by
  obtain ⟨ps,cs,rfl,_,_⟩:=hs.slice
  rw [zb,OJ]
  exact ⟨ps,cs,he,hs,hb2⟩)
 clear hbe zb OJ
 generalize (P.lg.getD k []).length=nl at *
 generalize (P.lg.getD (k+1) []).length=nr at *
 have i1:(0:Int)≤(k:Int):=by omega
 have i2:(k:Int)<(P.lg.length:Int):=by omega
 have i3:IntKind.i64.wrap ((k:Int)+1)=(k:Int)+1:=IntWalk.i64_in _ (by omega)
 have i4:(0:Int)≤(k:Int)+1:=by omega
 have i5:(k:Int)+1<(P.lg.length:Int):=by omega
 have i6:((k:Int)+1).toNat=k+1:=by omega
 unfold iX
 unfold uC at xI
 clear hP hvl eO hk hO
 generalize tx P.cs.ch=t1 at *
 generalize tx P.cs.mi=t2 at *
 generalize tx P.cs.ga=t3 at *
 generalize tx P.cs.re=t4 at *
 generalize P.lg.length=n at *
 generalize (P.xs.map tx).length=na at *
 generalize (P.tp.map tx).length=nt at *
 go_enter Tryz.func19,Tryz.ntmps19
 go_wp2_with fail
 obtain ⟨wA,aS⟩ : ∃ wA,wA=(w.alloc (Obj.cells #[.slice (some ⟨b,off,none⟩) n cg,.slice pa na ca,.slice oQ nt ct,.string t1,.string t2,.string t3,.string t4] 37)).alloc (Obj.cells #[.slice none 0 0,.string ⟨#[]⟩] 54):=⟨_,rfl⟩
 obtain ⟨aP,hsA,kI,vN⟩:=jJ aS
 rw [←aS]
 clear aS
 obtain ⟨p0,_,_,p3,p4,p5,p6⟩:=au kI
 have l0:=aa kI
 have lb:=Nat.lt_of_lt_of_le hbl aP.size
 have c0:=(aP.cell (p:=⟨b,off+k,none⟩) hbl).trans c0
 have c1:=(aP.cell (p:=⟨b,off+(k+1),none⟩) hbl).trans c1
 have yN:=hid vN
 clear kI vN hsA
 have kL:=hid (fun W' (hS':Below wA.heap.size wA W')=>And.intro ((hS'.cell (p:=⟨w.heap.size,0,none⟩) l0).trans p0) (And.intro ((hS'.cell (p:=⟨w.heap.size,3,none⟩) l0).trans p3) (And.intro ((hS'.cell (p:=⟨w.heap.size,4,none⟩) l0).trans p4) (And.intro ((hS'.cell (p:=⟨w.heap.size,5,none⟩) l0).trans p5) (And.intro ((hS'.cell (p:=⟨w.heap.size,6,none⟩) l0).trans p6) (And.intro ((hS'.cell (p:=⟨b,off+k,none⟩) lb).trans c0) ((hS'.cell (p:=⟨b,off+(k+1),none⟩) lb).trans c1)))))))
 refine gG (fun W'=>Below wA.heap.size wA W') (.take 0 (.take 1 (.take 2 (.take 3 (.take 4 (.take 5 (.take 6 (.take 7 (.take 8 (.take 9 (.take 10 (.take 11 (.take 12 (.take 13 (.two 14 (.take 15 (.take 16 (.take 17 (.one 18 (.one 19 .fin))))) 18 (.one 14 (.take 15 (.take 16 (.take 17 (.one 19 .fin)))))))))))))))))))) 20 (by kernel_rfl) (by kernel_rfl) ⟨rfl,rfl,rfl,Nat.le_refl _,fun _ _=>rfl⟩ ?_
 have bZ:Below wA.heap.size wA wA.drew:=⟨rfl,rfl,rfl,Nat.le_refl _,fun _ _=>rfl⟩
 generalize wA.drew=dW at *
 iterate 14
  refine bJ rfl ?_ rfl ?_ ?_
  rotate_left
  ·intro W' hS'
   obtain ⟨s0,s1,s2,s3,s4,s5,s6⟩:=kL.out _ hS'
   go_simp
   try with_reducible rfl
  try simp only [zA,zB,zC,Act.put,zD,zE,zF]
 refine Jj ?_ ?_
 ·refine aK rfl rfl (fun K hK=>?_)
  go_simp
  refine (xI.out _ (aP.trans (bZ.mono aP.size))).mono ?_
  rintro e gK ⟨ps,cs,rfl,hst,cK⟩
  have hP1:=bZ.trans (cK.mono bZ.size)
  refine hK _ _ ⟨hP1,?_⟩
  clear hK K
  try simp only [zA,zB,zC,Act.put,zD,zE,zF]
  iterate 3
   refine bJ rfl ?_ rfl ?_ ?_
   rotate_left
   ·intro W' hS'
    obtain ⟨s0,s1,s2,s3,s4,s5,s6⟩:=kL.out _ hS'
    go_simp
    try with_reducible rfl
   try simp only [zA,zB,zC,Act.put,zD,zE,zF]
  refine aK rfl rfl (fun K hK=>?_)
  go_simp
  obtain ⟨sW,jo⟩ : ∃ q,q=gK.alloc (Obj.cells #[.slice none 0 0,.string ⟨#[]⟩] 54):=⟨_,rfl⟩
  have PM:sW.heap[gK.heap.size]?=some (.cells #[.slice none 0 0,.string ⟨#[]⟩] 54 (0,0)):=by rw [jo];exact World.alloc_heap_new _ _
  have dK:Below gK.heap.size gK sW:=by rw [jo];exact ae _ _
  have hP2:=hP1.trans (dK.mono hP1.size)
  rw [←jo]
  clear jo
  refine hK _ _ ⟨hP2,?_⟩
  clear hK K
  try simp only [zA,zB,zC,Act.put,zD,zE,zF]
  obtain ⟨_,_,_,_⟩:=aj PM
  refine aK rfl rfl (fun K hK=>?_)
  go_simp
  refine hK _ _ ⟨(hP2.setCell (p:=⟨_,0,none⟩) hP1.size _).setCell (p:=⟨_,1,none⟩) hP1.size _,?_⟩
  clear hK K
  try simp only [zA,zB,zC,Act.put,zD,zE,zF]
  unfold gP
  simp only [List.drop_succ_cons,List.drop_zero]
  have hsn:kz sW (.slice ps iL cs) (aZ P k):=by first | exact hst | exact hst.below (by assumption)
  obtain ⟨_,_,_,_⟩:=aj PM
  obtain ⟨wF,hwF⟩ : ∃ q,q=((sW.setCell ⟨gK.heap.size,0,none⟩ (.slice ps iL cs)).setCell ⟨gK.heap.size,1,none⟩ (.string tt)):=⟨_,rfl⟩
  have MZ:Below wA.heap.size wA wF:=by rw [hwF];exact (hP2.setCell (p:=⟨_,0,none⟩) hP1.size _).setCell (p:=⟨_,1,none⟩) hP1.size _
  have hzF:wF.heap[gK.heap.size]?=some (.cells #[.slice ps iL cs,.string tt] 54 (0,0)):=by rw [hwF];exact aV _ (aU _ PM)
  have HSF:=hid (show kz wF (.slice ps iL cs) (aZ P k) by rw [hwF];exact hsn.two PM _ _)
  have hrF:=(MZ.block _ (aa yN.out)).trans yN.out
  obtain ⟨_,_,_,_⟩:=aj hrF
  have HZF:=hid (aV (.string tt) (aU (.slice ps iL cs) hrF))
  have HSE:=hid (HSF.out.two hrF (.slice ps iL cs) (.string tt))
  have QV:=hid (aP.trans (MZ.mono aP.size))
  rw [←hwF]
  clear hwF hsn MZ
  obtain ⟨_,_,_,_⟩:=aj hzF
  go_wp2
  refine ag.mk ?_
  go_wp2
  obtain ⟨z0,z1,_,_⟩:=aj HZF.out
  refine bodyPost_ret (v:=.agg #[.slice ps iL cs,.string tt]) (by simp [results,Tryz.results19,go_sem,z0,z1]) rfl ⟨ps,cs,rfl,HSE.out,?_⟩
  exact (QV.out.setCell (p:=⟨w.heap.size+1,0,none⟩) (Nat.le_succ _) _).setCell (p:=⟨w.heap.size+1,1,none⟩) (Nat.le_succ _) _
 ·refine aK rfl rfl (fun K hK=>?_)
  go_simp
  obtain ⟨iW,gq⟩ : ∃ q,q=dW.alloc (Obj.cells #[.slice none 0 0,.string ⟨#[]⟩] 54):=⟨_,rfl⟩
  have abR:iW.heap[dW.heap.size]?=some (.cells #[.slice none 0 0,.string ⟨#[]⟩] 54 (0,0)):=by rw [gq];exact World.alloc_heap_new _ _
  have jq:Below dW.heap.size dW iW:=by rw [gq];exact ae _ _
  have lY:=bZ.trans (jq.mono bZ.size)
  rw [←gq]
  clear gq
  refine hK _ _ ⟨lY,?_⟩
  clear hK K
  try simp only [zA,zB,zC,Act.put,zD,zE,zF]
  refine aK rfl rfl (fun K hK=>?_)
  go_simp
  refine (xI.out _ (aP.trans (lY.mono aP.size))).mono ?_
  rintro e pQ ⟨ps,cs,rfl,hst,jr⟩
  have yK:=lY.trans (jr.mono lY.size)
  have Ba:=(jr.block _ (lt_of_some abR)).trans abR
  refine hK _ _ ⟨yK,?_⟩
  clear hK K
  try simp only [zA,zB,zC,Act.put,zD,zE,zF]
  iterate 3
   refine bJ rfl ?_ rfl ?_ ?_
   rotate_left
   ·intro W' hS'
    obtain ⟨s0,s1,s2,s3,s4,s5,s6⟩:=kL.out _ hS'
    go_simp
    try with_reducible rfl
   try simp only [zA,zB,zC,Act.put,zD,zE,zF]
  obtain ⟨_,_,_,_⟩:=aj Ba
  refine aK rfl rfl (fun K hK=>?_)
  go_simp
  refine hK _ _ ⟨(yK.setCell (p:=⟨_,0,none⟩) bZ.size _).setCell (p:=⟨_,1,none⟩) bZ.size _,?_⟩
  clear hK K
  try simp only [zA,zB,zC,Act.put,zD,zE,zF]
  unfold gP
  simp only [List.drop_succ_cons,List.drop_zero]
  have hsn:kz pQ (.slice ps iL cs) (aZ P k):=by first | exact hst | exact hst.below (by assumption)
  obtain ⟨_,_,_,_⟩:=aj Ba
  obtain ⟨wF,hwF⟩ : ∃ q,q=((pQ.setCell ⟨dW.heap.size,0,none⟩ (.slice ps iL cs)).setCell ⟨dW.heap.size,1,none⟩ (.string tt)):=⟨_,rfl⟩
  have MZ:Below wA.heap.size wA wF:=by rw [hwF];exact (yK.setCell (p:=⟨_,0,none⟩) bZ.size _).setCell (p:=⟨_,1,none⟩) bZ.size _
  have hzF:wF.heap[dW.heap.size]?=some (.cells #[.slice ps iL cs,.string tt] 54 (0,0)):=by rw [hwF];exact aV _ (aU _ Ba)
  have HSF:=hid (show kz wF (.slice ps iL cs) (aZ P k) by rw [hwF];exact hsn.two Ba _ _)
  have hrF:=(MZ.block _ (aa yN.out)).trans yN.out
  obtain ⟨_,_,_,_⟩:=aj hrF
  have HZF:=hid (aV (.string tt) (aU (.slice ps iL cs) hrF))
  have HSE:=hid (HSF.out.two hrF (.slice ps iL cs) (.string tt))
  have QV:=hid (aP.trans (MZ.mono aP.size))
  rw [←hwF]
  clear hwF hsn MZ
  obtain ⟨_,_,_,_⟩:=aj hzF
  go_wp2
  refine ag.mk ?_
  go_wp2
  obtain ⟨z0,z1,_,_⟩:=aj HZF.out
  refine bodyPost_ret (v:=.agg #[.slice ps iL cs,.string tt]) (by simp [results,Tryz.results19,go_sem,z0,z1]) rfl ⟨ps,cs,rfl,HSE.out,?_⟩
  exact (QV.out.setCell (p:=⟨w.heap.size+1,0,none⟩) (Nat.le_succ _) _).setCell (p:=⟨w.heap.size+1,1,none⟩) (Nat.le_succ _) _
end Go.Proofs.YtglncfkoohgdaaaGreatDoor
