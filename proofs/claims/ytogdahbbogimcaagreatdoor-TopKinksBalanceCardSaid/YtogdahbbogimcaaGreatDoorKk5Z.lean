import Derived.Test.YtogdahbbogimcaaGreatDoorKk3Z
set_option maxRecDepth 100000
set_option maxHeartbeats 8000000
namespace Go.Proofs.YtogdahbbogimcaaGreatDoor
open Go.RowKit Go.Shelf
open Go.Lib (decDigits itoa nDigits)
open Go.Lib (hid)
attribute [local go_sem] Oper.semAt_some
def gK (D:List (Rat × Rat)) (k:Nat):Rat:=dotQ (dirQ (tK D k)) (minusQ (axK D (k+1)) (axK D k))
def gL (D:List (Rat × Rat)):List Rat:=(List.range D.length).map (gK D)
def rCs (f:Nat→Rat) (k:Nat):List Value:=(List.range k).map fun i=>Value.string (tx (f i))
theorem rCs_succ (f:Nat→Rat) (k:Nat):rCs f (k+1)=rCs f k ++ [.string (tx (f k))]:=by unfold rCs;rw [List.range_succ,List.map_append];rfl
theorem axes_below {w w':World} {v:Value} {s:QP} {D:List (Rat × Rat)} (h:Axes w v s D) (hb:Below w.heap.size w w'):Axes w' v s D:=by
 obtain ⟨b,c,h1,h2,h3,h4,h5⟩:=h
 exact ⟨b,c,h1,h2,h3,Nat.lt_of_lt_of_le h4 hb.size,fun i hi j u hu=>(hb.cell (p:=⟨b,_,none⟩) h4).trans (h5 i hi j u hu)⟩
theorem txs_of_row {W:World} {f:Nat→Rat} {g cap base n:Nat} (h:W.ownsRow base 28 1 (.slice (some ⟨g,0,none⟩) n cap) n (rCs f n)):Txs W (.slice (some ⟨g,0,none⟩) n cap) ((List.range n).map f):=by
 rcases h.2 with ⟨h2,_⟩ | ⟨g',cap',cur,e1,_,e3,e4,e5,e6,e7⟩
 ·cases h2
 ·cases e1
  refine ⟨g,cap,by simp,by simpa using e4,e5,lt_of_some e3,fun i hi=>?_⟩
  have hi':i<n:=by simpa using hi
  have h1:(rCs f n)[i]?=some (.string (tx (f i))):=by unfold rCs;simp [hi']
  rw [←e7,List.getElem?_take,if_pos (by omega)] at h1
  simp only [World.cell?,e3,List.getElem_map,List.getElem_range]
  simpa using h1
theorem putObj_txs {W:World} {v:Value} {C:List Rat} (h:Txs W v C) (h0:0<C.length) {Dk:Nat} (hd:W.heap[Dk]?=some (.deferred (some []))) (o:Obj):Txs (W.putObj Dk o) v C:=by
 obtain ⟨b,c,h1,h2,h3,h4,h5⟩:=h
 have hne:Dk≠b:=by
  intro e
  subst e
  have:=h5 0 h0
  simp [World.cell?,hd] at this
 refine ⟨b,c,h1,h2,h3,by simpa [World.putObj] using h4,fun i hi=>?_⟩
 rw [World.cell?_of_block (a:=⟨b,i,none⟩) (by
  simp only [World.putObj]
  rw [Array.getElem?_setIfInBounds,if_neg hne])]
 exact h5 i hi
structure GrowInv (w4:World) (B4 Bp s1:Nat) (D:List (Rat × Rat)) (k:Nat) (W:World):Prop where
 low:Below B4 w4 W
 prof:W.heap[Bp]?=w4.heap[Bp]?
 out:∃ v:Value,Boxed W B4 31 v∧W.ownsRow s1 28 1 v k (rCs (gK D) k)
 sz:s1≤W.heap.size
theorem growInv_own {w4:World} {B4 Bp s1 B:Nat} {D:List (Rat × Rat)} (hB:Bp<B) (h34:B4<Bp) (hs:Bp<w4.heap.size):OwnT 30 B (GrowInv w4 B4 Bp s1 D):=fun k X Y row h hg hr =>
 ⟨below_keptT h.low (by omega) (by omega) hg hr,(by
  refine (hg.block Bp (by have:=h.low.size;omega) fun e=>?_).trans h.prof
  have:=(hr _ e.symm).1
  omega),(by
  obtain ⟨v,h1,h2⟩:=h.out
  exact ⟨v,cells_keptT hg hr h1 (by decide),ownsRow_keptT hg hr h2 (by decide)⟩),Nat.le_trans h.sz hg.size⟩
theorem growInv_below {w4:World} {B4 Bp s1:Nat} {D:List (Rat × Rat)} {k:Nat} {W W':World} (h:GrowInv w4 B4 Bp s1 D k W) (hb:Below W.heap.size W W') (h3:B4≤w4.heap.size) (hp:Bp<w4.heap.size):GrowInv w4 B4 Bp s1 D k W':=
 ⟨h.low.trans (hb.mono (Nat.le_trans h3 h.low.size)),(hb.block Bp (Nat.lt_of_lt_of_le hp h.low.size)).trans h.prof,(by
  obtain ⟨v,h1,h2⟩:=h.out
  exact ⟨v,(hb.block _ h1.lt).trans h1,owns_below h2 hb⟩),Nat.le_trans h.sz hb.size⟩
theorem PrOk.axz {s:QP} {D:List (Rat × Rat)} (h:PrOk s D) (k:Nat):Sz2 197152 (axK D k):=by
 have hn0:∀ j,Sz2 4925 (nK D j):=fun j=>⟨(h.dir j).2.neg,(h.dir j).1.mono (by decide)⟩
 have hone:Sz 1 1:=by unfold Sz;rw [tx1];decide
 have hzer:Sz2 1 ((0:Rat),(0:Rat)):=by unfold Sz2 Sz;rw [tx0];decide
 unfold axK
 split
 ·exact (hn0 0).mono (by decide)
 ·split
  ·exact (sz_plus hzer (sz_plus (hn0 (k-1)) (hn0 k) hone) (hone.div (hone.add (sz_dot (hn0 (k-1)) (hn0 k))))).mono (by decide)
  ·exact (hn0 (k-1)).mono (by decide)
theorem sz_minus {a b:Nat} {p q:QP} (hp:Sz2 a p) (hq:Sz2 b q):Sz2 (2*(a+(2+b+4))+4) (minusQ p q):=sz_plus hp hq (by unfold Sz;rw [txm1];decide)
theorem PrOk.gz {s:QP} {D:List (Rat × Rat)} (h:PrOk s D) (k:Nat):Sz 6309316 (gK D k):=by
 have:=sz_minus (h.axz (k+1)) (h.axz k)
 exact (sz_dot ((h.dir k).mono (by decide)) this).mono (by decide)
theorem kink_growths (s:QP) (D:List (Rat × Rat)) (hP:PrOk s D) (hnd:∀ k,0<k→k<D.length→1+dotQ (nK D (k-1)) (nK D k)≠0) (vd vl:Value) (w:World) (hw:Good w) (hvd:Txs w vd (D.map (·.1))) (hvl:Txs w vl (D.map (·.2))) :
  CallsIn Fence.wide 9 Tryz.prog 53 #[profV s vd vl] w fun e w'=>∃ v,e=.returned v∧Txs w' v (gL D)∧Below w.heap.size w w':=by
 have HVD:=hid hvd
 have HVL:=hid hvl
 have HEN:=hid (fun (W:World) (hg:Good W) (h1:Txs W vd (D.map (·.1))) (h2:Txs W vl (D.map (·.2)))=>kink_ends s D hP hnd vd vl W hg h1 h2)
 obtain ⟨bd,cd,rfl,-,-,-,-⟩:=hvd
 obtain ⟨bl,cl,rfl,-,-,-,-⟩:=hvl
 have HDM:=hid (fun W=>kink_domains 8 s (some ⟨bd,0,none⟩) (some ⟨bl,0,none⟩) D.length cd D.length cl W)
 have HL1:=hid (show (D.map (·.1)).length=D.length from List.length_map _)
 have HL2:=hid (show (D.map (·.2)).length=D.length from List.length_map _)
 rw [HL1.out] at HVD
 rw [HL2.out] at HVL
 rw [HL1.out,HL2.out]
 obtain ⟨wA,hwA⟩ : ∃ wA,wA=w.alloc (profO s (.slice (some ⟨bd,0,none⟩) D.length cd) (.slice (some ⟨bl,0,none⟩) D.length cl)):=⟨_,rfl⟩
 have HWA:=hid hwA
 have hbA:Below w.heap.size w wA:=by rw [hwA];exact alloc_below _ _
 rw [HL1.out,HL2.out] at HEN
 have HENA:=hid (HEN.out wA (hw.below hbA) (HVD.out.below hbA) (HVL.out.below hbA))
 unfold profV profO at *
 refine callsIn_of_wp_marks Tryz.func53 rfl trivial ?_ rfl
 simp only [Tryz.ntmps53,List.size_toArray,List.length_cons,List.length_nil,Nat.reduceAdd,Nat.reduceSub,Array.replicate_succ,Array.replicate_zero,List.push_toArray,List.append_toArray,List.nil_append,List.cons_append]
 have HP:=hid hP
 clear hwA hP hnd HEN
 gi_wp2
 rw [←HWA.out]
 refine ⟨trivial,?_⟩
 refine (callsIn_wide.2 (callsIn_wide.1 HENA.out)).mono ?_
 rintro e w1 ⟨va,rfl,hax,hb1⟩
 have HAXS:=hid hax
 obtain ⟨ba,ca,rfl,hac,hacm,hba,hacell⟩:=hax
 have HAC:=hid hacell
 have hbw1:=hbA.trans (hb1.mono hbA.size)
 have hsA:wA.heap.size=w.heap.size+1:=by rw [HWA.out];simp
 have hs1:=hb1.size
 have hpA:wA.heap[w.heap.size]?=some (profO s (.slice (some ⟨bd,0,none⟩) D.length cd) (.slice (some ⟨bl,0,none⟩) D.length cl)):=by rw [HWA.out];exact World.alloc_heap_new _ _
 obtain ⟨wX,hwX⟩ : ∃ wX,wX=(w1.alloc (Obj.cells #[.slice (some ⟨ba,0,none⟩) (D.length+1) ca] 82)).alloc (Obj.cells #[.slice none 0 0] 31):=⟨_,rfl⟩
 have HWX:=hid hwX
 have hbX:Below w1.heap.size w1 wX:=by rw [hwX];exact (alloc_below _ _).trans ((alloc_below _ _).mono (by simp))
 have hy3:Boxed wX w1.heap.size 82 (.slice (some ⟨ba,0,none⟩) (D.length+1) ca):=by
  rw [hwX]
  refine ((alloc_below _ _).block _ (by simp)).trans ?_
  exact World.alloc_heap_new _ _
 have hy4:Boxed wX (w1.heap.size+1) 31 (.slice none 0 0):=by
  rw [hwX]
  have:=World.alloc_heap_new (w1.alloc (Obj.cells #[.slice (some ⟨ba,0,none⟩) (D.length+1) ca] 82)) (Obj.cells #[.slice none 0 0] 31)
  rwa [World.size_alloc] at this
 have hsX:wX.heap.size=w1.heap.size+2:=by rw [hwX];simp
 have HY3:=hid hy3
 have HY4:=hid hy4
 have HSX:=hid hsX
 obtain ⟨e0,e1,e2,e3⟩:=prof_cells ((hbX.block _ (by omega)).trans ((hb1.block _ (by omega)).trans hpA))
 rw [hwX] at e0 e1 e2 e3
 clear hwX hy3 hy4 hsX hsA hpA hacell
 gi_wp2
 rw [←HWX.out]
 refine ⟨trivial,?_⟩
 refine (HDM.out wX).mono ?_
 rintro e w4 ⟨rfl,hw4⟩
 have hsX:=HSX.out
 have hb4:Below wX.heap.size wX w4:=by rw [hw4];exact alloc_below _ _
 have hs4:w4.heap.size=wX.heap.size+1:=by rw [hw4];simp
 have hx4:w4.heap[w1.heap.size+2]?=some (profO s (.slice (some ⟨bd,0,none⟩) D.length cd) (.slice (some ⟨bl,0,none⟩) D.length cl)):=by rw [hw4,←hsX];exact World.alloc_heap_new _ _
 have hby3:Boxed w4 w1.heap.size 82 (.slice (some ⟨ba,0,none⟩) (D.length+1) ca):=(hb4.block _ HY3.out.lt).trans HY3.out
 have hby4:Boxed w4 (w1.heap.size+1) 31 (.slice none 0 0):=(hb4.block _ HY4.out.lt).trans HY4.out
 have hb14:Below w1.heap.size w1 w4:=hbX.trans (hb4.mono (by omega))
 have hbw4:Below w.heap.size w w4:=hbw1.trans (hb14.mono hbw1.size)
 have hg4:Good w4:=hw.below hbw4
 have hws:=hbw1.size
 have hls:w4.heap.size=w1.heap.size+3:=by omega
 have HX4:=hid hx4
 have HY3:=hid hby3
 have HY4:=hid hby4
 have HBW4:=hid hbw4
 clear hw4 hx4 hby3 hby4 e0 e1 e2 e3
 gi_wp2
 clear HDM HWA HENA
 refine wpIn_rangeFunc_at (n:=9) rfl (by decide) (gf:=110) (lb:=#[.pointer (some ⟨w1.heap.size+2,0,none⟩)]) rfl trivial (enters_of Tryz.func110 (by kernel_rfl) rfl)
  (domains_at 8 (by decide) (w1.heap.size+2) w hw s D HP.out _ _ HVD.out HVL.out w4 hbw4 HX4.out)
  KeepP.trans (KeepP.put (by omega) (by omega)) (Below.refl _ _) (fun _=>rfl)
  (GrowInv w4 (w1.heap.size+1) (w1.heap.size+2) w4.heap.size D) (fun _ _ _=>False) (growInv_own (by omega) (by omega) (by omega)) (fun _ _ _ _ _ hs _ _=>hs)
  ⟨Below.refl _ _,rfl,⟨_,HY4.out,World.ownsRow_nil _ _ _ _⟩,Nat.le_refl _⟩
  (fun k a' W=>∃ Bx,w4.heap.size≤Bx∧W.heap[Bx]?=some (.cells (domC s D k) 132 (0,0))∧a'={ tmps:=#[.agg #[(.string (tx s.1)),(.string (tx s.2)),.slice (some ⟨bd,0,none⟩) D.length cd,.slice (some ⟨bl,0,none⟩) D.length cl],.pointer (some ⟨w.heap.size,0,none⟩),.slice none 0 0,.pointer (some ⟨w1.heap.size,0,none⟩),.pointer (some ⟨w1.heap.size+1,0,none⟩),.int .i64 (k:Int),.pointer (some ⟨Bx,0,none⟩),.agg #[(.string (tx s.1)),(.string (tx s.2)),.slice (some ⟨bd,0,none⟩) D.length cd,.slice (some ⟨bl,0,none⟩) D.length cl],.slice (some ⟨ba,0,none⟩) (D.length+1) ca,.agg #[(.string (tx s.1)),(.string (tx s.2)),.slice (some ⟨bd,0,none⟩) D.length cd,.slice (some ⟨bl,0,none⟩) D.length cl],.func (.func 110) #[] #[.pointer (some ⟨w1.heap.size+2,0,none⟩)],.int .i64 (k:Int),.agg (domC s D k),undef,undef,undef,undef,undef,undef,undef,undef,undef,undef,undef,undef,undef,undef,undef,undef,undef,undef,undef],defers:=[] })
  (fun k a' _ X Y row hs hg hr=>by obtain ⟨Bx,h1,h2,h3⟩:=hs;exact ⟨Bx,h1,cells_kept hg hr h2,h3⟩) ?assign ?body ?done ?stop
 case assign =>
  intro l k hk W K hI hK
  have hsz1:=hI.sz
  simp only [List.length_range] at hk
  simp only [List.getElem_range,domE,domV]
  gi_wp2
  exact hK _ _ (keepsFrom_below (alloc_below _ _)) (KeepP.of_below (alloc_below _ _) (by omega) (by omega)) (growInv_below hI (alloc_below _ _) (by omega) (by omega)) ⟨W.heap.size,hsz1,World.alloc_heap_new _ _,rfl⟩
 case body =>
  rintro l k hk a' W hl hr ⟨hlow,hpro,⟨ov,hov,hrow⟩,hsz⟩ ⟨Bx,hBx,hdx,rfl⟩
  simp only [List.length_range] at hk
  have hbx:=lt_of_some hdx
  have hlw:=hlow.size
  have HPRO:=hid hpro
  have hgW:Good W:=hw.below (HBW4.out.trans (hlow.mono (by omega)))
  obtain ⟨x0,x1,x2,x3,x4,x5,x6⟩:=seven_cells (show W.heap[Bx]?=some (.cells #[.string (tx (dirQ (tK D k)).1),.string (tx (dirQ (tK D k)).2),.string (tx (nK D k).1),.string (tx (nK D k).2),.string (tx (atK s D k).1),.string (tx (atK s D k).2),.string (tx (lK D k))] 132 (0,0)) from hdx)
  have q0:=hov.cell
  have r0:=(show Boxed W w1.heap.size 82 _ from (hlow.block _ (by omega)).trans HY3.out).cell
  have hax:∀ i,i≤D.length→∀ j (u:Value),(axC s D i)[j]?=some u→W.cell? ⟨ba,i*4+j,none⟩=some u:=fun i hi j u hu=>((hlow.cell (p:=⟨ba,_,none⟩) (by show ba<_;omega)).trans (hb14.cell (p:=⟨ba,_,none⟩) hba)).trans (HAC.out i hi j u hu)
  have A0:=hax k (by omega) 2 _ rfl
  have A1:=hax k (by omega) 3 _ rfl
  have A2:=hax (k+1) (by omega) 2 _ rfl
  have A3:=hax (k+1) (by omega) 3 _ rfl
  have hkl:k≤3:=by have:=HP.out.n;omega
  have HMN:=hid (fun w' (hg:Good w')=>kink_minus (axK D (k+1)) (axK D k) ((HP.out.axz (k+1)).mono (by decide)) ((HP.out.axz k).mono (by decide)) w' hg)
  have HDT:=hid (fun w' (hg:Good w')=>show Calls Tryz.prog 78 #[ptV (dirQ (tK D k)),ptV (minusQ (axK D (k+1)) (axK D k))] w' (RV (.string (tx (gK D k))) w') from
   kink_dot (dirQ (tK D k)) (minusQ (axK D (k+1)) (axK D k)) ((HP.out.dir k).mono (by decide)) ((sz_minus (HP.out.axz (k+1)) (HP.out.axz k)).mono (by decide)) w' hg)
  unfold RV ptV at HMN HDT
  generalize minusQ (axK D (k+1)) (axK D k)=mq at *
  generalize axK D (k+1)=xq1 at *
  generalize axK D k=xq0 at *
  obtain ⟨M,hM⟩ : ∃ M,IntKind.i64.wrap ((k:Int)+1)=M:=⟨_,rfl⟩
  have hM0:M=((k+1:Nat):Int):=by
   rw [←hM]
   exact (IntWalk.i64_in _ (by omega)).trans (by omega)
  have i1:(0:Int)≤(k:Int):=by omega
  have i2:(k:Int)<((D.length+1:Nat):Int):=by omega
  have i3:(0:Int)≤M:=by omega
  have i4:M<((D.length+1:Nat):Int):=by omega
  have i5:M.toNat=k+1:=by omega
  have i6:(k:Int)<(D.length:Int)+1:=by omega
  have i7:M<(D.length:Int)+1:=by omega
  have lq:=hov.lt
  have lr:w1.heap.size<W.heap.size:=by omega
  have lb:ba<W.heap.size:=by omega
  obtain ⟨i0,hi,hz0,hz1,hz2⟩:=info_parts slTx.info
  have HOV:=hid hov
  have HROW:=hid hrow
  have HDX:=hid hdx
  clear hpro hov hrow hdx hax hM0
  gi_wp2
  refine wpIn_held_list lifts_round (fun W'=>Below W.heap.size W W') [0,1,2,3,4,5,6,7,8,9,10,11,12,13] [14,15,16] 17 (by kernel_rfl) (by kernel_rfl) (by kernel_rfl) ⟨rfl,rfl,rfl,Nat.le_refl _,fun _ _=>rfl⟩ ?_
  iterate 14
   refine wpTakeL_step rfl ?_ rfl ?_ ?_
   rotate_left
   ·intro W' hS'
    have s0:=(hS'.cell (p:=⟨w1.heap.size+1,0,none⟩) lq).trans q0
    have s1:=(hS'.cell (p:=⟨w1.heap.size,0,none⟩) lr).trans r0
    have s2:=(hS'.cell (p:=⟨Bx,0,none⟩) hbx).trans x0
    have s3:=(hS'.cell (p:=⟨Bx,1,none⟩) hbx).trans x1
    have s4:=(hS'.cell (p:=⟨ba,k*4+2,none⟩) lb).trans A0
    have s5:=(hS'.cell (p:=⟨ba,k*4+3,none⟩) lb).trans A1
    have s6:=(hS'.cell (p:=⟨ba,(k+1)*4+2,none⟩) lb).trans A2
    have s7:=(hS'.cell (p:=⟨ba,(k+1)*4+3,none⟩) lb).trans A3
    go_simp
    try with_reducible rfl
   try simp only [zA,zB,zC,Act.put,zD,zE,zF]
  have hH0:Below W.heap.size W W.drew:=⟨rfl,rfl,rfl,Nat.le_refl _,fun _ _=>rfl⟩
  refine wpKeepL_step rfl rfl (fun K hK=>?_)
  go_simp
  refine (HMN.out _ (hgW.below hH0)).mono ?_
  rintro e v4 ⟨rfl,hv4⟩
  have hH1:=hH0.trans (hv4.mono hH0.size)
  refine hK _ _ ⟨hH1,?_⟩
  clear hK K
  try simp only [zA,zB,zC,Act.put,zD,zE,zF]
  refine wpKeepL_step rfl rfl (fun K hK=>?_)
  go_simp
  refine (HDT.out _ (hgW.below hH1)).mono ?_
  rintro e v5 ⟨rfl,hv5⟩
  have hH2:=hH1.trans (hv5.mono hH1.size)
  refine hK _ _ ⟨hH2,?_⟩
  clear hK K
  try simp only [zA,zB,zC,Act.put,zD,zE,zF]
  refine wpKeepL_step rfl rfl (fun K hK=>?_)
  go_simp
  refine hK _ _ ⟨hH2.trans ((alloc_below _ _).mono hH2.size),?_⟩
  clear hK K
  try simp only [zA,zB,zC,Act.put,zD,zE,zF]
  unfold wpKeepL
  simp only [List.drop_succ_cons,List.drop_zero]
  have hs05:=hH2.size
  have hrow5:=owns_below HROW.out hH2
  have hov5:Boxed v5 (w1.heap.size+1) 31 ov:=(hH2.block _ HOV.out.lt).trans HOV.out
  clear x0 x1 x2 x3 x4 x5 x6 A0 A1 A2 A3 hv4 hv5 hH0 hH1 q0 r0
  refine wpListIn_append_own _ rfl _ _ 31 rfl w4.heap.size 28 i0 (.string ⟨#[]⟩) 1 16 slTx.ht hi hz0 hz1 hz2 slTx.hzs slTx.hsz _ _ _ rfl (hrow5.alloc _) ⟨v5.heap.size,0,none⟩ 1 1 [.string (tx (gK D k))] rfl rfl (cell_one_new _ _ _) (by simp [Value.oneCell']) (by unfold maxLen;omega) (by omega) (by simp;omega) ?_
  intro v' w21 hown' hgrow _
  obtain ⟨g',cap',rfl⟩:=ownsRow_succ hown'
  obtain ⟨k1,k2,k3,k4,k5,k6,k7,k8⟩:=append_allT (n₀:=w.heap.size) (Bp:=w1.heap.size+2) (by decide) (by decide) (by decide) hov5 hrow5 (by omega) (by omega) (by omega) (by omega) (by omega) hown' hgrow
  have hc1:=k1.cell
  have hf1:=k1.frozen
  have HK2:=hid k2
  have HK3:=hid k3
  have HK4:=hid k4
  have HK5:=hid k5
  have HK6:=hid k6
  clear k1 k2 k3 k4 k5 k6 k7 k8 hown' hgrow hrow5 hov5
  gi_wp2
  refine ⟨(KeepsOthers.trans ⟨hH2.size,fun j o h _=>(hH2.block j (lt_of_some h)).trans h⟩ HK4.out).from _,(KeepP.of_below hH2 (by omega) (by omega)).trans HK5.out,?_⟩
  have hkk:KeepP w.heap.size (w1.heap.size+2) W _:=(KeepP.of_below hH2 (by omega) (by omega)).trans HK5.out
  exact ⟨hlow.trans ((hH2.mono (by omega)).trans HK6.out),hkk.2.1.trans HPRO.out,⟨_,HK2.out,by rw [rCs_succ];exact HK3.out⟩,by have:=HK6.out.size;omega⟩
 case done =>
  rintro Dk W hD ⟨hlow,hpro,⟨ov,hov,hrow⟩,hsz⟩ hK
  simp only [List.length_range] at hrow
  have hn1:=HP.out.ne
  obtain ⟨m,hm⟩ : ∃ m,D.length=m+1:=⟨D.length-1,by omega⟩
  have HRW:=hid hrow
  obtain ⟨g',cap',rfl⟩:=ownsRow_succ (by rw [hm] at hrow;exact hrow)
  rw [←hm] at HRW
  have HTX:=hid (fun o=>putObj_txs (txs_of_row HRW.out) (by simpa using hn1) hK o)
  have q0:=hov.cell
  have HKD:=hid hK
  rw [hm] at HTX
  clear hK hrow HRW hov hpro
  gi_wp2
  refine ⟨by simp,.inl ⟨_,_,rfl,run_takeDeferred HKD.out,?_⟩⟩
  exact ⟨_,results_tmp rfl _ _ _,_,rfl,by unfold gL;rw [hm];exact HTX.out _,(HBW4.out.trans (hlow.mono (by omega))).trans (putObj_below _ _ _ (by omega))⟩
 case stop =>
  rintro D c k W _ _ h _
  exact h.elim
end Go.Proofs.YtogdahbbogimcaaGreatDoor
namespace Go.Proofs.YtogdahbbogimcaaGreatDoor
open Go.RowKit Go.Shelf
open Go.Lib (decDigits itoa nDigits)
open Go.Lib (hid)
def PtsV (w:World) (v:Value) (f:Nat→QP) (n:Nat):Prop:=
 ∃ b c,v=.slice (some ⟨b,0,none⟩) n c∧n≤c∧c≤maxLen∧b<w.heap.size∧∀ i,i<n→w.cell? ⟨b,i*2,none⟩=some (.string (tx (f i).1))∧w.cell? ⟨b,i*2+1,none⟩=some (.string (tx (f i).2))
def ptCs (f:Nat→QP):Nat→List Value
 | 0=>[]
 | k+1=>ptCs f k ++ [.string (tx (f k).1),.string (tx (f k).2)]
theorem ptCs_len (f:Nat→QP):∀ k,(ptCs f k).length=k*2
 | 0=>rfl
 | k+1=>by rw [ptCs,List.length_append,ptCs_len f k];show k*2+2=_;omega
theorem ptCs_get (f:Nat→QP):∀ (k i:Nat),i<k→(ptCs f k)[i*2]?=some (.string (tx (f i).1))∧(ptCs f k)[i*2+1]?=some (.string (tx (f i).2))
 | 0,i,h=>by omega
 | k+1,i,h=>by
  rw [ptCs]
  rcases Nat.lt_or_ge i k with h1 | h1
  ·rw [List.getElem?_append_left (by rw [ptCs_len];omega),List.getElem?_append_left (by rw [ptCs_len];omega)]
   exact ptCs_get f k i h1
  ·obtain rfl:i=k:=by omega
   rw [List.getElem?_append_right (by rw [ptCs_len];omega),List.getElem?_append_right (by rw [ptCs_len];omega),ptCs_len,show i*2-i*2=0 by omega,show i*2+1-i*2=1 by omega]
   exact ⟨rfl,rfl⟩
theorem pts_of_row {W:World} {f:Nat→QP} {g cap base n:Nat} (h:W.ownsRow base 30 2 (.slice (some ⟨g,0,none⟩) n cap) n (ptCs f n)):PtsV W (.slice (some ⟨g,0,none⟩) n cap) f n:=by
 rcases h.2 with ⟨h2,_⟩ | ⟨g',cap',cur,e1,_,e3,e4,e5,e6,e7⟩
 ·cases h2
 ·cases e1
  refine ⟨g,cap,rfl,e4,e5,lt_of_some e3,fun i hi=>?_⟩
  obtain ⟨h1,h2⟩:=ptCs_get f n i hi
  rw [←e7,List.getElem?_take,if_pos (by omega)] at h1 h2
  exact ⟨by simp only [World.cell?,e3];simpa using h1,by simp only [World.cell?,e3];simpa using h2⟩
theorem slPt:SliceOf 38 30 (.agg #[.string ⟨#[]⟩,.string ⟨#[]⟩]) 2 32:=⟨Tryz.underlying38,by kernel_rfl,rfl,by decide⟩
def FreshV (w:World) (v:Value):Prop:=∀ a n c,v=.slice (some a) n c→w.heap.size≤a.block
def NoDiv (D:List (Rat × Rat)):Prop:=∀ k,0<k→k<D.length→1+dotQ (nK D (k-1)) (nK D k)≠0
def bedQ (s:QP) (D:List (Rat × Rat)) (h:Rat) (k:Nat):QP:=plusQ (atK s D k) (axK D k) h
theorem kink_bed (s:QP) (D:List (Rat × Rat)) (hP:PrOk s D) (hnd:NoDiv D) (h:Rat) (hh:Sz 3000000 h) (vd vl:Value) (w:World) (hw:Good w) (hvd:Txs w vd (D.map (·.1))) (hvl:Txs w vl (D.map (·.2))) :
  Calls Tryz.prog 21 #[profV s vd vl,.string (tx h)] w fun e w'=>∃ v,e=.returned v∧PtsV w' v (bedQ s D h) (D.length+1)∧FreshV w v∧Below w.heap.size w w':=by
 have HEN:=hid (fun (W:World) (hg:Good W) (h1:Txs W vd (D.map (·.1))) (h2:Txs W vl (D.map (·.2)))=>callsIn_wide.1 (kink_ends s D hP hnd vd vl W hg h1 h2))
 have HVD:=hid hvd
 have HVL:=hid hvl
 have HPL:=hid (fun k (hk:k≤D.length) w' (hg:Good w')=>show Calls Tryz.prog 50 #[ptV (atK s D k),ptV (axK D k),.string (tx h)] w' (RV (ptV (bedQ s D h k)) w') from
  kink_plus (atK s D k) (axK D k) h ((hP.at4 (Nat.le_trans hk hP.n)).mono (by decide)) ((hP.axz k).mono (by decide)) (hh.mono (by decide)) w' hg)
 have hn4:=hP.n
 unfold RV ptV at HPL
 obtain ⟨bd,cd,rfl,-,-,-,-⟩:=hvd
 obtain ⟨bl,cl,rfl,-,-,-,-⟩:=hvl
 have HL1:=hid (show (D.map (·.1)).length=D.length from List.length_map _)
 have HL2:=hid (show (D.map (·.2)).length=D.length from List.length_map _)
 rw [HL1.out,HL2.out] at HEN
 rw [HL1.out] at HVD
 rw [HL2.out] at HVL
 rw [HL1.out,HL2.out]
 obtain ⟨wA,hwA⟩ : ∃ wA,wA=w.alloc (profO s (.slice (some ⟨bd,0,none⟩) D.length cd) (.slice (some ⟨bl,0,none⟩) D.length cl)):=⟨_,rfl⟩
 have HWA:=hid hwA
 have hbA:Below w.heap.size w wA:=by rw [hwA];exact alloc_below _ _
 have HENA:=hid (HEN.out wA (hw.below hbA) (HVD.out.below hbA) (HVL.out.below hbA))
 unfold profV profO at *
 clear hwA hP hnd HEN
 go_enter Tryz.func21,Tryz.ntmps21
 go_wp2_with fail
 rw [←HWA.out]
 refine HENA.out.mono ?_
 rintro e w1 ⟨va,rfl,hax,hb1⟩
 obtain ⟨ba,ca,rfl,hac,hacm,hba,hacell⟩:=hax
 have HAC:=hid hacell
 have hbw1:=hbA.trans (hb1.mono hbA.size)
 have hg1:=hw.below hbw1
 have hws:=hbw1.size
 clear hacell HENA HWA
 have hr0:w1.ownsRow w1.heap.size 30 2 (.slice none 0 0) 0 (ptCs (bedQ s D h) 0):=World.ownsRow_nil _ _ _ _
 go_wp2_with fail
 go_loopw [5,7,11] (fun ov _ iv wr=>∃ k:Nat,k≤D.length+1∧iv=.int .i64 (k:Int)∧wr.ownsRow w1.heap.size 30 2 ov k (ptCs (bedQ s D h) k)∧Below w1.heap.size w1 wr) (fun _ _ iv _=>D.length+1-(intOf iv).toNat)
 case atStart=>exact ⟨0,Nat.zero_le _,rfl,hr0,Below.refl _ _⟩
 case round =>
  obtain ⟨k,hk,rfl,hrow,hbr⟩:=hrel
  have hwr:=hbr.size
  by_cases hkl:k<D.length+1
  ·have hax:∀ i,i≤D.length→∀ j (u:Value),(axC s D i)[j]?=some u→wr.cell? ⟨ba,i*4+j,none⟩=some u:=fun i hi j u hu=>(hbr.cell (p:=⟨ba,_,none⟩) hba).trans (HAC.out i hi j u hu)
   have A0:=hax k (by omega) 0 _ rfl
   have A1:=hax k (by omega) 1 _ rfl
   have A2:=hax k (by omega) 2 _ rfl
   have A3:=hax k (by omega) 3 _ rfl
   rw [Nat.add_zero] at A0
   have i1:(0:Int)≤(k:Int):=by omega
   have i2:(k:Int)<((D.length+1:Nat):Int):=by omega
   have i3:(k:Int)<(D.length:Int)+1:=by omega
   have hkn:decide ((k:Int)<(D.length:Int)+1)=true:=decide_eq_true i3
   have hgr:=hg1.below hbr
   have H1:=hid (HPL.out k (by omega))
   clear hax
   go_wp2_with fail
   refine (H1.out _ (hgr.below (alloc_below _ _))).mono ?_
   rintro e w2 ⟨rfl,hb2⟩
   have hbr2:Below wr.heap.size wr w2:=(alloc_below _ _).trans (hb2.mono (by simp))
   have hrow2:=owns_below hrow hbr2
   have hb12:=hbr.trans (hbr2.mono hwr)
   have hw2:=hb12.size
   have HONE:=hid (show ∀ u∈(#[Value.string (tx (bedQ s D h k).1),.string (tx (bedQ s D h k).2)]:Array Value).toList,u.oneCell'=true by simp [Value.oneCell'])
   clear A0 A1 A2 A3
   go_wp2_with (at_builtin;refine app_new slPt rfl _ _ rfl w1.heap.size _ k _ rfl hrow2 1 1 _ rfl rfl HONE.out (by omega) (by decide) hw2 _ rfl ?_;intro v1 w9 hown2 hb9;have HO2:=hid hown2;clear hown2)
   exact ⟨⟨k+1,by omega,int_succ k,HO2.out,hb12.trans hb9⟩,by show D.length+1-((k:Int)+1).toNat<D.length+1-((k:Int)).toNat;omega⟩
  ·obtain rfl:k=D.length+1:=by omega
   have hkn:decide (((D.length+1:Nat):Int)<(D.length:Int)+1)=false:=decide_eq_false (by omega)
   have HRW:=hid hrow
   obtain ⟨g',cap',rfl⟩:=ownsRow_succ hrow
   clear hrow
   go_wp2_with fail
   go_ret
   exact ⟨_,rfl,pts_of_row HRW.out,fun a n c e=>by cases e;exact Nat.le_trans hws (HRW.out.lt g' rfl).1,hbw1.trans (hbr.mono hws)⟩
end Go.Proofs.YtogdahbbogimcaaGreatDoor
