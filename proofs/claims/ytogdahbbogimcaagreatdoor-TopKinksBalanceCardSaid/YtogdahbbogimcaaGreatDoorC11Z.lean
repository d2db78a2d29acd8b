import Derived.Test.YtogdahbbogimcaaGreatDoorKk19Z
import Derived.Test.YtogdahbbogimcaaGreatDoorC9Z
set_option maxRecDepth 100000
set_option maxHeartbeats 8000000
namespace Go.Proofs.YtogdahbbogimcaaGreatDoor
open Go.RowKit Go.Shelf
open Go.Lib (decDigits itoa nDigits)
open Go.Lib (hid)
theorem txs_hone (a:Rat) (w:World):Txs (w.alloc (Obj.cells #[.string (tx a)] 28)) (.slice (some ⟨w.heap.size,0,none⟩) 1 1) [a]:=by
 refine ⟨_,_,rfl,Nat.le_refl _,by decide,by simp,fun i hi=>?_⟩
 match i,hi with
 | 0,_=>exact alloc_cells w #[_] _ 0 (by simp)
theorem kink_checkBad (s:QP) (D:List (Rat × Rat)) (hP:PrOk s D) (hI:PrIn D) (vd vl vh:Value) (H:List Rat) (hH:∀ h∈H,OkB h∧withinB D h=false) (h1:0<H.length) (hn:H.length≤1000) (w:World) (hw:Good w) (hvd:Txs w vd (D.map (·.1))) (hvl:Txs w vl (D.map (·.2))) (hvh:Txs w vh H) :
  Calls Tryz.prog 19 #[profV s vd vl,vh] w (RV (.int .i64 3) w):=by
 have HCK:=hid (fun (W:World) (hg:Good W) (h1:Txs W vd (D.map (·.1))) (h2:Txs W vl (D.map (·.2)))=>kink_Check s D hP hI vd vl W hg h1 h2)
 have HWI:=hid (fun k (hk:k<H.length) (W:World) (hg:Good W) (h1:Txs W vd (D.map (·.1))) (h2:Txs W vl (D.map (·.2)))=>kink_within s D hP hI.noDiv H[k] ((hH _ (List.getElem_mem hk)).1.sz.mono (by decide)) vd vl W hg h1 h2)
 have HWT:=hid (fun k (hk:k<H.length)=>(hH _ (List.getElem_mem hk)).2)
 have HRC:=hid (fun k (hk:k<H.length) (W:World) (hg:Good W)=>k_check H[k] (hH _ (List.getElem_mem hk)).1 W hg)
 unfold RV at HCK HWI HRC
 have HVD:=hid hvd
 have HVL:=hid hvl
 obtain ⟨bd,cd,rfl,-,-,-,-⟩:=hvd
 obtain ⟨bl,cl,rfl,-,-,-,-⟩:=hvl
 obtain ⟨bh,ch,rfl,hhn,hhm,hbh,hhc⟩:=hvh
 have HHC:=hid hhc
 have HL1:=hid (show (D.map (·.1)).length=D.length from List.length_map _)
 have HL2:=hid (show (D.map (·.2)).length=D.length from List.length_map _)
 rw [HL1.out,HL2.out] at HCK HWI
 rw [HL1.out] at HVD
 rw [HL2.out] at HVL
 rw [HL1.out,HL2.out]
 obtain ⟨wA,hwA⟩ : ∃ wA,wA=w.alloc (profO s (.slice (some ⟨bd,0,none⟩) D.length cd) (.slice (some ⟨bl,0,none⟩) D.length cl)):=⟨_,rfl⟩
 have HWA:=hid hwA
 have hbA:Below w.heap.size w wA:=by rw [hwA];exact alloc_below _ _
 have hpA:wA.heap[w.heap.size]?=some (profO s (.slice (some ⟨bd,0,none⟩) D.length cd) (.slice (some ⟨bl,0,none⟩) D.length cl)):=by rw [hwA];exact World.alloc_heap_new _ _
 have HPA:=hid hpA
 unfold profV profO at *
 clear hwA hP hI hH hpA hhc
 go_enter Tryz.func19,Tryz.ntmps19
 go_wp2_with fail
 rw [←HWA.out]
 refine (HCK.out wA (hw.below hbA) (HVD.out.below hbA) (HVL.out.below hbA)).mono ?_
 rintro e w1 ⟨rfl,hb1⟩
 have hbw1:=hbA.trans (hb1.mono hbA.size)
 have hg1:=hw.below hbw1
 have hws:=hbw1.size
 have HP1:=hid ((hb1.block _ (lt_of_some HPA.out)).trans HPA.out)
 clear HWA
 go_wp2_with fail
 go_loopw [7,17] (fun _ iv wr=>∃ k:Nat,k≤H.length∧iv=.int .i64 (k:Int)∧Below w1.heap.size w1 wr) (fun _ iv _=>H.length-(intOf iv).toNat)
 case atStart=>exact ⟨0,Nat.zero_le _,rfl,Below.refl _ _⟩
 case round =>
  obtain ⟨k,hk,rfl,hbr⟩:=hrel
  have hwr:=hbr.size
  by_cases hkl:k<H.length
  ·have A0:=(hbr.cell (p:=⟨bh,k,none⟩) (by show bh<_;omega)).trans ((hbw1.cell (p:=⟨bh,k,none⟩) hbh).trans (HHC.out k hkl))
   have i1:(0:Int)≤(k:Int):=by omega
   have i2:(k:Int)<(H.length:Int):=by omega
   have hkn:decide ((k:Int)<(H.length:Int))=true:=decide_eq_true i2
   have H1:=hid (HRC.out k hkl)
   generalize tx H[k]=t at *
   clear HWI
   go_wp2_with fail
   refine (H1.out _ (hg1.below hbr)).mono ?_
   rintro e w2 ⟨rfl,hb2⟩
   go_wp2
   exact ⟨⟨k+1,by omega,int_succ k,hbr.trans (hb2.mono hwr)⟩,by show H.length-((k:Int)+1).toNat<H.length-((k:Int)).toNat;omega⟩
  ·obtain rfl:k=H.length:=by omega
   have hkn:decide ((H.length:Int)<(H.length:Int))=false:=decide_eq_false (by omega)
   have hbw:=hbw1.trans (hbr.mono hws)
   have hgr:=hg1.below hbr
   have HPR:=hid ((hbr.block _ (lt_of_some HP1.out)).trans HP1.out)
   go_wp2_with fail
   go_loopw [9,27] (fun _ iv ws=>∃ k:Nat,k=0∧iv=.int .i64 (k:Int)∧Below wr.heap.size wr ws) (fun _ _ _=>0)
   case atStart=>exact ⟨0,rfl,rfl,Below.refl _ _⟩
   case round =>
    obtain ⟨k,hk0,rfl,hbs⟩:=hrel
    have HK0:=hid hk0
    clear hk0
    have hwss:=hbs.size
    have hbws:=hbw.trans (hbs.mono hbw.size)
    by_cases hkl:k<H.length
    ·have A0:=(hbws.cell (p:=⟨bh,k,none⟩) hbh).trans (HHC.out k hkl)
     have i1:(0:Int)≤(k:Int):=by omega
     have i2:(k:Int)<(H.length:Int):=by omega
     have hkn2:decide ((k:Int)<(H.length:Int))=true:=decide_eq_true i2
     have H1:=hid (HWI.out k hkl)
     rw [HWT.out k hkl] at H1
     obtain ⟨e0,e1,e2,e3⟩:=prof_cells ((hbs.block _ (lt_of_some HPR.out)).trans HPR.out)
     clear HWI HWT HRC
     go_wp2_with fail
     refine (H1.out _ (hw.below hbws) (HVD.out.below hbws) (HVL.out.below hbws)).mono ?_
     rintro e w2 ⟨rfl,hb2⟩
     go_wp2
     go_ret
     exact ⟨rfl,hbws.trans (hb2.mono hbws.size)⟩
    ·have:=HK0.out
     omega
theorem kink_places (v:Value) (f:Nat→QP) (n:Nat) (hn:n≤1000) (hz:∀ i,i<n→OkP (f i)) (w:World) (hw:Good w) (hv:PtsV w v f n) :
  Calls Tryz.prog 20 #[v] w (RV (.tuple #[v,.int .i64 0]) w):=by
 have HPL:=hid (fun i (hi:i<n) w' (hg:Good w')=>kink_place (f i) (hz i hi).1 (hz i hi).2 w' hg)
 obtain ⟨B,cp,rfl,hcl,hcm,hbl,HCE⟩:=hv.cellsB
 have hb:=Below.refl w.heap.size w
 unfold RV at *
 unfold ptV at HPL
 unfold maxLen at hcm
 clear hz hv
 go_enter Tryz.func20,Tryz.ntmps20
 go_wp2_with fail
 go_loopw [2,3,10] (fun _ _ iv wr=>∃ i:Nat,i≤n∧iv=.int .i64 (i:Int)∧Below w.heap.size w wr) (fun _ _ iv _=>n-(intOf iv).toNat)
 case atStart=>exact ⟨0,Nat.zero_le _,rfl,hb⟩
 case round =>
  clear hb
  obtain ⟨i,hil,rfl,hbr⟩:=hrel
  by_cases hi:i<n
  ·have hkn:decide ((i:Int)<(n:Int))=true:=decide_eq_true (by omega)
   have i1:(0:Int)≤(i:Int):=by omega
   have i2:(i:Int)<(n:Int):=by omega
   have hblr:B<wr.heap.size:=Nat.lt_of_lt_of_le hbl hbr.size
   obtain ⟨c0,c1⟩:=HCE.out i hi wr hbr
   have H1:=hid (HPL.out i hi)
   generalize tx (f i).1=y1 at *
   generalize tx (f i).2=y2 at *
   go_upto_region 4 with fail
   obtain ⟨wC,hwC⟩ : ∃ wC,wC=wr.alloc (Obj.cells #[.string y1,.string y2] 30):=⟨_,rfl⟩
   obtain ⟨hbC,hlC,z0,z1⟩:=box_pt hwC
   rw [←hwC]
   clear hwC c0 c1
   have hb2:=hbr.trans (hbC.mono hbr.size)
   go_wp2_with fail
   refine (H1.out wC (hw.below hb2)).mono ?_
   rintro e w1 ⟨rfl,hw1⟩
   have hb3:=hb2.trans (hw1.mono hb2.size)
   go_wp2
   refine ⟨⟨i+1,hi,int_succ _,hb3.alloc hb3.size _⟩,?_⟩
   show n-((i:Int)+1).toNat<n-((i:Int)).toNat
   omega
  ·have hkn:decide ((i:Int)<(n:Int))=false:=decide_eq_false (by omega)
   go_wp2
   go_ret2
   exact ⟨rfl,hbr⟩
def BedPost (s:QP) (D:List (Rat × Rat)) (h:Rat) (w:World) (e:Ending) (w':World):Prop:=∃ v,e=.returned (.tuple #[v,.int .i64 0])∧PtsV w' v (bedQ s D h) (D.length+1)∧Below w.heap.size w w'
theorem kink_Bed (s:QP) (D:List (Rat × Rat)) (hP:PrOk s D) (hI:PrIn D) (vd vl:Value) (h:Rat) (hh:OkB h) (hwi:withinB D h=true) (hz:∀ i,i<D.length+1→OkP (bedQ s D h i)) (w:World) (hw:Good w) (hvd:Txs w vd (D.map (·.1))) (hvl:Txs w vl (D.map (·.2))) :
  Calls Tryz.prog 7 #[profV s vd vl,.string (tx h)] w (BedPost s D h w):=by
 have hn4:=hP.n
 have HCH:=hid (fun (W:World) (vh:Value) (hg:Good W) (h1:Txs W vd (D.map (·.1))) (h2:Txs W vl (D.map (·.2))) (h3:Txs W vh [h])=>kink_checkHeights s D hP hI vd vl vh [h] (fun x hx=>by rw [List.mem_singleton.1 hx];exact ⟨hh,hwi⟩) (by simp) W hg h1 h2 h3)
 have HBE:=hid (fun (W:World) (hg:Good W) (h1:Txs W vd (D.map (·.1))) (h2:Txs W vl (D.map (·.2)))=>kink_bed s D hP hI.noDiv h (hh.sz.mono (by decide)) vd vl W hg h1 h2)
 have HPL:=hid (fun (W:World) (v:Value) (hg:Good W) (hv:PtsV W v (bedQ s D h) (D.length+1))=>kink_places v (bedQ s D h) (D.length+1) (by omega) hz W hg hv)
 unfold RV at HCH HPL
 unfold BedPost
 have HVD:=hid hvd
 have HVL:=hid hvl
 obtain ⟨bd,cd,rfl,-,-,-,-⟩:=hvd
 obtain ⟨bl,cl,rfl,-,-,-,-⟩:=hvl
 have HL1:=hid (show (D.map (·.1)).length=D.length from List.length_map _)
 have HL2:=hid (show (D.map (·.2)).length=D.length from List.length_map _)
 rw [HL1.out,HL2.out] at HCH HBE
 rw [HL1.out] at HVD
 rw [HL2.out] at HVL
 rw [HL1.out,HL2.out]
 obtain ⟨wA,hwA⟩ : ∃ wA,wA=w.alloc (profO s (.slice (some ⟨bd,0,none⟩) D.length cd) (.slice (some ⟨bl,0,none⟩) D.length cl)):=⟨_,rfl⟩
 obtain ⟨wB,hwB⟩ : ∃ wB,wB=wA.alloc (Obj.cells #[.string (tx h)] 28):=⟨_,rfl⟩
 have hbA:Below w.heap.size w wA:=by rw [hwA];exact alloc_below _ _
 have hbB:Below wA.heap.size wA wB:=by rw [hwB];exact alloc_below _ _
 have hpA:wA.heap[w.heap.size]?=some (profO s (.slice (some ⟨bd,0,none⟩) D.length cd) (.slice (some ⟨bl,0,none⟩) D.length cl)):=by rw [hwA];exact World.alloc_heap_new _ _
 have HPB:=hid ((hbB.block _ (lt_of_some hpA)).trans hpA)
 have hsA:wA.heap.size=w.heap.size+1:=by rw [hwA];simp
 have HTW:=hid (show Txs wB (.slice (some ⟨w.heap.size+1,0,none⟩) 1 1) [h] by rw [hwB,←hsA];exact txs_hone h wA)
 have hbw:=hbA.trans (hbB.mono hbA.size)
 rw [hwA] at hwB
 have HWB:=hid hwB
 unfold profV profO at *
 clear hwA hwB hP hI hpA hsA hbA hbB hz hwi hh
 go_enter Tryz.func7,Tryz.ntmps7
 go_wp2_with fail
 rw [←HWB.out]
 refine (HCH.out wB _ (hw.below hbw) (HVD.out.below hbw) (HVL.out.below hbw) HTW.out).mono ?_
 rintro e w1 ⟨rfl,hb1⟩
 have hb01:=hbw.trans (hb1.mono hbw.size)
 have HP1:=hid ((hb1.block _ (lt_of_some HPB.out)).trans HPB.out)
 clear HWB HTW
 obtain ⟨e0,e1,e2,e3⟩:=prof_cells HP1.out
 go_wp2_with fail
 refine (HBE.out w1 (hw.below hb01) (HVD.out.below hb01) (HVL.out.below hb01)).mono ?_
 rintro e w2 ⟨v,rfl,hv,-,hb2⟩
 have hb02:=hb01.trans (hb2.mono hb01.size)
 have H2:=hid (HPL.out w2 v (hw.below hb02) hv)
 have HV2:=hid hv
 clear hv e0 e1 e2 e3
 go_wp2_with fail
 refine H2.out.mono ?_
 rintro e w3 ⟨rfl,hb3⟩
 go_wp2
 go_ret2
 exact ⟨v,rfl,HV2.out.below hb3,hb02.trans (hb3.mono hb02.size)⟩
theorem kink_Bed_bad (s:QP) (D:List (Rat × Rat)) (hP:PrOk s D) (hI:PrIn D) (vd vl:Value) (h:Rat) (hh:OkB h) (hwi:withinB D h=false) (w:World) (hw:Good w) (hvd:Txs w vd (D.map (·.1))) (hvl:Txs w vl (D.map (·.2))) :
  Calls Tryz.prog 7 #[profV s vd vl,.string (tx h)] w (RV (.tuple #[.slice none 0 0,.int .i64 3]) w):=by
 have HCH:=hid (fun (W:World) (vh:Value) (hg:Good W) (h1:Txs W vd (D.map (·.1))) (h2:Txs W vl (D.map (·.2))) (h3:Txs W vh [h])=>kink_checkBad s D hP hI vd vl vh [h] (fun x hx=>by rw [List.mem_singleton.1 hx];exact ⟨hh,hwi⟩) (by simp) (by simp) W hg h1 h2 h3)
 unfold RV at *
 have HVD:=hid hvd
 have HVL:=hid hvl
 obtain ⟨bd,cd,rfl,-,-,-,-⟩:=hvd
 obtain ⟨bl,cl,rfl,-,-,-,-⟩:=hvl
 have HL1:=hid (show (D.map (·.1)).length=D.length from List.length_map _)
 have HL2:=hid (show (D.map (·.2)).length=D.length from List.length_map _)
 rw [HL1.out,HL2.out] at HCH
 rw [HL1.out] at HVD
 rw [HL2.out] at HVL
 rw [HL1.out,HL2.out]
 obtain ⟨wA,hwA⟩ : ∃ wA,wA=w.alloc (profO s (.slice (some ⟨bd,0,none⟩) D.length cd) (.slice (some ⟨bl,0,none⟩) D.length cl)):=⟨_,rfl⟩
 obtain ⟨wB,hwB⟩ : ∃ wB,wB=wA.alloc (Obj.cells #[.string (tx h)] 28):=⟨_,rfl⟩
 have hbA:Below w.heap.size w wA:=by rw [hwA];exact alloc_below _ _
 have hbB:Below wA.heap.size wA wB:=by rw [hwB];exact alloc_below _ _
 have hpA:wA.heap[w.heap.size]?=some (profO s (.slice (some ⟨bd,0,none⟩) D.length cd) (.slice (some ⟨bl,0,none⟩) D.length cl)):=by rw [hwA];exact World.alloc_heap_new _ _
 have HPB:=hid ((hbB.block _ (lt_of_some hpA)).trans hpA)
 have hsA:wA.heap.size=w.heap.size+1:=by rw [hwA];simp
 have HTW:=hid (show Txs wB (.slice (some ⟨w.heap.size+1,0,none⟩) 1 1) [h] by rw [hwB,←hsA];exact txs_hone h wA)
 have hbw:=hbA.trans (hbB.mono hbA.size)
 rw [hwA] at hwB
 have HWB:=hid hwB
 unfold profV profO at *
 clear hwA hwB hP hI hpA hsA hbA hbB hwi hh
 go_enter Tryz.func7,Tryz.ntmps7
 go_wp2_with fail
 rw [←HWB.out]
 refine (HCH.out wB _ (hw.below hbw) (HVD.out.below hbw) (HVL.out.below hbw) HTW.out).mono ?_
 rintro e w1 ⟨rfl,hb1⟩
 have hb01:=hbw.trans (hb1.mono hbw.size)
 have HP1:=hid ((hb1.block _ (lt_of_some HPB.out)).trans HPB.out)
 clear HWB HTW
 go_wp2
 go_ret2
 exact ⟨rfl,hb01⟩
theorem kink_Length (s:QP) (D:List (Rat × Rat)) (hP:PrOk s D) (hI:PrIn D) (vd vl:Value) (h:Rat) (hh:OkB h) (hwi:withinB D h=true) (hS:∀ k,k≤D.length→Sz 100000 (sumR ((lgL D h).take k))) (hok:OkB (sumR (lgL D h))) (w:World) (hw:Good w) (hvd:Txs w vd (D.map (·.1))) (hvl:Txs w vl (D.map (·.2))) :
  Calls Tryz.prog 13 #[profV s vd vl,.string (tx h)] w (RV (.tuple #[.string (tx (sumR (lgL D h))),.int .i64 0]) w):=by
 have za:Sz 3000000 h:=hh.sz.mono (by decide)
 have HCH:=hid (fun (W:World) (vh:Value) (hg:Good W) (h1:Txs W vd (D.map (·.1))) (h2:Txs W vl (D.map (·.2))) (h3:Txs W vh [h])=>kink_checkHeights s D hP hI vd vl vh [h] (fun x hx=>by rw [List.mem_singleton.1 hx];exact ⟨hh,hwi⟩) (by simp) W hg h1 h2 h3)
 have HLE:=hid (fun (W:World) (hg:Good W) (h1:Txs W vd (D.map (·.1))) (h2:Txs W vl (D.map (·.2)))=>kink_lengths s D hP hI.noDiv h za vd vl W hg h1 h2)
 have HSU:=hid (fun (W:World) (v:Value) (hg:Good W) (hv:Txs W v (lgL D h))=>rat_Sum v (lgL D h) (fun c hc=>by
   obtain ⟨i,hi,rfl⟩:=List.mem_iff_getElem.1 hc
   rw [lgL_get hi]
   exact (hP.lgz za i).mono (by decide)) (fun i hi=>by
   have hl:(lgL D h).length=D.length:=by unfold lgL;simp
   exact (hS i (by omega)).mono (by decide)) W hg hv)
 have HRE:=hid (fun (W:World) (hg:Good W)=>kink_result (sumR (lgL D h)) hok W hg)
 unfold RV at *
 have HVD:=hid hvd
 have HVL:=hid hvl
 obtain ⟨bd,cd,rfl,-,-,-,-⟩:=hvd
 obtain ⟨bl,cl,rfl,-,-,-,-⟩:=hvl
 have HL1:=hid (show (D.map (·.1)).length=D.length from List.length_map _)
 have HL2:=hid (show (D.map (·.2)).length=D.length from List.length_map _)
 rw [HL1.out,HL2.out] at HCH HLE
 rw [HL1.out] at HVD
 rw [HL2.out] at HVL
 rw [HL1.out,HL2.out]
 obtain ⟨wA,hwA⟩ : ∃ wA,wA=w.alloc (profO s (.slice (some ⟨bd,0,none⟩) D.length cd) (.slice (some ⟨bl,0,none⟩) D.length cl)):=⟨_,rfl⟩
 obtain ⟨wB,hwB⟩ : ∃ wB,wB=wA.alloc (Obj.cells #[.string (tx h)] 28):=⟨_,rfl⟩
 have hbA:Below w.heap.size w wA:=by rw [hwA];exact alloc_below _ _
 have hbB:Below wA.heap.size wA wB:=by rw [hwB];exact alloc_below _ _
 have hpA:wA.heap[w.heap.size]?=some (profO s (.slice (some ⟨bd,0,none⟩) D.length cd) (.slice (some ⟨bl,0,none⟩) D.length cl)):=by rw [hwA];exact World.alloc_heap_new _ _
 have HPB:=hid ((hbB.block _ (lt_of_some hpA)).trans hpA)
 have hsA:wA.heap.size=w.heap.size+1:=by rw [hwA];simp
 have HTW:=hid (show Txs wB (.slice (some ⟨w.heap.size+1,0,none⟩) 1 1) [h] by rw [hwB,←hsA];exact txs_hone h wA)
 have hbw:=hbA.trans (hbB.mono hbA.size)
 rw [hwA] at hwB
 have HWB:=hid hwB
 unfold profV profO at *
 clear hwA hwB hP hI hpA hsA hbA hbB hwi hh hS hok za
 go_enter Tryz.func13,Tryz.ntmps13
 go_wp2_with fail
 rw [←HWB.out]
 refine (HCH.out wB _ (hw.below hbw) (HVD.out.below hbw) (HVL.out.below hbw) HTW.out).mono ?_
 rintro e w1 ⟨rfl,hb1⟩
 have hb01:=hbw.trans (hb1.mono hbw.size)
 have HP1:=hid ((hb1.block _ (lt_of_some HPB.out)).trans HPB.out)
 clear HWB HTW
 obtain ⟨e0,e1,e2,e3⟩:=prof_cells HP1.out
 go_wp2_with fail
 refine (HLE.out w1 (hw.below hb01) (HVD.out.below hb01) (HVL.out.below hb01)).mono ?_
 rintro e w2 ⟨v,rfl,hv,-,hb2⟩
 have hb02:=hb01.trans (hb2.mono hb01.size)
 have H2:=hid (HSU.out w2 v (hw.below hb02) hv)
 clear hv e0 e1 e2 e3
 go_wp2_with fail
 refine H2.out.mono ?_
 rintro e w3 ⟨rfl,hb3⟩
 have hb03:=hb02.trans (hb3.mono hb02.size)
 go_wp2_with fail
 refine (HRE.out w3 (hw.below hb03)).mono ?_
 rintro e w4 ⟨rfl,hb4⟩
 go_wp2
 go_ret2
 exact ⟨rfl,hb03.trans (hb4.mono hb03.size)⟩
theorem kink_Area4 (s:QP) (D:List (Rat × Rat)) (hP:PrOk s D) (hI:PrIn D) (vd vl:Value) (a b:Rat) (ha:OkB a) (hb:OkB b) (hwa:withinB D a=true) (hwb:withinB D b=true) (hab:a<b) (hA:OkB (areaQ D a b)) (hSa:∀ k,k≤D.length→Sz 100000 (sumR ((lgL D a).take k))) (hSb:∀ k,k≤D.length→Sz 100000 (sumR ((lgL D b).take k))) (w:World) (hw:Good w) (hvd:Txs w vd (D.map (·.1))) (hvl:Txs w vl (D.map (·.2))) :
  Calls Tryz.prog 8 #[profV s vd vl,.string (tx a),.string (tx b)] w (RV (.tuple #[.string (tx (areaQ D a b)),.int .i64 0]) w):=by
 have za:Sz 3000000 a:=ha.sz.mono (by decide)
 have zb:Sz 3000000 b:=hb.sz.mono (by decide)
 have szA:Sz 100000 (sumR (lgL D a)):=by
  have h1:=hSa D.length (Nat.le_refl _)
  rwa [List.take_of_length_le (by unfold lgL;simp)] at h1
 have szB:Sz 100000 (sumR (lgL D b)):=by
  have h1:=hSb D.length (Nat.le_refl _)
  rwa [List.take_of_length_le (by unfold lgL;simp)] at h1
 have HCH:=hid (fun (W:World) (vh:Value) (hg:Good W) (h1:Txs W vd (D.map (·.1))) (h2:Txs W vl (D.map (·.2))) (h3:Txs W vh [a,b])=>kink_checkHeights s D hP hI vd vl vh [a,b] (fun h hh=>by
  rcases List.mem_cons.1 hh with e | e
  ·rw [e];exact ⟨ha,hwa⟩
  ·rw [List.mem_singleton.1 e];exact ⟨hb,hwb⟩) (by simp) W hg h1 h2 h3)
 have HLE:=hid (fun (h:Rat) (hh:Sz 3000000 h) (W:World) (hg:Good W) (h1:Txs W vd (D.map (·.1))) (h2:Txs W vl (D.map (·.2)))=>kink_lengths s D hP hI.noDiv h hh vd vl W hg h1 h2)
 have HSU:=hid (fun (h:Rat) (hh:Sz 3000000 h) (hS:∀ k,k≤D.length→Sz 100000 (sumR ((lgL D h).take k))) (W:World) (v:Value) (hg:Good W) (hv:Txs W v (lgL D h))=>rat_Sum v (lgL D h) (fun c hc=>by
   obtain ⟨i,hi,rfl⟩:=List.mem_iff_getElem.1 hc
   rw [lgL_get hi]
   exact (hP.lgz hh i).mono (by decide)) (fun i hi=>by
   have hl:(lgL D h).length=D.length:=by unfold lgL;simp
   exact (hS i (by omega)).mono (by decide)) W hg hv)
 have HMI:=hid (fun (W:World) (hg:Good W)=>k_mid (sumR (lgL D a)) (sumR (lgL D b)) (szA.mono (by decide)) (szB.mono (by decide)) W hg)
 have HCM:=hid (fun (W:World) (hg:Good W)=>k_cmp a b (za.mono (by decide)) (zb.mono (by decide)) W hg)
 have HSB:=hid (fun (W:World) (hg:Good W)=>k_sub b a (zb.mono (by decide)) (za.mono (by decide)) W hg)
 have zm:Sz 500000000 ((sumR (lgL D a)+sumR (lgL D b))*(1/2)):=(((szA.add szB)).mul (show Sz 3 (1/2) by unfold Sz;decide +kernel)).mono (by decide)
 have HMU:=hid (fun (W:World) (hg:Good W)=>show Calls Tryz.prog 10 #[.string (tx ((sumR (lgL D a)+sumR (lgL D b))*(1/2))),.string (tx (b-a))] W (RV (.string (tx (areaQ D a b))) W) from
  k_mul _ _ (zm.mono (by decide)) ((zb.sub za).mono (by decide)) W hg)
 have HRE:=hid (fun (W:World) (hg:Good W)=>kink_result (areaQ D a b) hA W hg)
 have HCN:=hid (show decide (0≤cmpR a b)=false from decide_eq_false (by have:=cmpR_neg.2 hab;omega))
 unfold RV at HCH HSU HMI HCM HSB HMU HRE
 have HVD:=hid hvd
 have HVL:=hid hvl
 have HZA:=hid za
 have HZB:=hid zb
 have HSA:=hid hSa
 have HSB4:=hid hSb
 obtain ⟨bd,cd,rfl,-,-,-,-⟩:=hvd
 obtain ⟨bl,cl,rfl,-,-,-,-⟩:=hvl
 have HL1:=hid (show (D.map (·.1)).length=D.length from List.length_map _)
 have HL2:=hid (show (D.map (·.2)).length=D.length from List.length_map _)
 rw [HL1.out,HL2.out] at HCH HLE
 rw [HL1.out] at HVD
 rw [HL2.out] at HVL
 rw [HL1.out,HL2.out]
 obtain ⟨wA,hwA⟩ : ∃ wA,wA=w.alloc (profO s (.slice (some ⟨bd,0,none⟩) D.length cd) (.slice (some ⟨bl,0,none⟩) D.length cl)):=⟨_,rfl⟩
 obtain ⟨wB,hwB⟩ : ∃ wB,wB=wA.alloc (Obj.cells #[.string (tx a),.string (tx b)] 28):=⟨_,rfl⟩
 have hbA:Below w.heap.size w wA:=by rw [hwA];exact alloc_below _ _
 have hbB:Below wA.heap.size wA wB:=by rw [hwB];exact alloc_below _ _
 have hpA:wA.heap[w.heap.size]?=some (profO s (.slice (some ⟨bd,0,none⟩) D.length cd) (.slice (some ⟨bl,0,none⟩) D.length cl)):=by rw [hwA];exact World.alloc_heap_new _ _
 have HPB:=hid ((hbB.block _ (lt_of_some hpA)).trans hpA)
 have hsA:wA.heap.size=w.heap.size+1:=by rw [hwA];simp
 have HTW:=hid (show Txs wB (.slice (some ⟨w.heap.size+1,0,none⟩) 2 2) [a,b] by rw [hwB,←hsA];exact txs_two a b wA)
 have hbw:=hbA.trans (hbB.mono hbA.size)
 rw [hwA] at hwB
 have HWB:=hid hwB
 unfold profV profO at *
 generalize cmpR a b=cm at *
 have hcn:=HCN.out
 clear hwA hwB hP hI hpA hsA ha hb hwa hwb hab hA za zb zm szA szB hSa hSb hbA hbB
 go_enter Tryz.func8,Tryz.ntmps8
 go_wp2_with fail
 rw [←HWB.out]
 refine (HCH.out wB _ (hw.below hbw) (HVD.out.below hbw) (HVL.out.below hbw) HTW.out).mono ?_
 rintro e w1 ⟨rfl,hb1⟩
 have hb01:=hbw.trans (hb1.mono hbw.size)
 have HP1:=hid ((hb1.block _ (lt_of_some HPB.out)).trans HPB.out)
 clear HWB
 go_wp2_with fail
 refine (HCM.out w1 (hw.below hb01)).mono ?_
 rintro e w2 ⟨rfl,hb2⟩
 have hb02:=hb01.trans (hb2.mono hb01.size)
 have HP2:=hid ((hb2.block _ (lt_of_some HP1.out)).trans HP1.out)
 obtain ⟨e0,e1,e2,e3⟩:=prof_cells HP2.out
 have lp:=lt_of_some HP2.out
 go_wp2_with fail
 refine wp_held_list (fun W'=>Below w2.heap.size w2 W') [0,1,4,5] [2,3,6,7,8] 9 (by kernel_rfl) (by kernel_rfl) ⟨rfl,rfl,rfl,Nat.le_refl _,fun _ _=>rfl⟩ ?_
 iterate 4
  refine wpTakeL_step rfl ?_ rfl ?_ ?_
  rotate_left
  ·intro W' hS'
   have s4:=(hS'.cell (p:=⟨w.heap.size,0,none⟩) lp).trans e0
   have s5:=(hS'.cell (p:=⟨w.heap.size,1,none⟩) lp).trans e1
   have s6:=(hS'.cell (p:=⟨w.heap.size,2,none⟩) lp).trans e2
   have s7:=(hS'.cell (p:=⟨w.heap.size,3,none⟩) lp).trans e3
   go_simp
   try with_reducible rfl
  try simp only [zA,zB,zC,Act.put,zD,zE,zF]
 have hH0:Below w2.heap.size w2 w2.drew:=⟨rfl,rfl,rfl,Nat.le_refl _,fun _ _=>rfl⟩
 have G:∀ {W':World},Below w2.heap.size w2 W'→Below w.heap.size w W':=fun h=>hb02.trans (h.mono hb02.size)
 refine wpKeepL_step rfl rfl (fun K hK=>?_)
 go_simp
 refine (HLE.out a HZA.out _ (hw.below (G hH0)) (HVD.out.below (G hH0)) (HVL.out.below (G hH0))).mono ?_
 rintro e v1 ⟨u1,rfl,hu1,-,hv1⟩
 have hH1:=hH0.trans (hv1.mono hH0.size)
 refine hK _ _ ⟨hH1,?_⟩
 clear hK K
 try simp only [zA,zB,zC,Act.put,zD,zE,zF]
 refine wpKeepL_step rfl rfl (fun K hK=>?_)
 go_simp
 refine (HSU.out a HZA.out HSA.out v1 u1 (hw.below (G hH1)) hu1).mono ?_
 rintro e v2 ⟨rfl,hv2⟩
 have hH2:=hH1.trans (hv2.mono hH1.size)
 refine hK _ _ ⟨hH2,?_⟩
 clear hK K
 try simp only [zA,zB,zC,Act.put,zD,zE,zF]
 refine wpKeepL_step rfl rfl (fun K hK=>?_)
 go_simp
 refine (HLE.out b HZB.out _ (hw.below (G hH2)) (HVD.out.below (G hH2)) (HVL.out.below (G hH2))).mono ?_
 rintro e v3 ⟨u3,rfl,hu3,-,hv3⟩
 have hH3:=hH2.trans (hv3.mono hH2.size)
 refine hK _ _ ⟨hH3,?_⟩
 clear hK K
 try simp only [zA,zB,zC,Act.put,zD,zE,zF]
 refine wpKeepL_step rfl rfl (fun K hK=>?_)
 go_simp
 refine (HSU.out b HZB.out HSB4.out v3 u3 (hw.below (G hH3)) hu3).mono ?_
 rintro e v4 ⟨rfl,hv4⟩
 have hH4:=hH3.trans (hv4.mono hH3.size)
 refine hK _ _ ⟨hH4,?_⟩
 clear hK K
 try simp only [zA,zB,zC,Act.put,zD,zE,zF]
 refine wpKeepL_step rfl rfl (fun K hK=>?_)
 go_simp
 refine (HMI.out v4 (hw.below (G hH4))).mono ?_
 rintro e v5 ⟨rfl,hv5⟩
 have hH5:=hH4.trans (hv5.mono hH4.size)
 refine hK _ _ ⟨hH5,?_⟩
 clear hK K
 try simp only [zA,zB,zC,Act.put,zD,zE,zF]
 unfold wpKeepL
 simp only [List.drop_succ_cons,List.drop_zero]
 refine wpKeep_step rfl (fun K hK=>?_)
 go_simp
 refine hK _ _ ⟨trivial,wpKeep_nil ?_⟩
 clear hK K
 try simp only [zA,zB,zC,Act.put,zD,zE,zF]
 refine NormalOnly.mk ?_
 clear e0 e1 e2 e3
 go_wp2_with fail
 refine (HSB.out v5 (hw.below (G hH5))).mono ?_
 rintro e v6 ⟨rfl,hv6⟩
 have hH6:=hH5.trans (hv6.mono hH5.size)
 go_wp2_with fail
 refine (HMU.out v6 (hw.below (G hH6))).mono ?_
 rintro e v7 ⟨rfl,hv7⟩
 have hH7:=hH6.trans (hv7.mono hH6.size)
 go_wp2_with fail
 refine (HRE.out v7 (hw.below (G hH7))).mono ?_
 rintro e v8 ⟨rfl,hv8⟩
 have hH8:=hH7.trans (hv8.mono hH7.size)
 go_wp2
 go_ret2
 exact ⟨rfl,G hH8⟩
end Go.Proofs.YtogdahbbogimcaaGreatDoor
