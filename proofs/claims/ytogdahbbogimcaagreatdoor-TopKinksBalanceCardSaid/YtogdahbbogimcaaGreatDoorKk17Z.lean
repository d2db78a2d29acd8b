import Derived.Test.YtogdahbbogimcaaGreatDoorKk12Z
set_option maxRecDepth 100000
set_option maxHeartbeats 8000000
namespace Go.Proofs.YtogdahbbogimcaaGreatDoor
open Go.RowKit Go.Shelf
open Go.Lib (decDigits itoa nDigits)
open Go.Lib (hid)
theorem kink_result (q:Rat) (h:OkB q) (w:World) (hw:Good w):Calls Tryz.prog 26 #[.string (tx q)] w (RV (.tuple #[.string (tx q),.int .i64 0]) w):=by
 have HC:=hid (fun w' (hg:Good w')=>k_check q h w' hg)
 unfold RV at HC
 generalize tx q=t at *
 clear h
 go_enter Tryz.func26,Tryz.ntmps26
 go_wp2_with fail
 refine (HC.out _ hw).mono ?_
 rintro e w1 ⟨rfl,hb1⟩
 go_wp2
 go_ret2
 exact ⟨rfl,hb1⟩
theorem kink_Direction (t:Rat) (h:OkB t) (h1:OkB (dirQ t).1) (h2:OkB (dirQ t).2) (w:World) (hw:Good w):Calls Tryz.prog 40 #[.string (tx t)] w (RV (.tuple #[ptV (dirQ t),.int .i64 0]) w):=by
 have HC:=hid (fun w' (hg:Good w')=>k_check t h w' hg)
 have HD:=hid (fun w' (hg:Good w')=>kink_direction t (h.sz.mono (by decide)) w' hg)
 have HP:=hid (fun w' (hg:Good w')=>kink_place (dirQ t) h1 h2 w' hg)
 unfold RV at HC HD HP
 unfold ptV at HD HP ⊢
 generalize tx (dirQ t).1=x1 at *
 generalize tx (dirQ t).2=y1 at *
 generalize tx t=t1 at *
 clear h h1 h2
 obtain ⟨wA,hwA⟩ : ∃ wA,wA=w.alloc (Obj.cells #[.string ⟨#[]⟩,.string ⟨#[]⟩] 30):=⟨_,rfl⟩
 have hbA:Below w.heap.size w wA:=by rw [hwA];exact alloc_below _ _
 have hxA:wA.heap[w.heap.size]?=some (.cells #[.string ⟨#[]⟩,.string ⟨#[]⟩] 30 (0,0)):=by rw [hwA];exact World.alloc_heap_new _ _
 have XA:=hid hxA
 have HWA:=hid hwA
 clear hwA hxA
 go_enter Tryz.func40,Tryz.ntmps40
 go_wp2_with fail
 rw [←HWA.out]
 refine (HC.out _ (hw.below hbA)).mono ?_
 rintro e w1 ⟨rfl,hb1⟩
 have hb01:=hbA.trans (hb1.mono hbA.size)
 go_wp2_with fail
 refine (HD.out _ (hw.below hb01)).mono ?_
 rintro e w2 ⟨rfl,hb2⟩
 have hb02:=hb01.trans (hb2.mono hb01.size)
 go_wp2_with fail
 refine (HP.out _ (hw.below hb02)).mono ?_
 rintro e w3 ⟨rfl,hb3⟩
 have hbw:=hb02.trans (hb3.mono hb02.size)
 have hbq:=hb1.trans ((hb2.mono hb1.size).trans (hb3.mono (Nat.le_trans hb1.size hb2.size)))
 have hp3:=(hbq.block _ (lt_of_blk XA.out)).trans XA.out
 obtain ⟨_,_,_,_⟩:=two_cells hp3
 have hpz:=two_set1 (.string y1) (two_set0 (.string x1) hp3)
 obtain ⟨q0,q1,_,_⟩:=two_cells hpz
 have Q0:=hid q0
 have Q1:=hid q1
 clear hpz hp3 q0 q1
 go_wp2
 have q0:=Q0.out
 have q1:=Q1.out
 refine bodyPost_ret (v:=.tuple #[.agg #[.string x1,.string y1],.int .i64 0]) (by simp [results,Tryz.results40,go_sem,q0,q1]) rfl ⟨rfl,?_⟩
 exact (hbw.setCell (p:=⟨w.heap.size,0,none⟩) (by simp) _).setCell (p:=⟨w.heap.size,1,none⟩) (by simp) _
theorem kink_checkHeights (s:QP) (D:List (Rat × Rat)) (hP:PrOk s D) (hI:PrIn D) (vd vl vh:Value) (H:List Rat) (hH:∀ h∈H,OkB h∧withinB D h=true) (hn:H.length≤1000) (w:World) (hw:Good w) (hvd:Txs w vd (D.map (·.1))) (hvl:Txs w vl (D.map (·.2))) (hvh:Txs w vh H) :
  Calls Tryz.prog 19 #[profV s vd vl,vh] w (RV (.int .i64 0) w):=by
 have HCK:=hid (fun (W:World) (hg:Good W) (h1:Txs W vd (D.map (·.1))) (h2:Txs W vl (D.map (·.2)))=>kink_Check s D hP hI vd vl W hg h1 h2)
 have HWI:=hid (fun k (hk:k<H.length) (W:World) (hg:Good W) (h1:Txs W vd (D.map (·.1))) (h2:Txs W vl (D.map (·.2)))=>kink_within s D hP hI.noDiv H[k] ((hH _ (List.getElem_mem hk)).1.sz.mono (by decide)) vd vl W hg h1 h2)
 have HWT:=hid (fun k (hk:k<H.length)=>(hH _ (List.getElem_mem hk)).2)
 have HRC:=hid (fun k (hk:k<H.length) (W:World) (hg:Good W)=>k_check H[k] (hH _ (List.getElem_mem hk)).1 W hg)
 unfold RV at HCK HWI HRC
 have HVD:=hid hvd
 have HVL:=hid hvl
 obtain ⟨bd,cd,rfl,-,-,-,-⟩:=hvd
 obtain ⟨bl,cl,rfl,-,-,-,-⟩:=hvl
 obtain ⟨bh,ch,rfl,hhn,hhm,hbh,hhc⟩:=hvh
 have HHC:=hid hhc
 have HL1:=hid (show (D.map (·.1)).length=D.length from List.length_map _)
 have HL2:=hid (show (D.map (·.2)).length=D.length from List.length_map _)
 rw [HL1.out,HL2.out] at HCK HWI
 rw [HL1.out] at HVD
 rw [HL2.out] at HVL
 rw [HL1.out,HL2.out]
 obtain ⟨wA,hwA⟩ : ∃ wA,wA=w.alloc (profO s (.slice (some ⟨bd,0,none⟩) D.length cd) (.slice (some ⟨bl,0,none⟩) D.length cl)):=⟨_,rfl⟩
 have HWA:=hid hwA
 have hbA:Below w.heap.size w wA:=by rw [hwA];exact alloc_below _ _
 have hpA:wA.heap[w.heap.size]?=some (profO s (.slice (some ⟨bd,0,none⟩) D.length cd) (.slice (some ⟨bl,0,none⟩) D.length cl)):=by rw [hwA];exact World.alloc_heap_new _ _
 have HPA:=hid hpA
 unfold profV profO at *
 clear hwA hP hI hH hpA hhc
 go_enter Tryz.func19,Tryz.ntmps19
 go_wp2_with fail
 rw [←HWA.out]
 refine (HCK.out wA (hw.below hbA) (HVD.out.below hbA) (HVL.out.below hbA)).mono ?_
 rintro e w1 ⟨rfl,hb1⟩
 have hbw1:=hbA.trans (hb1.mono hbA.size)
 have hg1:=hw.below hbw1
 have hws:=hbw1.size
 have HP1:=hid ((hb1.block _ (lt_of_some HPA.out)).trans HPA.out)
 clear HWA
 go_wp2_with fail
 go_loopw [7,17] (fun _ iv wr=>∃ k:Nat,k≤H.length∧iv=.int .i64 (k:Int)∧Below w1.heap.size w1 wr) (fun _ iv _=>H.length-(intOf iv).toNat)
 case atStart=>exact ⟨0,Nat.zero_le _,rfl,Below.refl _ _⟩
 case round =>
  obtain ⟨k,hk,rfl,hbr⟩:=hrel
  have hwr:=hbr.size
  by_cases hkl:k<H.length
  ·have A0:=(hbr.cell (p:=⟨bh,k,none⟩) (by show bh<_;omega)).trans ((hbw1.cell (p:=⟨bh,k,none⟩) hbh).trans (HHC.out k hkl))
   have i1:(0:Int)≤(k:Int):=by omega
   have i2:(k:Int)<(H.length:Int):=by omega
   have hkn:decide ((k:Int)<(H.length:Int))=true:=decide_eq_true i2
   have H1:=hid (HRC.out k hkl)
   generalize tx H[k]=t at *
   clear HWI
   go_wp2_with fail
   refine (H1.out _ (hg1.below hbr)).mono ?_
   rintro e w2 ⟨rfl,hb2⟩
   go_wp2
   exact ⟨⟨k+1,by omega,int_succ k,hbr.trans (hb2.mono hwr)⟩,by show H.length-((k:Int)+1).toNat<H.length-((k:Int)).toNat;omega⟩
  ·obtain rfl:k=H.length:=by omega
   have hkn:decide ((H.length:Int)<(H.length:Int))=false:=decide_eq_false (by omega)
   have hbw:=hbw1.trans (hbr.mono hws)
   have hgr:=hg1.below hbr
   have HPR:=hid ((hbr.block _ (lt_of_some HP1.out)).trans HP1.out)
   go_wp2_with fail
   go_loopw [9,27] (fun _ iv ws=>∃ k:Nat,k≤H.length∧iv=.int .i64 (k:Int)∧Below wr.heap.size wr ws) (fun _ iv _=>H.length-(intOf iv).toNat)
   case atStart=>exact ⟨0,Nat.zero_le _,rfl,Below.refl _ _⟩
   case round =>
    obtain ⟨k,hk,rfl,hbs⟩:=hrel
    have hwss:=hbs.size
    have hbws:=hbw.trans (hbs.mono hbw.size)
    by_cases hkl:k<H.length
    ·have A0:=(hbws.cell (p:=⟨bh,k,none⟩) hbh).trans (HHC.out k hkl)
     have i1:(0:Int)≤(k:Int):=by omega
     have i2:(k:Int)<(H.length:Int):=by omega
     have hkn2:decide ((k:Int)<(H.length:Int))=true:=decide_eq_true i2
     have H1:=hid (HWI.out k hkl)
     rw [HWT.out k hkl] at H1
     obtain ⟨e0,e1,e2,e3⟩:=prof_cells ((hbs.block _ (lt_of_some HPR.out)).trans HPR.out)
     clear HWI HWT HRC
     go_wp2_with fail
     refine (H1.out _ (hw.below hbws) (HVD.out.below hbws) (HVL.out.below hbws)).mono ?_
     rintro e w2 ⟨rfl,hb2⟩
     go_wp2
     exact ⟨⟨k+1,by omega,int_succ k,hbs.trans (hb2.mono hwss)⟩,by show H.length-((k:Int)+1).toNat<H.length-((k:Int)).toNat;omega⟩
    ·obtain rfl:k=H.length:=by omega
     go_wp2_with fail
     go_ret
     exact ⟨rfl,hbws⟩
end Go.Proofs.YtogdahbbogimcaaGreatDoor
