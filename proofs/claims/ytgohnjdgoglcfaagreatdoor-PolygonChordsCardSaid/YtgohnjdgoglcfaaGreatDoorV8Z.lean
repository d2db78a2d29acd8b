import Derived.Test.YtgohnjdgoglcfaaGreatDoorV6Z
namespace Go.Proofs.YtgohnjdgoglcfaaGreatDoor
open Go.RowKit Go.Shelf
open Go.Lib (decDigits itoa nDigits)
set_option maxRecDepth 100000 in
set_option maxHeartbeats 4000000 in
theorem pg_chord_a (v:Value) (P:List QP) (a1 a2 b1 b2:ByteArray) (hP:Poly P) (h60:P.length≤60) (hz:∀ p∈P,OkB p.1∧OkB p.2) (hs:a1.size≤4000000∧a2.size≤4000000∧b1.size≤4000000∧b2.size≤4000000) (h1:okPr (a1,a2)=false) (w:World) (hw:Good w) (hv:Pts w v P) :
  Calls Tryz.prog 21 #[v,.agg #[.string a1,.string a2],.agg #[.string b1,.string b2]] w (RV (.tuple #[.string ⟨#[]⟩,.string ⟨#[]⟩,.bool false,.int .i64 2]) w):=by
 have HC:=Lib.hid (fun w' (hg:Good w') (hp:Pts w' v P)=>pg_checkP v P hP.1.1 h60 hz w' hg hp)
 rw [polyC_poly hP] at HC
 have HCA:=Lib.hid (fun w' (hg:Good w')=>vec_pointS a1 a2 hs.1 hs.2.1 w' hg)
 have HCB:=Lib.hid (fun w' (hg:Good w')=>vec_pointS b1 b2 hs.2.2.1 hs.2.2.2 w' hg)
 rw [h1] at HCA
 unfold RV at HC HCA HCB
 have HV:=Lib.hid hv
 clear hv hz hP hs h1
 obtain ⟨wA,hwA⟩ : ∃ wA,wA=(((((w.alloc (Obj.cells #[.string a1,.string a2] 31)).alloc (Obj.cells #[.string b1,.string b2] 31)).alloc (Obj.cells #[.string ⟨#[]⟩] 29)).alloc (Obj.cells #[.string ⟨#[]⟩] 29)).alloc (Obj.cells #[.bool false] 4)).alloc (Obj.cells #[.int .i64 0] 25):=⟨_,rfl⟩
 have HWA:=Lib.hid hwA
 obtain ⟨hbA,lA,hcA⟩:=boxes_chord hwA
 have HCC:=Lib.hid hcA
 clear hcA hwA
 go_enter Tryz.func21,Tryz.ntmps21
 go_upto_region 1 with fail
 rw [←HWA.out]
 go_wp2_with fail
 refine (HC.out wA (hw.below hbA) (HV.out.below hbA)).mono ?_
 rintro e w1 ⟨rfl,h1⟩
 have hb1:=hbA.trans (h1.mono hbA.size)
 have l1:w.heap.size+6≤w1.heap.size:=by have:=h1.size;omega
 have HC1:=Lib.hid (HCC.out.below (h1.mono (by omega)))
 obtain ⟨x0,x1,_,_⟩:=two_cells HC1.out.a
 obtain ⟨y0,y1,_,_⟩:=two_cells HC1.out.b
 have X0:=run_idx2 #[.string a1,.string a2,.string b1,.string b2] 0 (.agg #[.string a1,.string a2]) (by decide) (by decide) rfl
 have X1:=run_idx2 #[.string a1,.string a2,.string b1,.string b2] 1 (.agg #[.string b1,.string b2]) (by decide) (by decide) rfl
 go_wp2_with fail
 refine wp_loop_rounds 3 ?_
 rw [rounds_succ]
 go_wp2_with fail
 clear x0 x1 y0 y1 HCC HWA
 obtain ⟨w2b,hw2b⟩ : ∃ w2b,w2b=w1.alloc (Obj.cells #[.string a1,.string a2] 31):=⟨_,rfl⟩
 obtain ⟨hbB2,lB2,_,_⟩:=box_new hw2b
 rw [←hw2b]
 clear hw2b
 have hbb2:=hb1.trans (hbB2.mono hb1.size)
 refine (HCA.out w2b (hw.below hbb2)).mono ?_
 rintro e w2 ⟨rfl,h2⟩
 have hb2:=hbb2.trans (h2.mono hbb2.size)
 have l2:w.heap.size+6≤w2.heap.size:=by have:=hbB2.size;have:=h2.size;omega
 have HC2:=Lib.hid (HC1.out.below ((hbB2.trans (h2.mono hbB2.size)).mono l1))
 have HCZ:=Lib.hid (HC2.out.all ⟨#[]⟩ ⟨#[]⟩ false 2)
 have hbZ:=below_chSet hb2 (Nat.le_refl _) ⟨#[]⟩ ⟨#[]⟩ false 2
 obtain ⟨f0,f1⟩:=one_cell HC2.out.f
 obtain ⟨t0,t1⟩:=one_cell HC2.out.t
 obtain ⟨d0,d1⟩:=one_cell HC2.out.d
 obtain ⟨r0,r1⟩:=one_cell HC2.out.e
 go_wp2
 clear f0 f1 t0 t1 d0 d1 r0 r1
 obtain ⟨f0,_⟩:=one_cell HCZ.out.f
 obtain ⟨t0,_⟩:=one_cell HCZ.out.t
 obtain ⟨d0,_⟩:=one_cell HCZ.out.d
 obtain ⟨r0,_⟩:=one_cell HCZ.out.e
 unfold chSet at f0 t0 d0 r0 hbZ
 refine bodyPost_ret (v:=.tuple #[.string ⟨#[]⟩,.string ⟨#[]⟩,.bool false,.int .i64 2]) (by simp [results,Tryz.results21,go_sem,f0,t0,d0,r0]) rfl ⟨rfl,hbZ⟩
set_option maxRecDepth 100000 in
set_option maxHeartbeats 4000000 in
theorem pg_chord_b (v:Value) (P:List QP) (a1 a2 b1 b2:ByteArray) (hP:Poly P) (h60:P.length≤60) (hz:∀ p∈P,OkB p.1∧OkB p.2) (hs:a1.size≤4000000∧a2.size≤4000000∧b1.size≤4000000∧b2.size≤4000000) (h1:okPr (a1,a2)=true) (h2:okPr (b1,b2)=false) (w:World) (hw:Good w) (hv:Pts w v P) :
  Calls Tryz.prog 21 #[v,.agg #[.string a1,.string a2],.agg #[.string b1,.string b2]] w (RV (.tuple #[.string ⟨#[]⟩,.string ⟨#[]⟩,.bool false,.int .i64 2]) w):=by
 have HC:=Lib.hid (fun w' (hg:Good w') (hp:Pts w' v P)=>pg_checkP v P hP.1.1 h60 hz w' hg hp)
 rw [polyC_poly hP] at HC
 have HCA:=Lib.hid (fun w' (hg:Good w')=>vec_pointS a1 a2 hs.1 hs.2.1 w' hg)
 have HCB:=Lib.hid (fun w' (hg:Good w')=>vec_pointS b1 b2 hs.2.2.1 hs.2.2.2 w' hg)
 rw [h1] at HCA
 rw [h2] at HCB
 unfold RV at HC HCA HCB
 have HV:=Lib.hid hv
 clear hv hz hP hs h1 h2
 obtain ⟨wA,hwA⟩ : ∃ wA,wA=(((((w.alloc (Obj.cells #[.string a1,.string a2] 31)).alloc (Obj.cells #[.string b1,.string b2] 31)).alloc (Obj.cells #[.string ⟨#[]⟩] 29)).alloc (Obj.cells #[.string ⟨#[]⟩] 29)).alloc (Obj.cells #[.bool false] 4)).alloc (Obj.cells #[.int .i64 0] 25):=⟨_,rfl⟩
 have HWA:=Lib.hid hwA
 obtain ⟨hbA,lA,hcA⟩:=boxes_chord hwA
 have HCC:=Lib.hid hcA
 clear hcA hwA
 go_enter Tryz.func21,Tryz.ntmps21
 go_upto_region 1 with fail
 rw [←HWA.out]
 go_wp2_with fail
 refine (HC.out wA (hw.below hbA) (HV.out.below hbA)).mono ?_
 rintro e w1 ⟨rfl,h1⟩
 have hb1:=hbA.trans (h1.mono hbA.size)
 have l1:w.heap.size+6≤w1.heap.size:=by have:=h1.size;omega
 have HC1:=Lib.hid (HCC.out.below (h1.mono (by omega)))
 obtain ⟨x0,x1,_,_⟩:=two_cells HC1.out.a
 obtain ⟨y0,y1,_,_⟩:=two_cells HC1.out.b
 have X0:=run_idx2 #[.string a1,.string a2,.string b1,.string b2] 0 (.agg #[.string a1,.string a2]) (by decide) (by decide) rfl
 have X1:=run_idx2 #[.string a1,.string a2,.string b1,.string b2] 1 (.agg #[.string b1,.string b2]) (by decide) (by decide) rfl
 go_wp2_with fail
 refine wp_loop_rounds 3 ?_
 rw [rounds_succ]
 go_wp2_with fail
 clear x0 x1 y0 y1 HCC HWA
 obtain ⟨w2b,hw2b⟩ : ∃ w2b,w2b=w1.alloc (Obj.cells #[.string a1,.string a2] 31):=⟨_,rfl⟩
 obtain ⟨hbB2,lB2,_,_⟩:=box_new hw2b
 rw [←hw2b]
 clear hw2b
 have hbb2:=hb1.trans (hbB2.mono hb1.size)
 refine (HCA.out w2b (hw.below hbb2)).mono ?_
 rintro e w2 ⟨rfl,h2⟩
 have hb2:=hbb2.trans (h2.mono hbb2.size)
 have l2:w.heap.size+6≤w2.heap.size:=by have:=hbB2.size;have:=h2.size;omega
 have HC2:=Lib.hid (HC1.out.below ((hbB2.trans (h2.mono hbB2.size)).mono l1))
 go_wp2_with fail
 rw [rounds_succ]
 go_wp2_with fail
 obtain ⟨w3b,hw3b⟩ : ∃ w3b,w3b=w2.alloc (Obj.cells #[.string b1,.string b2] 31):=⟨_,rfl⟩
 obtain ⟨hbB3,lB3,_,_⟩:=box_new hw3b
 rw [←hw3b]
 clear hw3b
 have hbb3:=hb2.trans (hbB3.mono hb2.size)
 refine (HCB.out w3b (hw.below hbb3)).mono ?_
 rintro e w3 ⟨rfl,h3⟩
 have hb3:=hbb3.trans (h3.mono hbb3.size)
 have l3:w.heap.size+6≤w3.heap.size:=by have:=hbB3.size;have:=h3.size;omega
 have HC3:=Lib.hid (HC2.out.below ((hbB3.trans (h3.mono hbB3.size)).mono l2))
 have HCZ:=Lib.hid (HC3.out.all ⟨#[]⟩ ⟨#[]⟩ false 2)
 have hbZ:=below_chSet hb3 (Nat.le_refl _) ⟨#[]⟩ ⟨#[]⟩ false 2
 obtain ⟨f0,f1⟩:=one_cell HC3.out.f
 obtain ⟨t0,t1⟩:=one_cell HC3.out.t
 obtain ⟨d0,d1⟩:=one_cell HC3.out.d
 obtain ⟨r0,r1⟩:=one_cell HC3.out.e
 go_wp2
 clear f0 f1 t0 t1 d0 d1 r0 r1
 obtain ⟨f0,_⟩:=one_cell HCZ.out.f
 obtain ⟨t0,_⟩:=one_cell HCZ.out.t
 obtain ⟨d0,_⟩:=one_cell HCZ.out.d
 obtain ⟨r0,_⟩:=one_cell HCZ.out.e
 unfold chSet at f0 t0 d0 r0 hbZ
 refine bodyPost_ret (v:=.tuple #[.string ⟨#[]⟩,.string ⟨#[]⟩,.bool false,.int .i64 2]) (by simp [results,Tryz.results21,go_sem,f0,t0,d0,r0]) rfl ⟨rfl,hbZ⟩
set_option maxRecDepth 100000 in
set_option maxHeartbeats 4000000 in
theorem pg_chord_z (v:Value) (P:List QP) (a1 a2 b1 b2:ByteArray) (hP:Poly P) (h60:P.length≤60) (hz:∀ p∈P,OkB p.1∧OkB p.2) (hs:a1.size≤4000000∧a2.size≤4000000∧b1.size≤4000000∧b2.size≤4000000) (h1:okPr (a1,a2)=true) (h2:okPr (b1,b2)=true) (e1:a1=b1) (e2:a2=b2) (w:World) (hw:Good w) (hv:Pts w v P) :
  Calls Tryz.prog 21 #[v,.agg #[.string a1,.string a2],.agg #[.string b1,.string b2]] w (RV (.tuple #[.string ⟨#[]⟩,.string ⟨#[]⟩,.bool false,.int .i64 17]) w):=by
 have HC:=Lib.hid (fun w' (hg:Good w') (hp:Pts w' v P)=>pg_checkP v P hP.1.1 h60 hz w' hg hp)
 rw [polyC_poly hP] at HC
 have HCA:=Lib.hid (fun w' (hg:Good w')=>vec_pointS a1 a2 hs.1 hs.2.1 w' hg)
 have HCB:=Lib.hid (fun w' (hg:Good w')=>vec_pointS b1 b2 hs.2.2.1 hs.2.2.2 w' hg)
 rw [h1] at HCA
 rw [h2] at HCB
 unfold RV at HC HCA HCB
 have HV:=Lib.hid hv
 have heq:∀ wx:World,(binOp .eql 31 (.agg #[.string a1,.string a2]) (.agg #[.string b1,.string b2])).run Tryz.prog wx=.ok (.bool true) wx:=fun wx=>by
  obtain ⟨q,k1,k2,_,_⟩:=okPr_pt h1
  rw [←e1,←e2,k1,k2,eqlPts,decide_eq_true rfl]
 have hgd:=fun (x y:Operand) (xs ys:Array Value) (wx:World)=>guardPts .eql x y xs ys wx
 clear e1 e2
 clear hv hz hP hs h1 h2
 obtain ⟨wA,hwA⟩ : ∃ wA,wA=(((((w.alloc (Obj.cells #[.string a1,.string a2] 31)).alloc (Obj.cells #[.string b1,.string b2] 31)).alloc (Obj.cells #[.string ⟨#[]⟩] 29)).alloc (Obj.cells #[.string ⟨#[]⟩] 29)).alloc (Obj.cells #[.bool false] 4)).alloc (Obj.cells #[.int .i64 0] 25):=⟨_,rfl⟩
 have HWA:=Lib.hid hwA
 obtain ⟨hbA,lA,hcA⟩:=boxes_chord hwA
 have HCC:=Lib.hid hcA
 clear hcA hwA
 go_enter Tryz.func21,Tryz.ntmps21
 go_upto_region 1 with fail
 rw [←HWA.out]
 go_wp2_with fail
 refine (HC.out wA (hw.below hbA) (HV.out.below hbA)).mono ?_
 rintro e w1 ⟨rfl,h1⟩
 have hb1:=hbA.trans (h1.mono hbA.size)
 have l1:w.heap.size+6≤w1.heap.size:=by have:=h1.size;omega
 have HC1:=Lib.hid (HCC.out.below (h1.mono (by omega)))
 obtain ⟨x0,x1,_,_⟩:=two_cells HC1.out.a
 obtain ⟨y0,y1,_,_⟩:=two_cells HC1.out.b
 have X0:=run_idx2 #[.string a1,.string a2,.string b1,.string b2] 0 (.agg #[.string a1,.string a2]) (by decide) (by decide) rfl
 have X1:=run_idx2 #[.string a1,.string a2,.string b1,.string b2] 1 (.agg #[.string b1,.string b2]) (by decide) (by decide) rfl
 go_wp2_with fail
 refine wp_loop_rounds 3 ?_
 rw [rounds_succ]
 go_wp2_with fail
 clear x0 x1 y0 y1 HCC HWA
 obtain ⟨w2b,hw2b⟩ : ∃ w2b,w2b=w1.alloc (Obj.cells #[.string a1,.string a2] 31):=⟨_,rfl⟩
 obtain ⟨hbB2,lB2,_,_⟩:=box_new hw2b
 rw [←hw2b]
 clear hw2b
 have hbb2:=hb1.trans (hbB2.mono hb1.size)
 refine (HCA.out w2b (hw.below hbb2)).mono ?_
 rintro e w2 ⟨rfl,h2⟩
 have hb2:=hbb2.trans (h2.mono hbb2.size)
 have l2:w.heap.size+6≤w2.heap.size:=by have:=hbB2.size;have:=h2.size;omega
 have HC2:=Lib.hid (HC1.out.below ((hbB2.trans (h2.mono hbB2.size)).mono l1))
 go_wp2_with fail
 rw [rounds_succ]
 go_wp2_with fail
 obtain ⟨w3b,hw3b⟩ : ∃ w3b,w3b=w2.alloc (Obj.cells #[.string b1,.string b2] 31):=⟨_,rfl⟩
 obtain ⟨hbB3,lB3,_,_⟩:=box_new hw3b
 rw [←hw3b]
 clear hw3b
 have hbb3:=hb2.trans (hbB3.mono hb2.size)
 refine (HCB.out w3b (hw.below hbb3)).mono ?_
 rintro e w3 ⟨rfl,h3⟩
 have hb3:=hbb3.trans (h3.mono hbb3.size)
 have l3:w.heap.size+6≤w3.heap.size:=by have:=hbB3.size;have:=h3.size;omega
 have HC3:=Lib.hid (HC2.out.below ((hbB3.trans (h3.mono hbB3.size)).mono l2))
 go_wp2_with fail
 rw [rounds_succ]
 obtain ⟨x0,x1,_,_⟩:=two_cells HC3.out.a
 obtain ⟨y0,y1,_,_⟩:=two_cells HC3.out.b
 have HCZ:=Lib.hid (HC3.out.all ⟨#[]⟩ ⟨#[]⟩ false 17)
 have hbZ:=below_chSet hb3 (Nat.le_refl _) ⟨#[]⟩ ⟨#[]⟩ false 17
 obtain ⟨f0,f1⟩:=one_cell HC3.out.f
 obtain ⟨t0,t1⟩:=one_cell HC3.out.t
 obtain ⟨d0,d1⟩:=one_cell HC3.out.d
 obtain ⟨r0,r1⟩:=one_cell HC3.out.e
 go_wp2
 clear f0 f1 t0 t1 d0 d1 r0 r1
 obtain ⟨f0,_⟩:=one_cell HCZ.out.f
 obtain ⟨t0,_⟩:=one_cell HCZ.out.t
 obtain ⟨d0,_⟩:=one_cell HCZ.out.d
 obtain ⟨r0,_⟩:=one_cell HCZ.out.e
 unfold chSet at f0 t0 d0 r0 hbZ
 refine bodyPost_ret (v:=.tuple #[.string ⟨#[]⟩,.string ⟨#[]⟩,.bool false,.int .i64 17]) (by simp [results,Tryz.results21,go_sem,f0,t0,d0,r0]) rfl ⟨rfl,hbZ⟩
end Go.Proofs.YtgohnjdgoglcfaaGreatDoor
