import Derived.Test.YtogdahbbogimcaaGreatDoorC4Z
set_option maxRecDepth 100000
set_option maxHeartbeats 1000000
namespace Go.Proofs.YtogdahbbogimcaaGreatDoor
open Go.RowKit Go.Shelf
open Go.Lib (decDigits itoa nDigits)
open Go.Lib (hid)
theorem one_check (w:World):Calls Tryz.prog 59 #[.string ⟨#[49]⟩] w (RV (.int .i64 0) w):=
 (integer_Check ⟨#[49]⟩ (by decide) w).mono fun e w' h=>by
  unfold ChkPost at h
  obtain ⟨h1,h2⟩:=h
  rw [show intOk (⟨#[49]⟩ : ByteArray).data.toList=true by decide +kernel] at h1
  exact ⟨h1,h2 ▸ Below.refl _ _⟩
theorem surd_resultF (q:Rat) (hq:OkB q) (w:World) (hw:Good w):Calls Tryz.prog 127 #[.agg #[.string (tx q),.string ⟨#[49]⟩]] w (RV (.bool false) w):=by
 have HC:=hid (fun w' (hg:Good w')=>k_check q hq w' hg)
 have HO:=hid (fun w'=>one_check w')
 unfold RV at *
 clear hq
 generalize tx q=t at *
 go_enter Tryz.func127,Tryz.ntmps127
 go_upto_region 1 with fail
 obtain ⟨wA,hwA⟩ : ∃ wA,wA=w.alloc (Obj.cells #[.string t,.string ⟨#[49]⟩] 78):=⟨_,rfl⟩
 have hbA:Below w.heap.size w wA:=by rw [hwA];exact alloc_below _ _
 obtain ⟨c0,c1,_,_⟩:=two_cells (show wA.heap[w.heap.size]?=some (.cells #[.string t,.string ⟨#[49]⟩] 78 (0,0)) by rw [hwA];exact World.alloc_heap_new _ _)
 have hlA:w.heap.size<wA.heap.size:=by rw [hwA];simp
 rw [←hwA]
 clear hwA
 go_wp2_with fail
 refine (HC.out wA (hw.below hbA)).mono ?_
 rintro e w1 ⟨rfl,hb1⟩
 have c1':=(hb1.cell (p:=⟨w.heap.size,1,none⟩) hlA).trans c1
 have hl1:w.heap.size<w1.heap.size:=Nat.lt_of_lt_of_le hlA hb1.size
 go_wp2_with fail
 refine (HO.out w1).mono ?_
 rintro e w2 ⟨rfl,hb2⟩
 have hbx:=hbA.trans (hb1.mono hbA.size)
 have hby:=hbx.trans (hb2.mono hbx.size)
 go_wp2
 go_ret
 exact ⟨rfl,hby⟩
theorem index_none (p:Option Addr) (c:Nat) (fv:Value) (w:World):Calls Tryz.prog 108 #[.slice p 0 c,fv] w (RV (.int .i64 (-1)) w):=by
 have hb:=Below.refl w.heap.size w
 unfold RV
 go_enter Tryz.func108,Tryz.ntmps108
 go_wp2_with fail
 go_loopw [4,8] (fun _ iv wr=>iv=.int .i64 0∧Below w.heap.size w wr) (fun _ _ _=>0)
 case atStart=>exact ⟨rfl,hb⟩
 case round =>
  obtain ⟨rfl,hbr⟩:=hrel
  go_wp2
  go_ret
  exact ⟨rfl,hbr⟩
theorem index_one (v:Value) (b:Nat) (q:Rat) (ff:Nat) (heg:∀ args w,(callFunc ff args).run Tryz.prog w=.ok (.enter ff args) w) (w:World) (hw:Good w) (hv:Surd1 w v b q)
  (hf:∀ w',Good w'→Calls Tryz.prog ff #[.agg #[.string (tx q),.string ⟨#[49]⟩]] w' (RV (.bool false) w')) :
  Calls Tryz.prog 108 #[v,.func (.func ff) #[] #[]] w (RV (.int .i64 (-1)) w):=by
 obtain ⟨c,rfl,h1,h2,h3,h4,h5,_,_⟩:=hv.cells
 have HF:=hid hf
 have hb:=Below.refl w.heap.size w
 unfold RV at *
 clear hf hv
 generalize tx q=t at *
 go_enter Tryz.func108,Tryz.ntmps108
 go_wp2_with fail
 go_loopw [4,8] (fun _ iv wr=>(iv=.int .i64 0∨iv=.int .i64 1)∧Below w.heap.size w wr) (fun _ iv _=>1-(intOf iv).toNat)
 case atStart=>exact ⟨.inl rfl,hb⟩
 case round =>
  obtain ⟨hi,hbr⟩:=hrel
  rcases hi with rfl | rfl
  ·have d0:=(hbr.cell (p:=⟨b,0,none⟩) h3).trans h4
   have d1:=(hbr.cell (p:=⟨b,1,none⟩) h3).trans h5
   have hbl:b<wr.heap.size:=Nat.lt_of_lt_of_le h3 hbr.size
   go_wp2_with fail
   refine (HF.out wr (hw.below hbr)).mono ?_
   rintro e w1 ⟨rfl,hb1⟩
   go_wp2
   refine ⟨⟨.inr rfl,hbr.trans (hb1.mono hbr.size)⟩,?_⟩
   decide
  ·go_wp2
   go_ret
   exact ⟨rfl,hbr⟩
theorem contains_of (v fv:Value) (w:World) (h:Calls Tryz.prog 108 #[v,fv] w (RV (.int .i64 (-1)) w)) :
  Calls Tryz.prog 71 #[v,fv] w (RV (.bool false) w):=by
 have H:=hid h
 unfold RV at *
 clear h
 go_enter Tryz.func71,Tryz.ntmps71
 go_wp2_with fail
 refine H.out.mono ?_
 rintro e w1 ⟨rfl,hb1⟩
 go_wp2
 go_ret
 exact ⟨rfl,hb1⟩
theorem enter_resultF:∀ args w,(callFunc 127 args).run Tryz.prog w=.ok (.enter 127 args) w:=by
 intro args w
 go_simp
theorem surd_result (v:Value) (b:Nat) (q:Rat) (hq:OkB q) (w:World) (hw:Good w) (hv:Surd1 w v b q):Calls Tryz.prog 103 #[v] w (RV (.tuple #[v,.int .i64 0]) w):=by
 have HI:=hid (contains_of _ _ w (index_one v b q 127 enter_resultF w hw hv (fun w' hg=>surd_resultF q hq w' hg)))
 obtain ⟨c,rfl,h1,h2,h3,h4,h5,_,_⟩:=hv.cells
 unfold RV at *
 go_enter Tryz.func103,Tryz.ntmps103
 go_wp2_with fail
 refine HI.out.mono ?_
 rintro e w1 ⟨rfl,hb1⟩
 go_wp2
 go_ret2
 exact ⟨rfl,hb1⟩
end Go.Proofs.YtogdahbbogimcaaGreatDoor
