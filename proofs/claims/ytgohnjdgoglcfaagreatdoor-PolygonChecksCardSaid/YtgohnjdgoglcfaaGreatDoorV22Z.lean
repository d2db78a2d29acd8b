import Derived.Test.YtgohnjdgoglcfaaGreatDoorU12Z
set_option maxRecDepth 100000
set_option maxHeartbeats 4000000
namespace Go.Proofs.YtgohnjdgoglcfaaGreatDoor
open Go.RowKit Go.Shelf
open Go.Lib (decDigits itoa nDigits)
open Go.Lib (hid)
theorem boxes_k1 {w wA:World} {c1:Array Value} {t1:TypeId} (h:wA=w.alloc (Obj.cells c1 t1)):Below w.heap.size w wA∧wA.heap[w.heap.size]?=some (.cells c1 t1 (0,0)):=box_any h
theorem boxes_k2 {w wA:World} {c1 c2:Array Value} {t1 t2:TypeId} (h:wA=(w.alloc (Obj.cells c1 t1)).alloc (Obj.cells c2 t2)):Below w.heap.size w wA∧wA.heap[w.heap.size]?=some (.cells c1 t1 (0,0))∧wA.heap[w.heap.size+1]?=some (.cells c2 t2 (0,0)):=by
 obtain ⟨w1,hw1⟩ : ∃ w1,w1=w.alloc (Obj.cells c1 t1):=⟨_,rfl⟩
 obtain ⟨b1,x1⟩:=box_any hw1
 rw [←hw1] at h
 obtain ⟨b2,x2⟩:=box_any h
 have s1:w1.heap.size=w.heap.size+1:=by rw [hw1];simp
 rw [s1] at x2
 exact ⟨b1.trans (b2.mono (by omega)),(b2.block _ (lt_of_blk x1)).trans x1,x2⟩
theorem boxes_k3 {w wA:World} {c1 c2 c3:Array Value} {t1 t2 t3:TypeId} (h:wA=((w.alloc (Obj.cells c1 t1)).alloc (Obj.cells c2 t2)).alloc (Obj.cells c3 t3)):Below w.heap.size w wA∧wA.heap[w.heap.size]?=some (.cells c1 t1 (0,0))∧wA.heap[w.heap.size+1]?=some (.cells c2 t2 (0,0))∧wA.heap[w.heap.size+1+1]?=some (.cells c3 t3 (0,0)):=by
 obtain ⟨w1,hw1⟩ : ∃ w1,w1=(w.alloc (Obj.cells c1 t1)).alloc (Obj.cells c2 t2):=⟨_,rfl⟩
 obtain ⟨b1,x1,y1⟩:=boxes_k2 hw1
 rw [←hw1] at h
 obtain ⟨b2,x2⟩:=box_any h
 have s1:w1.heap.size=w.heap.size+1+1:=by rw [hw1];simp
 rw [s1] at x2
 exact ⟨b1.trans (b2.mono (by omega)),(b2.block _ (lt_of_blk x1)).trans x1,(b2.block _ (lt_of_blk y1)).trans y1,x2⟩
def ChkIs (v:Value) (E:Int) (w:World):Prop:=∀ w',Good w'→Below w.heap.size w w'→Calls Tryz.prog 18 #[v] w' (RV (.int .i64 E) w')
theorem ChkIs.below {v:Value} {E:Int} {w w':World} (h:ChkIs v E w) (hb:Below w.heap.size w w'):ChkIs v E w':=fun x hg hx=>h x hg (hb.trans (hx.mono hb.size))
theorem blk_froz {W:World} {B i:Nat} {cs:Array Value} {t:TypeId} (h:W.heap[B]?=some (.cells cs t (0,0))):W.frozen? ⟨B,i,none⟩=false:=by simp [World.frozen?,h]
theorem area_err (p:Option Addr) (n c:Nat) (E:Int) (hE:E≠0) (w:World) (hw:Good w) (hc:ChkIs (.slice p n c) E w):Calls Tryz.prog 23 #[.slice p n c] w (RV (.tuple #[.string ⟨#[]⟩,.int .i64 E]) w):=by
 have HC:=hid hc
 unfold ChkIs RV at HC
 have n1:(E != 0)=true:=by simpa using hE
 have n2:(E == 0)=false:=beq_eq_false_iff_ne.2 hE
 clear hc hE
 have hbA:=Below.refl w.heap.size w
 go_enter Tryz.func23,Tryz.ntmps23
 go_wp2_with fail
 refine (HC.out w (hw.below hbA) hbA).mono ?_
 rintro e w1 ⟨rfl,h1⟩
 have hb1:=hbA.trans (h1.mono hbA.size)
 go_wp2
 refine bodyPost_ret (v:=.tuple #[.string ⟨#[]⟩,.int .i64 E]) (by simp [results,Tryz.results23,go_sem]) rfl ⟨rfl,hb1⟩
theorem cen_err (p:Option Addr) (n c:Nat) (E:Int) (hE:E≠0) (w:World) (hw:Good w) (hc:ChkIs (.slice p n c) E w):Calls Tryz.prog 24 #[.slice p n c] w (RV (.tuple #[.agg #[.string ⟨#[]⟩,.string ⟨#[]⟩],.int .i64 E]) w):=by
 have HC:=hid hc
 unfold ChkIs RV at HC
 have n1:(E != 0)=true:=by simpa using hE
 have n2:(E == 0)=false:=beq_eq_false_iff_ne.2 hE
 clear hc hE
 obtain ⟨wA,hwA⟩ : ∃ wA,wA=w.alloc (Obj.cells #[.string ⟨#[]⟩,.string ⟨#[]⟩] 31):=⟨_,rfl⟩
 have HWA:=hid hwA
 obtain ⟨hbA,x1⟩:=boxes_k1 hwA
 clear hwA
 go_enter Tryz.func24,Tryz.ntmps24
 go_upto_region 1 with fail
 rw [←HWA.out]
 go_wp2_with fail
 refine (HC.out wA (hw.below hbA) hbA).mono ?_
 rintro e w1 ⟨rfl,h1⟩
 have hb1:=hbA.trans (h1.mono hbA.size)
 have z0:=(h1.block _ (lt_of_blk x1)).trans x1
 have c00:=blk_cell (i:=0) z0 rfl
 have f00:=blk_froz (i:=0) z0
 have c01:=blk_cell (i:=1) z0 rfl
 have f01:=blk_froz (i:=1) z0
 go_wp2
 clear c00 f00 c01 f01
 have g1_0:(w1.setCell ⟨w.heap.size,0,none⟩ (.string ⟨#[]⟩)).heap[w.heap.size]?=some (.cells #[.string ⟨#[]⟩,.string ⟨#[]⟩] 31 (0,0)):=set_block (.string ⟨#[]⟩) z0
 have k1:=hb1.setCell (p:=⟨w.heap.size,0,none⟩) (by show w.heap.size≤w.heap.size;omega) (.string ⟨#[]⟩)
 have g2_0:((w1.setCell ⟨w.heap.size,0,none⟩ (.string ⟨#[]⟩)).setCell ⟨w.heap.size,1,none⟩ (.string ⟨#[]⟩)).heap[w.heap.size]?=some (.cells #[.string ⟨#[]⟩,.string ⟨#[]⟩] 31 (0,0)):=set_block (.string ⟨#[]⟩) g1_0
 have k2:=k1.setCell (p:=⟨w.heap.size,1,none⟩) (by show w.heap.size≤w.heap.size;omega) (.string ⟨#[]⟩)
 have r00:=blk_cell (i:=0) g2_0 rfl
 have r01:=blk_cell (i:=1) g2_0 rfl
 refine bodyPost_ret (v:=.tuple #[.agg #[.string ⟨#[]⟩,.string ⟨#[]⟩],.int .i64 E]) (by simp [results,Tryz.results24,go_sem,r00,r01]) rfl ⟨rfl,k2⟩
theorem box_err (p:Option Addr) (n c:Nat) (E:Int) (hE:E≠0) (w:World) (hw:Good w) (hc:ChkIs (.slice p n c) E w):Calls Tryz.prog 25 #[.slice p n c] w (RV (.tuple #[.agg #[.string ⟨#[]⟩,.string ⟨#[]⟩],.agg #[.string ⟨#[]⟩,.string ⟨#[]⟩],.int .i64 E]) w):=by
 have HC:=hid hc
 unfold ChkIs RV at HC
 have n1:(E != 0)=true:=by simpa using hE
 have n2:(E == 0)=false:=beq_eq_false_iff_ne.2 hE
 clear hc hE
 obtain ⟨wA,hwA⟩ : ∃ wA,wA=(w.alloc (Obj.cells #[.string ⟨#[]⟩,.string ⟨#[]⟩] 31)).alloc (Obj.cells #[.string ⟨#[]⟩,.string ⟨#[]⟩] 31):=⟨_,rfl⟩
 have HWA:=hid hwA
 obtain ⟨hbA,x1,x2⟩:=boxes_k2 hwA
 clear hwA
 go_enter Tryz.func25,Tryz.ntmps25
 go_upto_region 1 with fail
 rw [←HWA.out]
 go_wp2_with fail
 refine (HC.out wA (hw.below hbA) hbA).mono ?_
 rintro e w1 ⟨rfl,h1⟩
 have hb1:=hbA.trans (h1.mono hbA.size)
 have z0:=(h1.block _ (lt_of_blk x1)).trans x1
 have c00:=blk_cell (i:=0) z0 rfl
 have f00:=blk_froz (i:=0) z0
 have c01:=blk_cell (i:=1) z0 rfl
 have f01:=blk_froz (i:=1) z0
 have z1:=(h1.block _ (lt_of_blk x2)).trans x2
 have c10:=blk_cell (i:=0) z1 rfl
 have f10:=blk_froz (i:=0) z1
 have c11:=blk_cell (i:=1) z1 rfl
 have f11:=blk_froz (i:=1) z1
 go_wp2
 clear c00 f00 c01 f01
 clear c10 f10 c11 f11
 have g1_0:(w1.setCell ⟨w.heap.size,0,none⟩ (.string ⟨#[]⟩)).heap[w.heap.size]?=some (.cells #[.string ⟨#[]⟩,.string ⟨#[]⟩] 31 (0,0)):=set_block (.string ⟨#[]⟩) z0
 have g1_1:(w1.setCell ⟨w.heap.size,0,none⟩ (.string ⟨#[]⟩)).heap[w.heap.size+1]?=some (.cells #[.string ⟨#[]⟩,.string ⟨#[]⟩] 31 (0,0)):=(Below.heap_setCell _ _ _ _ (by show w.heap.size+1≠w.heap.size;omega)).trans z1
 have k1:=hb1.setCell (p:=⟨w.heap.size,0,none⟩) (by show w.heap.size≤w.heap.size;omega) (.string ⟨#[]⟩)
 have g2_0:((w1.setCell ⟨w.heap.size,0,none⟩ (.string ⟨#[]⟩)).setCell ⟨w.heap.size,1,none⟩ (.string ⟨#[]⟩)).heap[w.heap.size]?=some (.cells #[.string ⟨#[]⟩,.string ⟨#[]⟩] 31 (0,0)):=set_block (.string ⟨#[]⟩) g1_0
 have g2_1:((w1.setCell ⟨w.heap.size,0,none⟩ (.string ⟨#[]⟩)).setCell ⟨w.heap.size,1,none⟩ (.string ⟨#[]⟩)).heap[w.heap.size+1]?=some (.cells #[.string ⟨#[]⟩,.string ⟨#[]⟩] 31 (0,0)):=(Below.heap_setCell _ _ _ _ (by show w.heap.size+1≠w.heap.size;omega)).trans g1_1
 have k2:=k1.setCell (p:=⟨w.heap.size,1,none⟩) (by show w.heap.size≤w.heap.size;omega) (.string ⟨#[]⟩)
 have g3_0:(((w1.setCell ⟨w.heap.size,0,none⟩ (.string ⟨#[]⟩)).setCell ⟨w.heap.size,1,none⟩ (.string ⟨#[]⟩)).setCell ⟨w.heap.size+1,0,none⟩ (.string ⟨#[]⟩)).heap[w.heap.size]?=some (.cells #[.string ⟨#[]⟩,.string ⟨#[]⟩] 31 (0,0)):=(Below.heap_setCell _ _ _ _ (by show w.heap.size≠w.heap.size+1;omega)).trans g2_0
 have g3_1:(((w1.setCell ⟨w.heap.size,0,none⟩ (.string ⟨#[]⟩)).setCell ⟨w.heap.size,1,none⟩ (.string ⟨#[]⟩)).setCell ⟨w.heap.size+1,0,none⟩ (.string ⟨#[]⟩)).heap[w.heap.size+1]?=some (.cells #[.string ⟨#[]⟩,.string ⟨#[]⟩] 31 (0,0)):=set_block (.string ⟨#[]⟩) g2_1
 have k3:=k2.setCell (p:=⟨w.heap.size+1,0,none⟩) (by show w.heap.size≤w.heap.size+1;omega) (.string ⟨#[]⟩)
 have g4_0:((((w1.setCell ⟨w.heap.size,0,none⟩ (.string ⟨#[]⟩)).setCell ⟨w.heap.size,1,none⟩ (.string ⟨#[]⟩)).setCell ⟨w.heap.size+1,0,none⟩ (.string ⟨#[]⟩)).setCell ⟨w.heap.size+1,1,none⟩ (.string ⟨#[]⟩)).heap[w.heap.size]?=some (.cells #[.string ⟨#[]⟩,.string ⟨#[]⟩] 31 (0,0)):=(Below.heap_setCell _ _ _ _ (by show w.heap.size≠w.heap.size+1;omega)).trans g3_0
 have g4_1:((((w1.setCell ⟨w.heap.size,0,none⟩ (.string ⟨#[]⟩)).setCell ⟨w.heap.size,1,none⟩ (.string ⟨#[]⟩)).setCell ⟨w.heap.size+1,0,none⟩ (.string ⟨#[]⟩)).setCell ⟨w.heap.size+1,1,none⟩ (.string ⟨#[]⟩)).heap[w.heap.size+1]?=some (.cells #[.string ⟨#[]⟩,.string ⟨#[]⟩] 31 (0,0)):=set_block (.string ⟨#[]⟩) g3_1
 have k4:=k3.setCell (p:=⟨w.heap.size+1,1,none⟩) (by show w.heap.size≤w.heap.size+1;omega) (.string ⟨#[]⟩)
 have r00:=blk_cell (i:=0) g4_0 rfl
 have r01:=blk_cell (i:=1) g4_0 rfl
 have r10:=blk_cell (i:=0) g4_1 rfl
 have r11:=blk_cell (i:=1) g4_1 rfl
 refine bodyPost_ret (v:=.tuple #[.agg #[.string ⟨#[]⟩,.string ⟨#[]⟩],.agg #[.string ⟨#[]⟩,.string ⟨#[]⟩],.int .i64 E]) (by simp [results,Tryz.results25,go_sem,r00,r01,r10,r11]) rfl ⟨rfl,k4⟩
theorem where_err (p:Option Addr) (n c:Nat) (a b:ByteArray) (E:Int) (hE:E≠0) (w:World) (hw:Good w) (hc:ChkIs (.slice p n c) E w):Calls Tryz.prog 29 #[.slice p n c,.agg #[.string a,.string b]] w (RV (.tuple #[.int .i64 0,.int .i64 E]) w):=by
 have HC:=hid hc
 unfold ChkIs RV at HC
 have n1:(E != 0)=true:=by simpa using hE
 have n2:(E == 0)=false:=beq_eq_false_iff_ne.2 hE
 clear hc hE
 obtain ⟨wA,hwA⟩ : ∃ wA,wA=w.alloc (Obj.cells #[.string a,.string b] 31):=⟨_,rfl⟩
 have HWA:=hid hwA
 obtain ⟨hbA,x1⟩:=boxes_k1 hwA
 clear hwA
 go_enter Tryz.func29,Tryz.ntmps29
 go_upto_region 1 with fail
 rw [←HWA.out]
 go_wp2_with fail
 refine (HC.out wA (hw.below hbA) hbA).mono ?_
 rintro e w1 ⟨rfl,h1⟩
 have hb1:=hbA.trans (h1.mono hbA.size)
 go_wp2
 refine bodyPost_ret (v:=.tuple #[.int .i64 0,.int .i64 E]) (by simp [results,Tryz.results29,go_sem]) rfl ⟨rfl,hb1⟩
theorem map_err (p:Option Addr) (n c:Nat) (a b c1 d e g:ByteArray) (E:Int) (hE:E≠0) (w:World) (hw:Good w) (hc:ChkIs (.slice p n c) E w):Calls Tryz.prog 42 #[.slice p n c,.agg #[.string a,.string b,.string c1,.string d],.agg #[.string e,.string g]] w (RV (.tuple #[.slice none 0 0,.int .i64 E]) w):=by
 have HC:=hid hc
 unfold ChkIs RV at HC
 have n1:(E != 0)=true:=by simpa using hE
 have n2:(E == 0)=false:=beq_eq_false_iff_ne.2 hE
 clear hc hE
 obtain ⟨wA,hwA⟩ : ∃ wA,wA=(w.alloc (Obj.cells #[.string a,.string b,.string c1,.string d] 77)).alloc (Obj.cells #[.string e,.string g] 31):=⟨_,rfl⟩
 have HWA:=hid hwA
 obtain ⟨hbA,x1,x2⟩:=boxes_k2 hwA
 clear hwA
 go_enter Tryz.func42,Tryz.ntmps42
 go_upto_region 1 with fail
 rw [←HWA.out]
 go_wp2_with fail
 refine (HC.out wA (hw.below hbA) hbA).mono ?_
 rintro e w1 ⟨rfl,h1⟩
 have hb1:=hbA.trans (h1.mono hbA.size)
 go_wp2
 refine bodyPost_ret (v:=.tuple #[.slice none 0 0,.int .i64 E]) (by simp [results,Tryz.results42,go_sem]) rfl ⟨rfl,hb1⟩
theorem line_err (p:Option Addr) (n c:Nat) (a b d:ByteArray) (E:Int) (hE:E≠0) (w:World) (hw:Good w) (hc:ChkIs (.slice p n c) E w):Calls Tryz.prog 85 #[.slice p n c,lnV a b d] w (RV (.int .i64 E) w):=by
 unfold lnV
 have HC:=hid hc
 unfold ChkIs RV at HC
 have n1:(E != 0)=true:=by simpa using hE
 have n2:(E == 0)=false:=beq_eq_false_iff_ne.2 hE
 clear hc hE
 obtain ⟨wA,hwA⟩ : ∃ wA,wA=w.alloc (Obj.cells #[.string a,.string b,.string d] 64):=⟨_,rfl⟩
 have HWA:=hid hwA
 obtain ⟨hbA,x1⟩:=boxes_k1 hwA
 clear hwA
 go_enter Tryz.func85,Tryz.ntmps85
 go_upto_region 1 with fail
 rw [←HWA.out]
 go_wp2_with fail
 refine (HC.out wA (hw.below hbA) hbA).mono ?_
 rintro e w1 ⟨rfl,h1⟩
 have hb1:=hbA.trans (h1.mono hbA.size)
 go_wp2
 go_ret
 exact ⟨rfl,hb1⟩
theorem clip_err (p:Option Addr) (n c:Nat) (a b d:ByteArray) (E:Int) (hE:E≠0) (w:World) (hw:Good w) (hc:ChkIs (.slice p n c) E w):Calls Tryz.prog 34 #[.slice p n c,lnV a b d] w (RV (.tuple #[.slice none 0 0,.bool false,.int .i64 E]) w):=by
 have HL:=hid (fun w' hg hb=>line_err p n c a b d E hE w' hg ((show ChkIs (.slice p n c) E w from hc).below hb))
 unfold RV lnV at HL
 unfold lnV
 have HC:=hid hc
 unfold ChkIs RV at HC
 have n1:(E != 0)=true:=by simpa using hE
 have n2:(E == 0)=false:=beq_eq_false_iff_ne.2 hE
 clear hc hE
 obtain ⟨wA,hwA⟩ : ∃ wA,wA=w.alloc (Obj.cells #[.string a,.string b,.string d] 64):=⟨_,rfl⟩
 have HWA:=hid hwA
 obtain ⟨hbA,x1⟩:=boxes_k1 hwA
 clear hwA
 have y00:=blk_cell (i:=0) x1 rfl
 have y01:=blk_cell (i:=1) x1 rfl
 have y02:=blk_cell (i:=2) x1 rfl
 go_enter Tryz.func34,Tryz.ntmps34
 go_upto_region 1 with fail
 rw [←HWA.out]
 go_wp2_with fail
 refine (HL.out wA (hw.below hbA) hbA).mono ?_
 rintro e w1 ⟨rfl,h1⟩
 have hb1:=hbA.trans (h1.mono hbA.size)
 clear y00 y01 y02
 go_wp2
 refine bodyPost_ret (v:=.tuple #[.slice none 0 0,.bool false,.int .i64 E]) (by simp [results,Tryz.results34,go_sem]) rfl ⟨rfl,hb1⟩
theorem split_err (p:Option Addr) (n c:Nat) (a b d:ByteArray) (E:Int) (hE:E≠0) (w:World) (hw:Good w) (hc:ChkIs (.slice p n c) E w):Calls Tryz.prog 35 #[.slice p n c,lnV a b d] w (RV (.tuple #[.slice none 0 0,.slice none 0 0,.int .i64 E]) w):=by
 have HL:=hid (fun w' hg hb=>line_err p n c a b d E hE w' hg ((show ChkIs (.slice p n c) E w from hc).below hb))
 unfold RV lnV at HL
 unfold lnV
 have HC:=hid hc
 unfold ChkIs RV at HC
 have n1:(E != 0)=true:=by simpa using hE
 have n2:(E == 0)=false:=beq_eq_false_iff_ne.2 hE
 clear hc hE
 obtain ⟨wA,hwA⟩ : ∃ wA,wA=((w.alloc (Obj.cells #[.string a,.string b,.string d] 64)).alloc (Obj.cells #[.slice none 0 0] 22)).alloc (Obj.cells #[.slice none 0 0] 22):=⟨_,rfl⟩
 have HWA:=hid hwA
 obtain ⟨hbA,x1,x2,x3⟩:=boxes_k3 hwA
 clear hwA
 have y00:=blk_cell (i:=0) x1 rfl
 have y01:=blk_cell (i:=1) x1 rfl
 have y02:=blk_cell (i:=2) x1 rfl
 go_enter Tryz.func35,Tryz.ntmps35
 go_upto_region 1 with fail
 rw [←HWA.out]
 go_wp2_with fail
 refine (HL.out wA (hw.below hbA) hbA).mono ?_
 rintro e w1 ⟨rfl,h1⟩
 have hb1:=hbA.trans (h1.mono hbA.size)
 clear y00 y01 y02
 have z1:=(h1.block _ (lt_of_blk x2)).trans x2
 have c10:=blk_cell (i:=0) z1 rfl
 have f10:=blk_froz (i:=0) z1
 have z2:=(h1.block _ (lt_of_blk x3)).trans x3
 have c20:=blk_cell (i:=0) z2 rfl
 have f20:=blk_froz (i:=0) z2
 go_wp2
 clear c10 f10
 clear c20 f20
 have g1_1:(w1.setCell ⟨w.heap.size+1,0,none⟩ (.slice none 0 0)).heap[w.heap.size+1]?=some (.cells #[.slice none 0 0] 22 (0,0)):=set_block (.slice none 0 0) z1
 have g1_2:(w1.setCell ⟨w.heap.size+1,0,none⟩ (.slice none 0 0)).heap[w.heap.size+1+1]?=some (.cells #[.slice none 0 0] 22 (0,0)):=(Below.heap_setCell _ _ _ _ (by show w.heap.size+1+1≠w.heap.size+1;omega)).trans z2
 have k1:=hb1.setCell (p:=⟨w.heap.size+1,0,none⟩) (by show w.heap.size≤w.heap.size+1;omega) (.slice none 0 0)
 have g2_1:((w1.setCell ⟨w.heap.size+1,0,none⟩ (.slice none 0 0)).setCell ⟨w.heap.size+1+1,0,none⟩ (.slice none 0 0)).heap[w.heap.size+1]?=some (.cells #[.slice none 0 0] 22 (0,0)):=(Below.heap_setCell _ _ _ _ (by show w.heap.size+1≠w.heap.size+1+1;omega)).trans g1_1
 have g2_2:((w1.setCell ⟨w.heap.size+1,0,none⟩ (.slice none 0 0)).setCell ⟨w.heap.size+1+1,0,none⟩ (.slice none 0 0)).heap[w.heap.size+1+1]?=some (.cells #[.slice none 0 0] 22 (0,0)):=set_block (.slice none 0 0) g1_2
 have k2:=k1.setCell (p:=⟨w.heap.size+1+1,0,none⟩) (by show w.heap.size≤w.heap.size+1+1;omega) (.slice none 0 0)
 have r10:=blk_cell (i:=0) g2_1 rfl
 have r20:=blk_cell (i:=0) g2_2 rfl
 refine bodyPost_ret (v:=.tuple #[.slice none 0 0,.slice none 0 0,.int .i64 E]) (by simp [results,Tryz.results35,go_sem,r10,r20]) rfl ⟨rfl,k2⟩
theorem chord_err (p:Option Addr) (n c:Nat) (a1 a2 b1 b2:ByteArray) (E:Int) (hE:E≠0) (w:World) (hw:Good w) (hc:ChkIs (.slice p n c) E w):Calls Tryz.prog 21 #[.slice p n c,.agg #[.string a1,.string a2],.agg #[.string b1,.string b2]] w (RV (.tuple #[.string ⟨#[]⟩,.string ⟨#[]⟩,.bool false,.int .i64 E]) w):=by
 have HC:=hid hc
 unfold ChkIs RV at HC
 have n1:(E != 0)=true:=by simpa using hE
 have n2:(E == 0)=false:=beq_eq_false_iff_ne.2 hE
 clear hc hE
 obtain ⟨wA,hwA⟩ : ∃ wA,wA=(((((w.alloc (Obj.cells #[.string a1,.string a2] 31)).alloc (Obj.cells #[.string b1,.string b2] 31)).alloc (Obj.cells #[.string ⟨#[]⟩] 29)).alloc (Obj.cells #[.string ⟨#[]⟩] 29)).alloc (Obj.cells #[.bool false] 4)).alloc (Obj.cells #[.int .i64 0] 25):=⟨_,rfl⟩
 have HWA:=hid hwA
 obtain ⟨hbA,lA,hcA⟩:=boxes_chord hwA
 have HCC:=hid hcA
 clear hcA hwA
 go_enter Tryz.func21,Tryz.ntmps21
 go_upto_region 1 with fail
 rw [←HWA.out]
 go_wp2_with fail
 refine (HC.out wA (hw.below hbA) hbA).mono ?_
 rintro e w1 ⟨rfl,h1⟩
 have hb1:=hbA.trans (h1.mono hbA.size)
 have HC1:=hid (HCC.out.below (h1.mono (by omega)))
 have HCZ:=hid (HC1.out.all ⟨#[]⟩ ⟨#[]⟩ false E)
 have hbZ:=below_chSet hb1 (Nat.le_refl _) ⟨#[]⟩ ⟨#[]⟩ false E
 obtain ⟨f0,f1⟩:=one_cell HC1.out.f
 obtain ⟨t0,t1⟩:=one_cell HC1.out.t
 obtain ⟨d0,d1⟩:=one_cell HC1.out.d
 obtain ⟨r0,r1⟩:=one_cell HC1.out.e
 go_wp2
 clear f0 f1 t0 t1 d0 d1 r0 r1
 obtain ⟨f0,_⟩:=one_cell HCZ.out.f
 obtain ⟨t0,_⟩:=one_cell HCZ.out.t
 obtain ⟨d0,_⟩:=one_cell HCZ.out.d
 obtain ⟨r0,_⟩:=one_cell HCZ.out.e
 unfold chSet at f0 t0 d0 r0 hbZ
 refine bodyPost_ret (v:=.tuple #[.string ⟨#[]⟩,.string ⟨#[]⟩,.bool false,.int .i64 E]) (by simp [results,Tryz.results21,go_sem,f0,t0,d0,r0]) rfl ⟨rfl,hbZ⟩
theorem inter_err (p1 p2:Option Addr) (m1 m2 c1 c2:Nat) (E:Int) (hE:E≠0) (w:World) (hw:Good w) (h0:ChkIs (.slice p1 m1 c1) 0 w) (hc:ChkIs (.slice p2 m2 c2) E w):Calls Tryz.prog 40 #[.slice p1 m1 c1,.slice p2 m2 c2] w (RV (.tuple #[.slice none 0 0,.bool false,.int .i64 E]) w):=by
 have n1:(E != 0)=true:=by simpa using hE
 have n2:(E == 0)=false:=beq_eq_false_iff_ne.2 hE
 obtain ⟨wA,hwA⟩ : ∃ wA,wA=(((w.alloc (Obj.cells #[.slice none 0 0] 22)).alloc (Obj.cells #[.bool false] 4)).alloc (Obj.cells #[.int .i64 0] 25)).alloc (Obj.cells #[.slice p1 m1 c1,.slice p2 m2 c2] 22):=⟨_,rfl⟩
 have HWA:=hid hwA
 obtain ⟨hbA,lA,hcA,hxA⟩:=boxes_meet hwA
 have HC:=hid (pg_checks (w.heap.size+1+1+1) _ p1 p2 m1 m2 c1 c2 E wA (hw.below hbA) hxA (h0.below hbA) (hc.below hbA))
 unfold RV at HC
 have HCC:=hid hcA
 clear hcA hwA hxA hE h0 hc
 go_enter Tryz.func40,Tryz.ntmps40
 go_wp2_with fail
 rw [←HWA.out]
 refine HC.out.mono ?_
 rintro e w1 ⟨rfl,h1⟩
 have hb1:=hbA.trans (h1.mono hbA.size)
 have HC1:=hid (HCC.out.below (h1.mono (by omega)))
 obtain ⟨r0,r1⟩:=one_cell (show w1.heap[w.heap.size]?=some (.cells #[_] 22 (0,0)) from HC1.out.r)
 obtain ⟨d0,d1⟩:=one_cell HC1.out.d
 obtain ⟨e0,e1⟩:=one_cell HC1.out.e
 go_wp2
 clear r0 r1 d0 d1 e0 e1
 have k1:((w1.setCell ⟨w.heap.size,0,none⟩ (.slice none 0 0)).setCell ⟨w.heap.size+1,0,none⟩ (.bool false)).heap[w.heap.size]?=some (.cells #[.slice none 0 0] 22 (0,0)):=(Below.heap_setCell _ _ _ _ (by show w.heap.size≠w.heap.size+1;omega)).trans (set_block (.slice none 0 0) HC1.out.r)
 have k2:((w1.setCell ⟨w.heap.size,0,none⟩ (.slice none 0 0)).setCell ⟨w.heap.size+1,0,none⟩ (.bool false)).heap[w.heap.size+1]?=some (.cells #[.bool false] 4 (0,0)):=set_block (.bool false) ((Below.heap_setCell _ _ _ _ (by show w.heap.size+1≠w.heap.size;omega)).trans HC1.out.d)
 have k3:=(Below.heap_setCell (w1.setCell ⟨w.heap.size,0,none⟩ (.slice none 0 0)) ⟨w.heap.size+1,0,none⟩ (.bool false) (w.heap.size+1+1) (by show w.heap.size+1+1≠w.heap.size+1;omega)).trans ((Below.heap_setCell w1 ⟨w.heap.size,0,none⟩ (.slice none 0 0) (w.heap.size+1+1) (by show w.heap.size+1+1≠w.heap.size;omega)).trans HC1.out.e)
 have r0:=blk_cell (i:=0) ((Below.heap_setCell _ ⟨w.heap.size+1+1,0,none⟩ (.int .i64 E) _ (by show w.heap.size≠w.heap.size+1+1;omega)).trans k1) rfl
 have d0:=blk_cell (i:=0) ((Below.heap_setCell _ ⟨w.heap.size+1+1,0,none⟩ (.int .i64 E) _ (by show w.heap.size+1≠w.heap.size+1+1;omega)).trans k2) rfl
 have e0:=blk_cell (i:=0) (set_block (i:=0) (.int .i64 E) k3) rfl
 have hbZ:=((hb1.setCell (p:=⟨w.heap.size,0,none⟩) (Nat.le_refl _) (.slice none 0 0)).setCell (p:=⟨w.heap.size+1,0,none⟩) (by show w.heap.size≤w.heap.size+1;omega) (.bool false)).setCell (p:=⟨w.heap.size+1+1,0,none⟩) (by show w.heap.size≤w.heap.size+1+1;omega) (.int .i64 E)
 refine bodyPost_ret (v:=.tuple #[.slice none 0 0,.bool false,.int .i64 E]) (by simp [results,Tryz.results40,go_sem,r0,d0,e0]) rfl ⟨rfl,hbZ⟩
end Go.Proofs.YtgohnjdgoglcfaaGreatDoor
