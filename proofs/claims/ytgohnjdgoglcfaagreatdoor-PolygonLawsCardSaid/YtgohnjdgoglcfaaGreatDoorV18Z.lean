import Derived.Test.YtgohnjdgoglcfaaGreatDoorV1Z
set_option maxRecDepth 100000
set_option maxHeartbeats 8000000
namespace Go.Proofs.YtgohnjdgoglcfaaGreatDoor
open Go.RowKit Go.Shelf
open Go.Lib (decDigits itoa nDigits)
open Go.Lib (hid)
theorem three_froz {W:World} {B:Nat} {t:TypeId} {a b c:Value} (h:W.heap[B]?=some (.cells #[a,b,c] t (0,0))):W.frozen? ⟨B,0,none⟩=false∧W.frozen? ⟨B,1,none⟩=false∧W.frozen? ⟨B,2,none⟩=false:=
 ⟨by simp [World.frozen?,h],by simp [World.frozen?,h],by simp [World.frozen?,h]⟩
theorem law05_make (x:Plc) (hx:okPlc x) (w:World) (hw:Good w):Calls Tryz.prog 49 #[.agg (plcC x)] w (RV (.agg #[.string (tx (sm x.a x.b)),.string (tx (sm x.c x.d)),.string (tx (sm x.e x.f))]) w):=by
 have H1:=hid (fun w' (hg:Good w')=>law02_make x.a x.b hx.1 w' hg)
 have H2:=hid (fun w' (hg:Good w')=>law02_make x.c x.d hx.2.1 w' hg)
 have H3:=hid (fun w' (hg:Good w')=>law02_make x.e x.f hx.2.2 w' hg)
 unfold RV SmV at H1 H2 H3
 show Calls Tryz.prog 49 #[.agg #[.int .i16 x.a,.int .u8 x.b,.int .i16 x.c,.int .u8 x.d,.int .i16 x.e,.int .u8 x.f]] w (RV (.agg #[.string (tx (sm x.a x.b)),.string (tx (sm x.c x.d)),.string (tx (sm x.e x.f))]) w)
 clear hx
 generalize tx (sm x.a x.b)=r at *
 generalize tx (sm x.c x.d)=s at *
 generalize tx (sm x.e x.f)=t at *
 obtain ⟨xa,xb,xc,xd,xe,xf⟩:=x
 dsimp only at *
 obtain ⟨wA,hwA⟩ : ∃ wA,wA=w.alloc (Obj.cells #[.int .i16 xa,.int .u8 xb,.int .i16 xc,.int .u8 xd,.int .i16 xe,.int .u8 xf] 84):=⟨_,rfl⟩
 obtain ⟨wB,hwB⟩ : ∃ wB,wB=wA.alloc (Obj.cells #[.string ⟨#[]⟩,.string ⟨#[]⟩,.string ⟨#[]⟩] 86):=⟨_,rfl⟩
 obtain ⟨hbA,hxA⟩:=box_any hwA
 obtain ⟨hbAB,hxB⟩:=box_any hwB
 have hbB:=hbA.trans (hbAB.mono hbA.size)
 have hxA2:=(hbAB.block _ (lt_of_blk hxA)).trans hxA
 have l1:=lt_of_blk hxA2
 have sA:wA.heap.size=w.heap.size+1:=by rw [hwA];simp
 rw [hwA] at hwB
 have HWB:=hid hwB
 rw [sA] at hxB
 have X3:=hid hxB
 have c0:=blk_cell (i:=0) hxA2 rfl
 have c1:=blk_cell (i:=1) hxA2 rfl
 have c2:=blk_cell (i:=2) hxA2 rfl
 have c3:=blk_cell (i:=3) hxA2 rfl
 have c4:=blk_cell (i:=4) hxA2 rfl
 have c5:=blk_cell (i:=5) hxA2 rfl
 clear hxA hxA2 hxB hwA hwB hbAB hbA sA
 go_enter Tryz.func49,Tryz.ntmps49
 go_wp2_with fail
 rw [←HWB.out]
 refine wp_held_list (fun W'=>Below wB.heap.size wB W') [0,1,3,4,6,7] [2,5,8] 9 (by kernel_rfl) (by kernel_rfl) ⟨rfl,rfl,rfl,Nat.le_refl _,fun _ _=>rfl⟩ ?_
 iterate 6
  refine wpTakeL_step rfl ?_ rfl ?_ ?_
  rotate_left
  ·intro W' hS'
   have s0:=(hS'.cell (p:=⟨w.heap.size,0,none⟩) l1).trans c0
   have s1:=(hS'.cell (p:=⟨w.heap.size,1,none⟩) l1).trans c1
   have s2:=(hS'.cell (p:=⟨w.heap.size,2,none⟩) l1).trans c2
   have s3:=(hS'.cell (p:=⟨w.heap.size,3,none⟩) l1).trans c3
   have s4:=(hS'.cell (p:=⟨w.heap.size,4,none⟩) l1).trans c4
   have s5:=(hS'.cell (p:=⟨w.heap.size,5,none⟩) l1).trans c5
   go_simp
   try with_reducible rfl
  try simp only [zA,zB,zC,Act.put,zD,zE,zF]
 have hR0:Below wB.heap.size wB wB.drew:=⟨rfl,rfl,rfl,Nat.le_refl _,fun _ _=>rfl⟩
 refine wpKeepL_step rfl rfl (fun K hK=>?_)
 go_simp
 refine (H1.out _ (hw.below (hbB.trans (hR0.mono hbB.size)))).mono ?_
 rintro e u1 ⟨rfl,hbu1⟩
 have hR1:=hR0.trans (hbu1.mono hR0.size)
 refine hK _ _ ⟨hR1,?_⟩
 clear hK K
 try simp only [zA,zB,zC,Act.put,zD,zE,zF]
 refine wpKeepL_step rfl rfl (fun K hK=>?_)
 go_simp
 refine (H2.out _ (hw.below (hbB.trans (hR1.mono hbB.size)))).mono ?_
 rintro e u2 ⟨rfl,hbu2⟩
 have hR2:=hR1.trans (hbu2.mono hR1.size)
 refine hK _ _ ⟨hR2,?_⟩
 clear hK K
 try simp only [zA,zB,zC,Act.put,zD,zE,zF]
 refine wpKeepL_step rfl rfl (fun K hK=>?_)
 go_simp
 refine (H3.out _ (hw.below (hbB.trans (hR2.mono hbB.size)))).mono ?_
 rintro e u3 ⟨rfl,hbu3⟩
 have hR3:=hR2.trans (hbu3.mono hR2.size)
 refine hK _ _ ⟨hR3,?_⟩
 clear hK K
 try simp only [zA,zB,zC,Act.put,zD,zE,zF]
 have X4:=hid ((hR3.block _ (lt_of_blk X3.out)).trans X3.out)
 have hbZ:=hbB.trans (hR3.mono hbB.size)
 have hp3:=X4.out
 obtain ⟨_,_,_⟩:=three_froz hp3
 have j0:=blk_cell (i:=0) hp3 rfl
 have j1:=blk_cell (i:=1) hp3 rfl
 have j2:=blk_cell (i:=2) hp3 rfl
 have hpz:(((u3.setCell ⟨w.heap.size+1,0,none⟩ (.string r)).setCell ⟨w.heap.size+1,1,none⟩ (.string s)).setCell ⟨w.heap.size+1,2,none⟩ (.string t)).heap[w.heap.size+1]?=some (.cells #[.string r,.string s,.string t] 86 (0,0)):=set_block (.string t) (set_block (.string s) (set_block (.string r) hp3))
 have Q0:=hid (blk_cell (i:=0) hpz rfl)
 have Q1:=hid (blk_cell (i:=1) hpz rfl)
 have Q2:=hid (blk_cell (i:=2) hpz rfl)
 clear hpz hp3
 unfold wpKeepL
 simp only [List.drop_succ_cons,List.drop_zero]
 try simp only [zA,zB,zC,Act.put,zD,zE,zF]
 refine wpKeep_step rfl (fun K hK=>?_)
 go_simp
 refine hK _ _ ⟨trivial,?_⟩
 clear hK K
 try simp only [zA,zB,zC,Act.put,zD,zE,zF]
 refine wpKeep_step rfl (fun K hK=>?_)
 go_simp
 refine hK _ _ ⟨trivial,wpKeep_nil ?_⟩
 clear hK K
 try simp only [zA,zB,zC,Act.put,zD,zE,zF]
 refine NormalOnly.mk ?_
 go_wp2
 have q0:=Q0.out
 have q1:=Q1.out
 have q2:=Q2.out
 refine bodyPost_ret (v:=.agg #[.string r,.string s,.string t]) (by simp [results,Tryz.results49,go_sem,q0,q1,q2]) rfl ⟨rfl,?_⟩
 exact ((hbZ.setCell (p:=⟨w.heap.size+1,0,none⟩) (by simp <;> omega) _).setCell (p:=⟨w.heap.size+1,1,none⟩) (by simp <;> omega) _).setCell (p:=⟨w.heap.size+1,2,none⟩) (by simp <;> omega) _
end Go.Proofs.YtgohnjdgoglcfaaGreatDoor
