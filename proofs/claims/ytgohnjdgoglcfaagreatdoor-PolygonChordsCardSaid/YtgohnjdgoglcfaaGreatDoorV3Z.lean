import Derived.Test.YtgohnjdgoglcfaaGreatDoorT13Z
import Derived.Laws.AppendOwnNone
import Derived.Shelf.SlSortCmp.NoneTotal
namespace Go.Proofs.YtgohnjdgoglcfaaGreatDoor
open Go.RowKit Go.Shelf
open Go.Lib (decDigits itoa nDigits)
def shortP (p:Pair):Prop:=p.1.size≤40∧p.2.size≤40
noncomputable def fewB (L:List Pair):Bool:=by
 classical
 exact decide ((L.length≤6∨(59≤L.length∧L.length≤62))∧∀ p∈L,shortP p)
theorem fewB_true {L:List Pair}:fewB L=true↔(L.length≤6∨(59≤L.length∧L.length≤62))∧∀ p∈L,shortP p:=by unfold fewB;simp
theorem fewB_false {L:List Pair} (h:¬ ((L.length≤6∨(59≤L.length∧L.length≤62))∧∀ p∈L,shortP p)):fewB L=false:=by
 cases hb:fewB L with
 | false=>rfl
 | true=>exact absurd (fewB_true.1 hb) h
def FewTo (L:List Pair) (k:Nat):Prop:=k≤L.length∧∀ i (h:i<L.length),i<k→shortP L[i]
theorem FewTo.step {L:List Pair} {k:Nat} (h:FewTo L k) (hk:k<L.length) (hx:L[k].1.size≤40) (hy:L[k].2.size≤40):FewTo L (k+1):=
 ⟨hk,fun i hi h1=>by
  rcases Nat.lt_or_ge i k with h2 | h2
  ·exact h.2 i hi h2
  ·obtain rfl:i=k:=by omega
   exact ⟨hx,hy⟩⟩
theorem FewTo.all {L:List Pair} (h:FewTo L L.length):∀ p∈L,shortP p:=fun p hp=>by
 obtain ⟨i,hi,rfl⟩:=List.getElem_of_mem hp
 exact h.2 i hi hi
set_option maxRecDepth 100000 in
set_option maxHeartbeats 4000000 in
theorem law_few (v:Value) (L:List Pair) (w:World) (hv:Pairs w v L) :
  Calls Tryz.prog 13 #[v] w fun e w'=>e=.returned (.bool (fewB L))∧w=w':=by
 obtain ⟨p,c,rfl,hcl,hcm,hblk⟩:=hv
 unfold maxLen at hcm
 have HC:Hid (∀ k (hk:k<L.length),∃ b off,p=some ⟨b,off,none⟩∧w.cell? ⟨b,off+k*2,none⟩=some (.string L[k].1)∧w.cell? ⟨b,off+k*2+1,none⟩=some (.string L[k].2)):=Lib.hid fun k hk=>by
  obtain ⟨b,off,h1,_,h3⟩:=hblk (by omega)
  exact ⟨b,off,h1,h3 k hk⟩
 clear hblk
 by_cases hn:L.length≤6∨(59≤L.length∧L.length≤62)
 ·have HT:=Lib.hid (fun (h:∀ p∈L,shortP p)=>fewB_true.2 ⟨hn,h⟩)
  have HF:=Lib.hid (fun i (hi:i<L.length) (h:¬ shortP L[i])=>fewB_false (L:=L) (fun h'=>h (h'.2 _ (List.getElem_mem hi))))
  generalize hfb:fewB L=fb at *
  clear hfb
  rcases hn with hn | ⟨hn,hn'⟩
  all_goals
   go_enter Tryz.func13,Tryz.ntmps13
   go_wp2_with fail
   go_loop [3] (fun iv=>∃ k:Nat,FewTo L k∧iv=.int .i64 (k:Int)) (fun iv=>L.length-(intOf iv).toNat)
   case atStart=>exact ⟨0,⟨Nat.zero_le _,fun i _ h=>absurd h (Nat.not_lt_zero _)⟩,rfl⟩
   case round =>
    obtain ⟨k,hkl,rfl⟩:=hrel
    have hkl':=hkl.1
    have HK:=Lib.hid hkl
    clear hkl
    by_cases hk:k<L.length
    ·obtain ⟨b,off,rfl,c0,c1⟩:=HC.out k hk
     have HS:=Lib.hid (fun h1 h2=>HK.out.step hk h1 h2)
     have HN:=Lib.hid (fun h=>HF.out k hk h)
     unfold shortP at HN
     generalize L[k].1=s1 at *
     generalize L[k].2=s2 at *
     by_cases hx:s1.size≤40
     ·by_cases hy:s2.size≤40
      ·go_wp2
       go_round
       case rel=>exact ⟨k+1,HS.out hx hy,by go_num⟩
       case measure=>simp [intOf];omega
      ·go_wp2
       go_ret
       exact ⟨by rw [HN.out (fun h=>hy h.2)];rfl,rfl⟩
     ·go_wp2
      go_ret
      exact ⟨by rw [HN.out (fun h=>hx h.1)];rfl,rfl⟩
    ·go_wp2
     go_ret
     have e:k=L.length:=by omega
     subst e
     exact ⟨by rw [HT.out HK.out.all];rfl,rfl⟩
 ·have hfb:fewB L=false:=fewB_false (fun h=>hn h.1)
  rw [hfb]
  have h6:¬ L.length≤6:=fun h=>hn (.inl h)
  by_cases h59:L.length<59
  ·go_enter Tryz.func13,Tryz.ntmps13
   go_wp2
   go_ret
   exact ⟨rfl,rfl⟩
  ·have h62:¬ L.length≤62:=fun h=>hn (.inr ⟨by omega,h⟩)
   go_enter Tryz.func13,Tryz.ntmps13
   go_wp2
   go_ret
   exact ⟨rfl,rfl⟩
set_option maxRecDepth 100000 in
theorem pg_hull_much (p:Option Addr) (n c:Nat) (hn:200<n) (w:World):Calls Tryz.prog 14 #[.slice p n c] w fun e w'=>e=.returned (.tuple #[.slice none 0 0,.int .i64 4])∧w=w':=by
 go_enter Tryz.func14,Tryz.ntmps14
 go_wp2
 go_ret2
 exact ⟨rfl,rfl⟩
def OkTo (L:List Pair) (k:Nat):Prop:=k≤L.length∧∀ i (h:i<L.length),i<k→okPr L[i]=true
theorem OkTo.step {L:List Pair} {k:Nat} (h:OkTo L k) (hk:k<L.length) (hx:okPr L[k]=true):OkTo L (k+1):=
 ⟨hk,fun i hi h1=>by
  rcases Nat.lt_or_ge i k with h2 | h2
  ·exact h.2 i hi h2
  ·obtain rfl:i=k:=by omega
   exact hx⟩
theorem OkTo.all {L:List Pair} (h:OkTo L L.length):∀ p∈L,okPr p=true:=fun p hp=>by
 obtain ⟨i,hi,rfl⟩:=List.getElem_of_mem hp
 exact h.2 i hi hi
set_option maxRecDepth 100000 in
set_option maxHeartbeats 4000000 in
theorem pg_hull_wrong (v:Value) (L:List Pair) (hn:L.length≤200) (hz:∀ p∈L,p.1.size≤4000000∧p.2.size≤4000000) (hbad:¬ ∀ p∈L,okPr p=true) (w:World) (hw:Good w) (hv:Pairs w v L) :
  Calls Tryz.prog 14 #[v] w (RV (.tuple #[.slice none 0 0,.int .i64 2]) w):=by
 have HCP:=Lib.hid (fun i (hi:i<L.length) w' (hg:Good w')=>vec_pointS L[i].1 L[i].2 (hz _ (List.getElem_mem hi)).1 (hz _ (List.getElem_mem hi)).2 w' hg)
 unfold RV at HCP
 have h0:0<L.length:=by
  cases L with
  | nil=>exact absurd (fun p hp=>by cases hp) hbad
  | cons _ _=>simp
 obtain ⟨p,c,rfl,hcl,hcm,hblk⟩:=hv
 unfold maxLen at hcm
 obtain ⟨B,off,rfl,hbl,hcell⟩:=hblk h0
 have HCL:=Lib.hid (fun i (hi:i<L.length) wx (h:Below w.heap.size w wx)=>And.intro ((h.cell (p:=⟨B,off+i*2,none⟩) hbl).trans (hcell i hi).1) ((h.cell (p:=⟨B,off+i*2+1,none⟩) hbl).trans (hcell i hi).2))
 have hbw:=Below.refl w.heap.size w
 have q1:decide ((L.length:Int)>200)=false:=decide_eq_false (by omega)
 have q2:decide ((200:Int)<(L.length:Int))=false:=decide_eq_false (by omega)
 have HBAD:=Lib.hid hbad
 clear hz hcell hblk hbad
 go_enter Tryz.func14,Tryz.ntmps14
 go_wp2_with fail
 go_loopw [14] (fun iv wr=>∃ k:Nat,OkTo L k∧iv=.int .i64 (k:Int)∧Below w.heap.size w wr) (fun iv _=>L.length-(intOf iv).toNat)
 case atStart=>exact ⟨0,⟨Nat.zero_le _,fun i _ h=>absurd h (Nat.not_lt_zero _)⟩,rfl,hbw⟩
 case round =>
  obtain ⟨k,hkl,rfl,hbr⟩:=hrel
  have hkl':=hkl.1
  have HK:=Lib.hid hkl
  clear hkl
  have hk:k<L.length:=by
   rcases Nat.lt_or_ge k L.length with h | h
   ·exact h
   ·obtain rfl:k=L.length:=by omega
    exact absurd HK.out.all HBAD.out
  have hkn:decide ((k:Int)<(L.length:Int))=true:=decide_eq_true (by omega)
  have i1:(0:Int)≤(k:Int):=by omega
  have i2:(k:Int)<(L.length:Int):=by omega
  obtain ⟨c0,c1⟩:=HCL.out k hk wr hbr
  have H1:=Lib.hid (HCP.out k hk)
  have HS:=Lib.hid (fun h=>HK.out.step hk h)
  generalize okPr (L[k].1,L[k].2)=okb at *
  generalize L[k].1=p1 at *
  generalize L[k].2=p2 at *
  go_upto_region 6 with fail
  obtain ⟨wC,hwwC⟩ : ∃ wC,wC=wr.alloc (Obj.cells #[.string p1,.string p2] 31):=⟨_,rfl⟩
  obtain ⟨hbwC,lwC,g0,g1⟩:=box_new hwwC
  rw [←hwwC]
  clear hwwC
  have hbC:=hbr.trans (hbwC.mono hbr.size)
  cases okb with
  | true =>
   rw [if_pos rfl] at H1
   go_wp2_with fail
   refine (H1.out _ (hw.below hbC)).mono ?_
   rintro e w1 ⟨rfl,hb1⟩
   go_wp2
   refine ⟨⟨k+1,HS.out (by first | exact rfl | exact trivial),int_succ k,hbC.trans (hb1.mono hbC.size)⟩,?_⟩
   show L.length-((k:Int)+1).toNat<L.length-((k:Int)).toNat
   omega
  | false =>
   rw [if_neg (by decide)] at H1
   go_wp2_with fail
   refine (H1.out _ (hw.below hbC)).mono ?_
   rintro e w1 ⟨rfl,hb1⟩
   go_wp2
   go_ret2
   exact ⟨rfl,hbC.trans (hb1.mono hbC.size)⟩
set_option maxRecDepth 100000 in
theorem clone_none (p:Option Addr) (c:Nat) (w:World) :
  Calls Tryz.prog 53 #[.slice p 0 c] w fun e w'=>∃ g cap,e=.returned (.slice g 0 cap)∧Below w.heap.size w w':=by
 cases p with
 | none=>exact (AnyE.slices_Clone_nil (ρ:=clonePt_ren) clonePt 0 c w).mono fun _ _ ⟨h1,h2⟩=>⟨none,0,h1,by rw [h2];exact Below.refl _ _⟩
 | some a =>
  obtain ⟨i0,hi,hz0,hz1,hz2⟩:=info_parts slPt.info
  have qnil:∀ (w:World) (a:Addr) (n c:Nat),(binOp .eql 22 (.slice (some a) n c) (.slice none 0 0)).run Tryz.prog w=.ok (.bool false) w:=fun w a n c=>Lib.run_eql_slice_nil w _ _ (some a) n c 0 0 Tryz.underlying22
  go_enter Tryz.func53,Tryz.ntmps53
  go_wp2_with (at_builtin;refine wpList_append_own _ rfl _ _ 22 rfl w.heap.size 31 i0 (.agg #[.string ⟨#[]⟩,.string ⟨#[]⟩]) 2 32 slPt.ht hi hz0 hz1 hz2 slPt.hzs slPt.hsz _ _ _ rfl (World.ownsRow_made w #[] 0 (Nat.le_refl _) (Nat.zero_le _) (by simp)) a 0 c [] rfl ?qc1 ?qc2 ?qc3 ?qc4 ?qc5 ?qc6 ?_)
  case qc1=>rfl
  case qc2 =>
   intro j u hj
   simp at hj
  case qc3 =>
   intro u hu
   simp at hu
  case qc4=>exact Nat.zero_le _
  case qc5=>exact Nat.zero_le _
  case qc6=>simp
  intro v' w1 hown hgrow hnil
  have hv:∃ g cap,v'=.slice g 0 cap:=by
   rcases hown.2 with ⟨h,_⟩ | ⟨g,cap,_,h,_⟩
   ·exact ⟨_,_,h⟩
   ·exact ⟨_,_,h⟩
  obtain ⟨g,cap,rfl⟩:=hv
  have HB:=Lib.hid (((Below.refl _ w).alloc (Nat.le_refl _) _).grown hgrow (by simp) (by intro k hk;simp [Value.ownBlock] at hk;omega))
  clear hown hgrow hnil
  go_wp2
  go_ret
  exact ⟨g,cap,rfl,HB.out⟩
theorem sort_none (p:Option Addr) (cap:Nat) (fv:Value) (w:World):Calls Tryz.prog 54 #[.slice p 0 cap,fv] w fun e w'=>e=.returned (.tuple #[])∧w=w':=
 (AnyF.slices_SortFunc_none (ρ:=sortPt_ren) sortPt p cap fv w).mono fun _ _ ⟨h1,h2⟩=>⟨h1,h2.symm⟩
set_option maxRecDepth 100000 in
theorem compact_none (p:Option Addr) (cap:Nat) (w:World):Calls Tryz.prog 56 #[.slice p 0 cap] w fun e w'=>e=.returned (.slice p 0 cap)∧w=w':=by
 go_enter Tryz.func56,Tryz.ntmps56
 go_wp2
 go_ret
 exact ⟨rfl,rfl⟩
set_option maxRecDepth 100000 in
set_option maxHeartbeats 4000000 in
theorem pg_hull_none (p:Option Addr) (c:Nat) (w:World):Calls Tryz.prog 14 #[.slice p 0 c] w (RV (.tuple #[.slice none 0 0,.int .i64 13]) w):=by
 go_enter Tryz.func14,Tryz.ntmps14
 go_wp2_with fail
 refine wp_loop_rounds 1 ?_
 rw [rounds_succ]
 go_wp2_with fail
 refine (clone_none p c w).mono ?_
 rintro e w1 ⟨g,cap,rfl,hb1⟩
 have HB:=Lib.hid hb1
 clear hb1
 go_wp2_with fail
 refine (sort_none g cap _ w1).mono ?_
 rintro e w2 ⟨rfl,rfl⟩
 go_wp2_with fail
 refine (compact_none g cap w1).mono ?_
 rintro e w2 ⟨rfl,rfl⟩
 go_wp2
 go_ret2
 exact ⟨rfl,HB.out⟩
end Go.Proofs.YtgohnjdgoglcfaaGreatDoor
