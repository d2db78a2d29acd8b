import Derived.Test.YtgohnjdgoglcfaaGreatDoorT13Z
set_option maxRecDepth 100000
set_option maxHeartbeats 4000000
namespace Go.Proofs.YtgohnjdgoglcfaaGreatDoor
open Go.RowKit Go.Shelf
open Go.Lib (decDigits itoa nDigits)
open Go.Lib (hid)
def shortP (p:Pair):Prop:=p.1.size≤40∧p.2.size≤40
noncomputable def fewB (L:List Pair):Bool:=by
 classical
 exact decide ((L.length≤6∨(59≤L.length∧L.length≤62))∧∀ p∈L,shortP p)
theorem fewB_true {L:List Pair}:fewB L=true↔(L.length≤6∨(59≤L.length∧L.length≤62))∧∀ p∈L,shortP p:=by unfold fewB;simp
theorem fewB_false {L:List Pair} (h:¬ ((L.length≤6∨(59≤L.length∧L.length≤62))∧∀ p∈L,shortP p)):fewB L=false:=by
 cases hb:fewB L with
 | false=>rfl
 | true=>exact absurd (fewB_true.1 hb) h
def FewTo (L:List Pair) (k:Nat):Prop:=k≤L.length∧∀ i (h:i<L.length),i<k→shortP L[i]
theorem FewTo.step {L:List Pair} {k:Nat} (h:FewTo L k) (hk:k<L.length) (hx:L[k].1.size≤40) (hy:L[k].2.size≤40):FewTo L (k+1):=
 ⟨hk,fun i hi h1=>by
  rcases Nat.lt_or_ge i k with h2 | h2
  ·exact h.2 i hi h2
  ·obtain rfl:i=k:=by omega
   exact ⟨hx,hy⟩⟩
theorem FewTo.all {L:List Pair} (h:FewTo L L.length):∀ p∈L,shortP p:=fun p hp=>by
 obtain ⟨i,hi,rfl⟩:=List.getElem_of_mem hp
 exact h.2 i hi hi
theorem law_few (v:Value) (L:List Pair) (w:World) (hv:Pairs w v L) :
  Calls Tryz.prog 13 #[v] w fun e w'=>e=.returned (.bool (fewB L))∧w=w':=by
 obtain ⟨p,c,rfl,hcl,hcm,hblk⟩:=hv
 unfold maxLen at hcm
 have HC:Hid (∀ k (hk:k<L.length),∃ b off,p=some ⟨b,off,none⟩∧w.cell? ⟨b,off+k*2,none⟩=some (.string L[k].1)∧w.cell? ⟨b,off+k*2+1,none⟩=some (.string L[k].2)):=hid fun k hk=>by
  obtain ⟨b,off,h1,_,h3⟩:=hblk (by omega)
  exact ⟨b,off,h1,h3 k hk⟩
 clear hblk
 by_cases hn:L.length≤6∨(59≤L.length∧L.length≤62)
 ·have HT:=hid (fun (h:∀ p∈L,shortP p)=>fewB_true.2 ⟨hn,h⟩)
  have HF:=hid (fun i (hi:i<L.length) (h:¬ shortP L[i])=>fewB_false (L:=L) (fun h'=>h (h'.2 _ (List.getElem_mem hi))))
  generalize hfb:fewB L=fb at *
  clear hfb
  rcases hn with hn | ⟨hn,hn'⟩
  all_goals
   go_enter Tryz.func13,Tryz.ntmps13
   go_wp2_with fail
   go_loop [3] (fun iv=>∃ k:Nat,FewTo L k∧iv=.int .i64 (k:Int)) (fun iv=>L.length-(intOf iv).toNat)
   case atStart=>exact ⟨0,⟨Nat.zero_le _,fun i _ h=>absurd h (Nat.not_lt_zero _)⟩,rfl⟩
   case round =>
    obtain ⟨k,hkl,rfl⟩:=hrel
    have hkl':=hkl.1
    have HK:=hid hkl
    clear hkl
    by_cases hk:k<L.length
    ·obtain ⟨b,off,rfl,c0,c1⟩:=HC.out k hk
     have HS:=hid (fun h1 h2=>HK.out.step hk h1 h2)
     have HN:=hid (fun h=>HF.out k hk h)
     unfold shortP at HN
     generalize L[k].1=s1 at *
     generalize L[k].2=s2 at *
     by_cases hx:s1.size≤40
     ·by_cases hy:s2.size≤40
      ·go_wp2
       go_round
       case rel=>exact ⟨k+1,HS.out hx hy,by go_num⟩
       case measure=>simp [intOf];omega
      ·go_wp2
       go_ret
       exact ⟨by rw [HN.out (fun h=>hy h.2)];rfl,rfl⟩
     ·go_wp2
      go_ret
      exact ⟨by rw [HN.out (fun h=>hx h.1)];rfl,rfl⟩
    ·go_wp2
     go_ret
     have e:k=L.length:=by omega
     subst e
     exact ⟨by rw [HT.out HK.out.all];rfl,rfl⟩
 ·have hfb:fewB L=false:=fewB_false (fun h=>hn h.1)
  rw [hfb]
  have h6:¬ L.length≤6:=fun h=>hn (.inl h)
  by_cases h59:L.length<59
  ·go_enter Tryz.func13,Tryz.ntmps13
   go_wp2
   go_ret
   exact ⟨rfl,rfl⟩
  ·have h62:¬ L.length≤62:=fun h=>hn (.inr ⟨by omega,h⟩)
   go_enter Tryz.func13,Tryz.ntmps13
   go_wp2
   go_ret
   exact ⟨rfl,rfl⟩
end Go.Proofs.YtgohnjdgoglcfaaGreatDoor
