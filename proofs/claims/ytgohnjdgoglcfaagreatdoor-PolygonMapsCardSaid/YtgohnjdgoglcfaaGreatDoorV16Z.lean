import Derived.Test.YtgohnjdgoglcfaaGreatDoorT15Z
import Derived.Test.YtgohnjdgoglcfaaGreatDoorT13Z
import Derived.Test.YtgohnjdgoglcfaaGreatDoorS3Z
set_option maxRecDepth 100000
set_option maxHeartbeats 4000000
namespace Go.Proofs.YtgohnjdgoglcfaaGreatDoor
open Go.RowKit Go.Shelf
open Go.Lib (decDigits itoa nDigits)
theorem r9_area_none (p:Option Addr) (c:Nat) (w:World):Calls Tryz.prog 27 #[.slice p 0 c] w (RV (.string (tx 0)) w):=by
 rw [tx0]
 go_enter Tryz.func27,Tryz.ntmps27
 go_wp2_with fail
 refine wp_loop_rounds 1 ?_
 rw [rounds_succ]
 go_wp2
 go_ret
 exact ⟨rfl,Below.refl _ _⟩
theorem OkB.parts {q:Rat} (h:OkB q):q.num.natAbs≤10 ^ 402∧q.den≤10 ^ 402:=by
 have h1:=(iz_num h.sz).lt
 have h2:=(iz_den h.sz).lt
 exact ⟨Nat.le_of_lt h1,by omega⟩
theorem sz_of_lt {q:Rat} {a b:Nat} (h1:q.num.natAbs<10 ^ a) (h2:q.den<10 ^ b) (ha:0<a) (hb:0<b):Sz (a+b+2) q:=by
 have k1:=rlen_le q
 have k2:=(itoa_len_le q.num).2
 have k3:=nDigits_le_of_lt h1 ha
 have k4:=nDigits_le_of_lt h2 hb
 show (tx q).size≤_
 rw [tx_len]
 omega
theorem pow_pow_le (x:Nat) (hx:0<x) (a b c:Nat) (h:a*b≤c):(x ^ a) ^ b≤x ^ c:=by
 rw [←Nat.pow_mul]
 exact Nat.pow_le_pow_right hx h
theorem mul_pow_le (x a b c y z:Nat) (h1:y≤x ^ a) (h2:z≤x ^ b) (h:a+b=c):y*z≤x ^ c:=by
 subst h
 rw [Nat.pow_add]
 exact Nat.mul_le_mul h1 h2
theorem bnd_pow (z k:Nat) (hk:k≤16):8*z*z*k≤128*(z*z):=by
 have:=Nat.mul_le_mul_left (8*z*z) hk
 grind
theorem bnd_pow2 (a b:Nat) (h:b=3+(a+a)):128*(10 ^ a*10 ^ a)≤10 ^ b:=by
 subst h
 rw [Nat.pow_add 10 3,Nat.pow_add]
 exact Nat.mul_le_mul_right _ (by decide)
theorem bnd_pow3 (a b k:Nat) (hk:k≤16) (h:b=3+(a+a)):8*10 ^ a*10 ^ a*k≤10 ^ b:=
 Nat.le_trans (bnd_pow (10 ^ a) k hk) (bnd_pow2 a b h)
theorem lt_pow10 (a b x:Nat) (h:x≤10 ^ a) (hab:a<b):x<10 ^ b:=Nat.lt_of_le_of_lt h (Nat.pow_lt_pow_right (by decide) hab)
theorem okb_fc {X:List QP} (h:∀ p∈X,OkB p.1∧OkB p.2) (hl:X.length≤16):∃ Nx Ny,0<Nx∧0<Ny∧Nx≤10 ^ 6432∧Ny≤10 ^ 6432∧∀ p∈X,FcP (10 ^ 402) Nx Ny p:=by
 have hp:(10 ^ 402) ^ X.length≤10 ^ 6432:=pow_pow_le 10 (by decide) 402 X.length 6432 (by omega)
 refine ⟨dens (X.map (·.1)),dens (X.map (·.2)),dens_pos _,dens_pos _,?_,?_,fun p hp=>⟨?_,?_⟩⟩
 ·refine Nat.le_trans (dens_le (d:=10 ^ 402) _ fun q hq=>?_) (by rw [List.length_map];exact hp)
  obtain ⟨p,hp,rfl⟩:=List.mem_map.1 hq
  exact (h p hp).1.parts.2
 ·refine Nat.le_trans (dens_le (d:=10 ^ 402) _ fun q hq=>?_) (by rw [List.length_map];exact hp)
  obtain ⟨p,hp,rfl⟩:=List.mem_map.1 hq
  exact (h p hp).2.parts.2
 ·refine fc_dens _ (fun q hq=>?_) _ (List.mem_map_of_mem hp)
  obtain ⟨p,hp,rfl⟩:=List.mem_map.1 hq
  exact (h p hp).1.parts.1
 ·refine fc_dens _ (fun q hq=>?_) _ (List.mem_map_of_mem hp)
  obtain ⟨p,hp,rfl⟩:=List.mem_map.1 hq
  exact (h p hp).2.parts.1
theorem okb_area {X:List QP} (h:∀ p∈X,OkB p.1∧OkB p.2) (hl:X.length≤16):∀ k,k+2≤X.length→Sz 30000 (areaTo X k):=fun k hk=>by
 obtain ⟨Nx,Ny,h1,h2,h3,h4,h5⟩:=okb_fc h hl
 obtain ⟨a,b⟩:=(fc_areaTo h5 k hk).parts (Nat.mul_pos h1 h2)
 have hN:Nx*Ny≤10 ^ 12864:=mul_pow_le 10 6432 6432 12864 Nx Ny h3 h4 rfl
 have hB:=bnd_pow3 402 807 k (by omega) rfl
 have hM:=mul_pow_le 10 807 12864 13671 _ _ hB hN rfl
 have hK:=Nat.le_trans a hM
 have h6:=lt_pow10 13671 13672 _ hK (by decide)
 have h7:=lt_pow10 12864 12865 _ (Nat.le_trans b hN) (by decide)
 exact (sz_of_lt h6 h7 (by decide) (by decide)).mono (by decide)
theorem r9_area_x (r:Value) (X:List QP) (h3:X=[]∨3≤X.length) (hl:X.length≤16) (h:∀ p∈X,OkB p.1∧OkB p.2) (w:World) (hw:Good w) (hv:Pts w r X):Calls Tryz.prog 27 #[r] w (RV (.string (tx (areaP X))) w):=by
 rcases h3 with rfl | h3
 ·obtain ⟨p,c,rfl,_,_⟩:=hv.slice
  rw [show areaP []=0 from area_short (by decide)]
  exact r9_area_none p c w
 ·exact r9_area r X (by omega) (by omega) (fun p hp=>(okP_sz (h p hp)).mono (by decide)) (fun k hk=>(okb_area h hl k hk).mono (by decide)) w hw hv
theorem okb_whole {X:List QP} (h3:X=[]∨3≤X.length) (hl:X.length≤16) (h:∀ p∈X,OkB p.1∧OkB p.2):Sz 30000 (areaP X):=by
 rcases h3 with rfl | h3
 ·rw [show areaP []=0 from area_short (by decide)]
  exact Nat.le_trans (show (tx 0).size≤1 by decide +kernel) (by decide)
 ·exact okb_area h hl _ (by omega)
open Go.Lib (hid)
def shortP (p:Pair):Prop:=p.1.size≤40∧p.2.size≤40
noncomputable def fewB (L:List Pair):Bool:=by
 classical
 exact decide ((L.length≤6∨(59≤L.length∧L.length≤62))∧∀ p∈L,shortP p)
theorem fewB_true {L:List Pair}:fewB L=true↔(L.length≤6∨(59≤L.length∧L.length≤62))∧∀ p∈L,shortP p:=by unfold fewB;simp
theorem fewB_false {L:List Pair} (h:¬ ((L.length≤6∨(59≤L.length∧L.length≤62))∧∀ p∈L,shortP p)):fewB L=false:=by
 cases hb:fewB L with
 | false=>rfl
 | true=>exact absurd (fewB_true.1 hb) h
def FewTo (L:List Pair) (k:Nat):Prop:=k≤L.length∧∀ i (h:i<L.length),i<k→shortP L[i]
theorem FewTo.step {L:List Pair} {k:Nat} (h:FewTo L k) (hk:k<L.length) (hx:L[k].1.size≤40) (hy:L[k].2.size≤40):FewTo L (k+1):=
 ⟨hk,fun i hi h1=>by
  rcases Nat.lt_or_ge i k with h2 | h2
  ·exact h.2 i hi h2
  ·obtain rfl:i=k:=by omega
   exact ⟨hx,hy⟩⟩
theorem FewTo.all {L:List Pair} (h:FewTo L L.length):∀ p∈L,shortP p:=fun p hp=>by
 obtain ⟨i,hi,rfl⟩:=List.getElem_of_mem hp
 exact h.2 i hi hi
theorem law_few (v:Value) (L:List Pair) (w:World) (hv:Pairs w v L) :
  Calls Tryz.prog 13 #[v] w fun e w'=>e=.returned (.bool (fewB L))∧w=w':=by
 obtain ⟨p,c,rfl,hcl,hcm,hblk⟩:=hv
 unfold maxLen at hcm
 have HC:Hid (∀ k (hk:k<L.length),∃ b off,p=some ⟨b,off,none⟩∧w.cell? ⟨b,off+k*2,none⟩=some (.string L[k].1)∧w.cell? ⟨b,off+k*2+1,none⟩=some (.string L[k].2)):=hid fun k hk=>by
  obtain ⟨b,off,h1,_,h3⟩:=hblk (by omega)
  exact ⟨b,off,h1,h3 k hk⟩
 clear hblk
 by_cases hn:L.length≤6∨(59≤L.length∧L.length≤62)
 ·have HT:=hid (fun (h:∀ p∈L,shortP p)=>fewB_true.2 ⟨hn,h⟩)
  have HF:=hid (fun i (hi:i<L.length) (h:¬ shortP L[i])=>fewB_false (L:=L) (fun h'=>h (h'.2 _ (List.getElem_mem hi))))
  generalize hfb:fewB L=fb at *
  clear hfb
  rcases hn with hn | ⟨hn,hn'⟩
  all_goals
   go_enter Tryz.func13,Tryz.ntmps13
   go_wp2_with fail
   go_loop [3] (fun iv=>∃ k:Nat,FewTo L k∧iv=.int .i64 (k:Int)) (fun iv=>L.length-(intOf iv).toNat)
   case atStart=>exact ⟨0,⟨Nat.zero_le _,fun i _ h=>absurd h (Nat.not_lt_zero _)⟩,rfl⟩
   case round =>
    obtain ⟨k,hkl,rfl⟩:=hrel
    have hkl':=hkl.1
    have HK:=hid hkl
    clear hkl
    by_cases hk:k<L.length
    ·obtain ⟨b,off,rfl,c0,c1⟩:=HC.out k hk
     have HS:=hid (fun h1 h2=>HK.out.step hk h1 h2)
     have HN:=hid (fun h=>HF.out k hk h)
     unfold shortP at HN
     generalize L[k].1=s1 at *
     generalize L[k].2=s2 at *
     by_cases hx:s1.size≤40
     ·by_cases hy:s2.size≤40
      ·go_wp2
       go_round
       case rel=>exact ⟨k+1,HS.out hx hy,by go_num⟩
       case measure=>simp [intOf];omega
      ·go_wp2
       go_ret
       exact ⟨by rw [HN.out (fun h=>hy h.2)];rfl,rfl⟩
     ·go_wp2
      go_ret
      exact ⟨by rw [HN.out (fun h=>hx h.1)];rfl,rfl⟩
    ·go_wp2
     go_ret
     have e:k=L.length:=by omega
     subst e
     exact ⟨by rw [HT.out HK.out.all];rfl,rfl⟩
 ·have hfb:fewB L=false:=fewB_false (fun h=>hn h.1)
  rw [hfb]
  have h6:¬ L.length≤6:=fun h=>hn (.inl h)
  by_cases h59:L.length<59
  ·go_enter Tryz.func13,Tryz.ntmps13
   go_wp2
   go_ret
   exact ⟨rfl,rfl⟩
  ·have h62:¬ L.length≤62:=fun h=>hn (.inr ⟨by omega,h⟩)
   go_enter Tryz.func13,Tryz.ntmps13
   go_wp2
   go_ret
   exact ⟨rfl,rfl⟩
def absQ (q:Rat):Rat:=if q<0 then -q else q
theorem r_abs (q:Rat) (hq:Sz 1000000000 q) (w:World):Calls Tryz.prog 47 #[.string (tx q)] w (RV (.string (tx (absQ q))) w):=by
 have H1:=hid (fun w'=>r_sign q w')
 have H2:=hid (fun w'=>r_neg q hq w')
 unfold RV at H1 H2
 clear hq
 by_cases h:q<0
 ·have hs:sgnR q = -1:=sgn_neg (num_neg_iff.1 h)
  rw [hs] at H1
  have HE:=hid (show tx (-q)=tx (absQ q) by unfold absQ;rw [if_pos h])
  clear hs h
  generalize tx (absQ q)=r at *
  generalize tx (-q)=nq at *
  generalize tx q=tq at *
  go_enter Tryz.func47,Tryz.ntmps47
  go_wp2_with fail
  refine (H1.out _).mono ?_
  rintro e w1 ⟨rfl,hw1⟩
  have hbw1:=hw1
  go_wp2_with fail
  refine (H2.out _).mono ?_
  rintro e w2 ⟨rfl,hw2⟩
  have hbw2:=hbw1.trans (hw2.mono hbw1.size)
  go_wp2
  go_ret
  exact ⟨ret_str HE.out,hbw2⟩
 ·have hs:¬ sgnR q<0:=by
   intro h2
   have:=mt num_neg_iff.2 h
   unfold sgnR at h2
   rcases sgn_cases q.num with ⟨a,b⟩ | ⟨a,b⟩ | ⟨a,b⟩ <;> omega
  have HE:=hid (show tx q=tx (absQ q) by unfold absQ;rw [if_neg h])
  clear h
  generalize tx (absQ q)=r at *
  generalize tx q=tq at *
  generalize sgnR q=sg at *
  go_enter Tryz.func47,Tryz.ntmps47
  go_wp2_with fail
  refine (H1.out _).mono ?_
  rintro e w1 ⟨rfl,hw1⟩
  have hbw1:=hw1
  go_wp2
  go_ret
  exact ⟨ret_str HE.out,hbw1⟩
end Go.Proofs.YtgohnjdgoglcfaaGreatDoor
