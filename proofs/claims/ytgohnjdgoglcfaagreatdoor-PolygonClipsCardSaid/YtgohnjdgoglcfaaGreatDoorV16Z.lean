import Derived.Test.YtgohnjdgoglcfaaGreatDoorT15Z
set_option maxRecDepth 100000
namespace Go.Proofs.YtgohnjdgoglcfaaGreatDoor
open Go.RowKit Go.Shelf
open Go.Lib (decDigits itoa nDigits)
theorem r9_area_none (p:Option Addr) (c:Nat) (w:World):Calls Tryz.prog 27 #[.slice p 0 c] w (RV (.string (tx 0)) w):=by
 rw [tx0]
 go_enter Tryz.func27,Tryz.ntmps27
 go_wp2_with fail
 refine wp_loop_rounds 1 ?_
 rw [rounds_succ]
 go_wp2
 go_ret
 exact ⟨rfl,Below.refl _ _⟩
theorem OkB.parts {q:Rat} (h:OkB q):q.num.natAbs≤10 ^ 402∧q.den≤10 ^ 402:=by
 have h1:=(iz_num h.sz).lt
 have h2:=(iz_den h.sz).lt
 exact ⟨Nat.le_of_lt h1,by omega⟩
theorem sz_of_lt {q:Rat} {a b:Nat} (h1:q.num.natAbs<10 ^ a) (h2:q.den<10 ^ b) (ha:0<a) (hb:0<b):Sz (a+b+2) q:=by
 have k1:=rlen_le q
 have k2:=(itoa_len_le q.num).2
 have k3:=nDigits_le_of_lt h1 ha
 have k4:=nDigits_le_of_lt h2 hb
 show (tx q).size≤_
 rw [tx_len]
 omega
theorem pow_pow_le (x:Nat) (hx:0<x) (a b c:Nat) (h:a*b≤c):(x ^ a) ^ b≤x ^ c:=by
 rw [←Nat.pow_mul]
 exact Nat.pow_le_pow_right hx h
theorem mul_pow_le (x a b c y z:Nat) (h1:y≤x ^ a) (h2:z≤x ^ b) (h:a+b=c):y*z≤x ^ c:=by
 subst h
 rw [Nat.pow_add]
 exact Nat.mul_le_mul h1 h2
theorem bnd_pow (z k:Nat) (hk:k≤16):8*z*z*k≤128*(z*z):=by
 have:=Nat.mul_le_mul_left (8*z*z) hk
 grind
theorem bnd_pow2 (a b:Nat) (h:b=3+(a+a)):128*(10 ^ a*10 ^ a)≤10 ^ b:=by
 subst h
 rw [Nat.pow_add 10 3,Nat.pow_add]
 exact Nat.mul_le_mul_right _ (by decide)
theorem bnd_pow3 (a b k:Nat) (hk:k≤16) (h:b=3+(a+a)):8*10 ^ a*10 ^ a*k≤10 ^ b:=
 Nat.le_trans (bnd_pow (10 ^ a) k hk) (bnd_pow2 a b h)
theorem lt_pow10 (a b x:Nat) (h:x≤10 ^ a) (hab:a<b):x<10 ^ b:=Nat.lt_of_le_of_lt h (Nat.pow_lt_pow_right (by decide) hab)
theorem okb_fc {X:List QP} (h:∀ p∈X,OkB p.1∧OkB p.2) (hl:X.length≤16):∃ Nx Ny,0<Nx∧0<Ny∧Nx≤10 ^ 6432∧Ny≤10 ^ 6432∧∀ p∈X,FcP (10 ^ 402) Nx Ny p:=by
 have hp:(10 ^ 402) ^ X.length≤10 ^ 6432:=pow_pow_le 10 (by decide) 402 X.length 6432 (by omega)
 refine ⟨dens (X.map (·.1)),dens (X.map (·.2)),dens_pos _,dens_pos _,?_,?_,fun p hp=>⟨?_,?_⟩⟩
 ·refine Nat.le_trans (dens_le (d:=10 ^ 402) _ fun q hq=>?_) (by rw [List.length_map];exact hp)
  obtain ⟨p,hp,rfl⟩:=List.mem_map.1 hq
  exact (h p hp).1.parts.2
 ·refine Nat.le_trans (dens_le (d:=10 ^ 402) _ fun q hq=>?_) (by rw [List.length_map];exact hp)
  obtain ⟨p,hp,rfl⟩:=List.mem_map.1 hq
  exact (h p hp).2.parts.2
 ·refine fc_dens _ (fun q hq=>?_) _ (List.mem_map_of_mem hp)
  obtain ⟨p,hp,rfl⟩:=List.mem_map.1 hq
  exact (h p hp).1.parts.1
 ·refine fc_dens _ (fun q hq=>?_) _ (List.mem_map_of_mem hp)
  obtain ⟨p,hp,rfl⟩:=List.mem_map.1 hq
  exact (h p hp).2.parts.1
theorem okb_area {X:List QP} (h:∀ p∈X,OkB p.1∧OkB p.2) (hl:X.length≤16):∀ k,k+2≤X.length→Sz 30000 (areaTo X k):=fun k hk=>by
 obtain ⟨Nx,Ny,h1,h2,h3,h4,h5⟩:=okb_fc h hl
 obtain ⟨a,b⟩:=(fc_areaTo h5 k hk).parts (Nat.mul_pos h1 h2)
 have hN:Nx*Ny≤10 ^ 12864:=mul_pow_le 10 6432 6432 12864 Nx Ny h3 h4 rfl
 have hB:=bnd_pow3 402 807 k (by omega) rfl
 have hM:=mul_pow_le 10 807 12864 13671 _ _ hB hN rfl
 have hK:=Nat.le_trans a hM
 have h6:=lt_pow10 13671 13672 _ hK (by decide)
 have h7:=lt_pow10 12864 12865 _ (Nat.le_trans b hN) (by decide)
 exact (sz_of_lt h6 h7 (by decide) (by decide)).mono (by decide)
theorem r9_area_x (r:Value) (X:List QP) (h3:X=[]∨3≤X.length) (hl:X.length≤16) (h:∀ p∈X,OkB p.1∧OkB p.2) (w:World) (hw:Good w) (hv:Pts w r X):Calls Tryz.prog 27 #[r] w (RV (.string (tx (areaP X))) w):=by
 rcases h3 with rfl | h3
 ·obtain ⟨p,c,rfl,_,_⟩:=hv.slice
  rw [show areaP []=0 from area_short (by decide)]
  exact r9_area_none p c w
 ·exact r9_area r X (by omega) (by omega) (fun p hp=>(okP_sz (h p hp)).mono (by decide)) (fun k hk=>(okb_area h hl k hk).mono (by decide)) w hw hv
theorem okb_whole {X:List QP} (h3:X=[]∨3≤X.length) (hl:X.length≤16) (h:∀ p∈X,OkB p.1∧OkB p.2):Sz 30000 (areaP X):=by
 rcases h3 with rfl | h3
 ·rw [show areaP []=0 from area_short (by decide)]
  exact Nat.le_trans (show (tx 0).size≤1 by decide +kernel) (by decide)
 ·exact okb_area h hl _ (by omega)
end Go.Proofs.YtgohnjdgoglcfaaGreatDoor
