import Derived.Test.YtglncfkoohgdaaaGreatDoorG12R
set_option maxRecDepth 100000
set_option maxHeartbeats 2000000
namespace Go.Proofs.YtglncfkoohgdaaaGreatDoor
open Go.RowKit Go.Shelf
def ac3 (P:bQ) (k:Nat) (s:Stp) (i:Nat) (v:Value) (W:World):Prop:=∃ x,(aC P k s)[i]?=some x∧qx x v W
theorem KS {N0:Nat} {vg va vt:Value} {P:bQ} {k:Nat} {s:Stp} {Bs Bl Br B1 B2 Bk Bp:Nat} {vl vr:Value} (hk:k+1<P.lg.length) (hO:dm P) (hs:s.k∈kinds) (hc:bF (ai P k) (ai P (k+1)) s.k s.i s.j=true) (hi:s.i≤(ai P k).length) (hj:s.j≤(ai P (k+1)).length)
  (wS:World) (hw:Good wS) (hE:lF N0 vg va vt P k s Bs Bl Br B1 B2 Bk Bp vl vr wS) :
  LV 97 Fence.wide 9 Tryz.prog 104 #[.pointer (some ⟨Bs,0,none⟩),.pointer (some ⟨Bl,0,none⟩),.pointer (some ⟨Br,0,none⟩),.pointer (some ⟨B1,0,none⟩),.pointer (some ⟨B2,0,none⟩),.pointer (some ⟨Bk,0,none⟩)] (ac3 P k s) (iM N0) (aC P k s).length wS:=by
 intro l J Jx W hW hJ _ hY h0
 have hg:=hw.below hW
 have he:=hE.below hW
 unfold kinds at hs
 simp only [List.mem_cons,List.not_mem_nil,or_false] at hs
 rcases hs with h | h | h | h | h
 ·rw [h] at hc
  have h2:s.i<(ai P k).length∧s.j<(ai P (k+1)).length:=by simpa [bF] using hc
  exact Nj hk hO h h2.1 h2.2 l J Jx W hg he hJ hY h0
 ·rw [h] at hc
  have h2:s.i<(ai P k).length:=by simpa [bF] using hc
  exact uK hk hO (.inl h) h2 hj l J Jx W hg he hJ hY h0
 ·rw [h] at hc
  have h2:s.j<(ai P (k+1)).length:=by simpa [bF] using hc
  exact uL hk hO (.inl h) h2 hi l J Jx W hg he hJ hY h0
 ·rw [h] at hc
  have h2:s.i<(ai P k).length:=by simp only [bF] at hc;simp at hc;exact hc.1
  exact uK hk hO (.inr h) h2 hj l J Jx W hg he hJ hY h0
 ·rw [h] at hc
  have h2:s.j<(ai P (k+1)).length:=by simp only [bF] at hc;simp at hc;exact hc.1
  exact uL hk hO (.inr h) h2 hi l J Jx W hg he hJ hY h0
open Go.Lib (decDigits itoa nDigits)
open Go.Lib (hid)
theorem aam (p:QP) (h:oz p.1∧oz p.2) (w:World) (hw:Good w):Calls Tryz.prog 49 #[xm p] w (RV (.bool false) w):=by
 have H1:=hid (fun w' (hg:Good w')=>gY p.1 h.1 w' hg)
 have H2:=hid (fun w' (hg:Good w')=>gY p.2 h.2 w' hg)
 unfold RV at *
 unfold xm
 clear h
 generalize tx p.1=a at *
 generalize tx p.2=b at *
 go_enter Tryz.func49,Tryz.ntmps49
 go_upto_region 1 with fail
 obtain ⟨wA,aS⟩ : ∃ wA,wA=w.alloc (Obj.cells #[.string a,.string b] 113):=⟨_,rfl⟩
 have aP:Below w.heap.size w wA:=by rw [aS];exact ae _ _
 have hcA:wA.heap[w.heap.size]?=some (.cells #[.string a,.string b] 113 (0,0)):=by rw [aS];exact World.alloc_heap_new _ _
 obtain ⟨c0,c1,_,_⟩:=aj hcA
 have lA:=aa hcA
 rw [←aS]
 clear aS hcA
 go_wp2_with fail
 refine (H1.out wA (hw.below aP)).mono ?_
 rintro e w1 ⟨rfl,hb1⟩
 have c1:=(hb1.cell (p:=⟨w.heap.size,1,none⟩) lA).trans c1
 have hb2:=aP.trans (hb1.mono aP.size)
 go_wp2_with fail
 refine (H2.out w1 (hw.below hb2)).mono ?_
 rintro e w2 ⟨rfl,hb3⟩
 go_wp2
 go_ret
 exact ⟨rfl,hb2.trans (hb3.mono hb2.size)⟩
theorem VI (v:Value) (L:List QP) (hn:L.length≤1000) (hz:∀ p∈L,oz p.1∧oz p.2) (w:World) (hw:Good w) (hv:qp w v L) :
  Calls Tryz.prog 107 #[v,.func (.func 49) #[] #[]] w (RV (.int .i64 (-1)) w):=by
 have HL:=hid (fun i (hi:i<L.length) w' (hg:Good w')=>aam (pt L i) (hz _ (bV hi)) w' hg)
 have HV:=hid hv
 obtain ⟨p,c,rfl,hcl,hcm⟩:=hv.slice
 unfold maxLen at hcm
 unfold xm at HL
 unfold RV at *
 have e49:=enters_of Tryz.func49 (by kernel_rfl) rfl
 clear hv hz
 go_enter Tryz.func107,Tryz.ntmps107
 go_wp2_with fail
 go_loopw [4,5,8] (fun _ _ iv wr=>∃ k:Nat,k≤L.length∧iv=.int .i64 (k:Int)∧Below w.heap.size w wr) (fun _ _ iv _=>L.length-(intOf iv).toNat)
 case atStart=>exact ⟨0,Nat.zero_le _,rfl,Below.refl _ _⟩
 case round =>
  obtain ⟨k,hkl,rfl,hbr⟩:=hrel
  by_cases hk:k<L.length
  ·obtain ⟨B,off,rfl,hbl,hcell⟩:=qp.cells HV.out (by omega)
   have c0:=(hbr.cell (p:=⟨B,off+k*2,none⟩) hbl).trans (hcell k hk).1
   have c1:=(hbr.cell (p:=⟨B,off+k*2+1,none⟩) hbl).trans (hcell k hk).2
   have H1:=hid (HL.out k hk)
   have kn:decide ((k:Int)<(L.length:Int))=true:=decide_eq_true (by omega)
   have Jc:decide (k<L.length)=true:=decide_eq_true hk
   have i1:(0:Int)≤(k:Int):=by omega
   have i2:(k:Int)<(L.length:Int):=by omega
   clear hcell
   generalize tx (pt L k).1=a at *
   generalize tx (pt L k).2=b at *
   go_wp2_with fail
   refine (H1.out wr (hw.below hbr)).mono ?_
   rintro e w1 ⟨rfl,hb1⟩
   go_wp2
   refine ⟨⟨k+1,hk,aA k,hbr.trans (hb1.mono hbr.size)⟩,?_⟩
   show L.length-((k:Int)+1).toNat<L.length-((k:Int)).toNat
   omega
  ·obtain rfl:k=L.length:=by omega
   go_wp2
   go_ret
   exact ⟨rfl,hbr⟩
theorem KT (v:Value) (L:List QP) (hn:L.length≤1000) (hz:∀ p∈L,oz p.1∧oz p.2) (w:World) (hw:Good w) (hv:qp w v L) :
  Calls Tryz.prog 48 #[v,.func (.func 49) #[] #[]] w (RV (.bool false) w):=by
 have HI:=hid (VI v L hn hz w hw hv)
 obtain ⟨p,c,rfl,hcl,hcm⟩:=hv.slice
 unfold RV at *
 clear hv hz
 go_enter Tryz.func48,Tryz.ntmps48
 go_wp2_with fail
 refine HI.out.mono ?_
 rintro e w1 ⟨rfl,hb1⟩
 go_wp2
 go_ret
 exact ⟨rfl,hb1⟩
theorem H2.mid {m n:Nat} {p q:Rat} (h:H2 m p) (k:H2 n q):Q4 (m+n) ((p+q)*(1/2)):=by
 obtain ⟨a,h1,h2⟩:=h
 obtain ⟨b,k1,k2⟩:=k
 refine ⟨a+b,by omega,?_⟩
 rw [Rat.intCast_add,←h2,←k2]
 grind
theorem Pb {P:bQ} (hO:dm P) (k:Nat) (hk:k<P.lg.length) (n:Nat) (hn:n≤(ai P k).length):H2 64 (dZ (ai P k) n):=by
 unfold dZ
 split
 ·exact (hO.iv k (n-1) hk (by omega)).2
 ·split
  ·exact (hO.iv k 0 hk (by omega)).1
  ·exact ⟨0,by decide,by rw [Rat.zero_mul];rfl⟩
theorem tK {P:bQ} (hO:dm P) (k:Nat) (hk:k<P.lg.length) {d:Rat} (hd:H2 64 d):H2 64 (aG P k d).1∧H2 128 (aG P k d).2:=⟨hO.xs k hk,(hO.tp k hk).sub hd⟩
theorem Dy {P:bQ} (hO:dm P) {k:Nat} {s:Stp} (hk:k+1<P.lg.length) (hs:s.k∈kinds) (hc:bF (ai P k) (ai P (k+1)) s.k s.i s.j=true) (hi:s.i≤(ai P k).length) (hj:s.j≤(ai P (k+1)).length) :
  ∀ x∈aC P k s,x.1.pg.length≤4∧∀ p∈x.1.pg,Q4 256 p.1∧Q4 256 p.2:=by
 have hq:∀ {a b:Rat},H2 64 a∧H2 128 b→Q4 256 a∧Q4 256 b:=fun h=>⟨h.1.q4.mono (by decide),h.2.q4.mono (by decide)⟩
 have hl:∀ i,i<(ai P k).length→(Q4 256 (aG P k (ah (ai P k) i).a).1∧Q4 256 (aG P k (ah (ai P k) i).a).2)∧(Q4 256 (aG P k (ah (ai P k) i).b).1∧Q4 256 (aG P k (ah (ai P k) i).b).2):=fun i h =>
  ⟨hq (tK hO k (by omega) (hO.iv k i (by omega) h).1),hq (tK hO k (by omega) (hO.iv k i (by omega) h).2)⟩
 have hr:∀ i,i<(ai P (k+1)).length→(Q4 256 (aG P (k+1) (ah (ai P (k+1)) i).a).1∧Q4 256 (aG P (k+1) (ah (ai P (k+1)) i).a).2)∧(Q4 256 (aG P (k+1) (ah (ai P (k+1)) i).b).1∧Q4 256 (aG P (k+1) (ah (ai P (k+1)) i).b).2):=fun i h =>
  ⟨hq (tK hO (k+1) hk (hO.iv (k+1) i hk h).1),hq (tK hO (k+1) hk (hO.iv (k+1) i hk h).2)⟩
 have hp1:=hq (tK hO k (by omega) (Pb hO k (by omega) s.i hi))
 have hp2:=hq (tK hO (k+1) hk (Pb hO (k+1) hk s.j hj))
 unfold kinds at hs
 simp only [List.mem_cons,List.not_mem_nil,or_false] at hs
 intro x hx
 rcases hs with h | h | h | h | h
 ·rw [h] at hc
  have h2:s.i<(ai P k).length∧s.j<(ai P (k+1)).length:=by simpa [bF] using hc
  have a1:=hl _ h2.1
  have a2:=hr _ h2.2
  have m1:Q4 256 (l8 (aG P k (ah (ai P k) s.i).b) (aG P (k+1) (ah (ai P (k+1)) s.j).b)).1∧Q4 256 (l8 (aG P k (ah (ai P k) s.i).b) (aG P (k+1) (ah (ai P (k+1)) s.j).b)).2:=⟨(((hO.xs k (by omega)).mid (hO.xs (k+1) hk))).mono (by decide),(((hO.tp k (by omega)).sub (hO.iv k s.i (by omega) h2.1).2).mid ((hO.tp (k+1) hk).sub (hO.iv (k+1) s.j hk h2.2).2)).mono (by decide)⟩
  have m2:Q4 256 (l8 (aG P k (ah (ai P k) s.i).a) (aG P (k+1) (ah (ai P (k+1)) s.j).a)).1∧Q4 256 (l8 (aG P k (ah (ai P k) s.i).a) (aG P (k+1) (ah (ai P (k+1)) s.j).a)).2:=⟨(((hO.xs k (by omega)).mid (hO.xs (k+1) hk))).mono (by decide),(((hO.tp k (by omega)).sub (hO.iv k s.i (by omega) h2.1).1).mid ((hO.tp (k+1) hk).sub (hO.iv (k+1) s.j hk h2.2).1)).mono (by decide)⟩
  by_cases hu:(ah (ai P k) s.i).u=(ah (ai P (k+1)) s.j).u
  ·rw [(rW h).1 hu,List.mem_singleton] at hx
   rw [hx]
   refine ⟨Nat.le_refl _,fun p hp=>?_⟩
   unfold OH at hp
   simp only [List.mem_cons,List.not_mem_nil,or_false] at hp
   rcases hp with rfl | rfl | rfl | rfl
   ·exact a1.2
   ·exact a2.2
   ·exact a2.1
   ·exact a1.1
  ·rw [(rW h).2 hu,List.mem_cons,List.mem_singleton] at hx
   rcases hx with rfl | rfl
   ·refine ⟨Nat.le_refl _,fun p hp=>?_⟩
    simp only [List.mem_cons,List.not_mem_nil,or_false] at hp
    rcases hp with rfl | rfl | rfl | rfl
    ·exact a1.2
    ·exact m1
    ·exact m2
    ·exact a1.1
   ·refine ⟨Nat.le_refl _,fun p hp=>?_⟩
    simp only [List.mem_cons,List.not_mem_nil,or_false] at hp
    rcases hp with rfl | rfl | rfl | rfl
    ·exact m1
    ·exact a2.2
    ·exact a2.1
    ·exact m2
 ·rw [h] at hc
  have h2:s.i<(ai P k).length:=by simpa [bF] using hc
  have a1:=hl _ h2
  rw [vJ (.inl h),List.mem_singleton] at hx
  rw [hx]
  refine ⟨Nat.le_succ 3,fun p hp=>?_⟩
  simp only [List.mem_cons,List.not_mem_nil,or_false] at hp
  rcases hp with rfl | rfl | rfl
  ·exact a1.2
  ·exact hp2
  ·exact a1.1
 ·rw [h] at hc
  have h2:s.j<(ai P (k+1)).length:=by simpa [bF] using hc
  have a1:=hr _ h2
  rw [rT (.inl h),List.mem_singleton] at hx
  rw [hx]
  refine ⟨Nat.le_succ 3,fun p hp=>?_⟩
  simp only [List.mem_cons,List.not_mem_nil,or_false] at hp
  rcases hp with rfl | rfl | rfl
  ·exact hp1
  ·exact a1.2
  ·exact a1.1
 ·rw [h] at hc
  have h2:s.i<(ai P k).length:=by simp only [bF] at hc;simp at hc;exact hc.1
  have a1:=hl _ h2
  rw [vJ (.inr h),List.mem_singleton] at hx
  rw [hx]
  refine ⟨Nat.le_succ 3,fun p hp=>?_⟩
  simp only [List.mem_cons,List.not_mem_nil,or_false] at hp
  rcases hp with rfl | rfl | rfl
  ·exact a1.2
  ·exact hp2
  ·exact a1.1
 ·rw [h] at hc
  have h2:s.j<(ai P (k+1)).length:=by simp only [bF] at hc;simp at hc;exact hc.1
  have a1:=hr _ h2
  rw [rT (.inr h),List.mem_singleton] at hx
  rw [hx]
  refine ⟨Nat.le_succ 3,fun p hp=>?_⟩
  simp only [List.mem_cons,List.not_mem_nil,or_false] at hp
  rcases hp with rfl | rfl | rfl
  ·exact hp1
  ·exact a1.2
  ·exact a1.1
theorem aan {L:List QP} (hp:Poly L) (h4:L.length≤4) (hz:∀ p∈L,Q4 256 p.1∧Q4 256 p.2) (v:Value) (w:World) (hw:Good w) (hv:qp w v L) :
  Calls Tryz.prog 51 #[v] w fun e w'=>∃ r,e=.returned (.tuple #[r,.int .i64 0])∧qp w' r L∧M3 w' r∧Below w.heap.size w w':=by
 have h3:=hp.1.1
 refine (aab v L (by omega) (by omega) (fun p hpm=>⟨kg (hz p hpm).1,kg (hz p hpm).2⟩) w hw hv).mono ?_
 rintro e w' ⟨⟨_,hno⟩ | ⟨r,Q,he,hW,_,hP,hN⟩,hb⟩
 ·exact absurd (hno L hp.wrap) (by omega)
 ·have hQ:=hW.unique hp.wrap
  rw [hQ] at hP
  exact ⟨r,he,hP,hN,hb⟩
end Go.Proofs.YtglncfkoohgdaaaGreatDoor
namespace Go.Proofs.YtglncfkoohgdaaaGreatDoor
open Go.RowKit Go.Shelf
def qC (W:World) (v:Value) (L:List QP):Prop:=qp W v L∧M3 W v
theorem qC.below {W W':World} {v:Value} {L:List QP} (h:qC W v L) (hb:Below W.heap.size W W'):qC W' v L:=⟨jC.below h.1 hb,fun p l c e=>by
 obtain ⟨cs,fz,hc⟩:=h.2 p l c e
 exact ⟨cs,fz,(hb.block _ (lt_of_some hc)).trans hc⟩⟩
theorem qC.kept {W W':World} {v:Value} {L:List QP} (h:qC W v L) (hk:∀ (b:Nat) (cs:Array Value) (fz:Nat × Nat),W.heap[b]?=some (.cells cs 113 fz)→W'.heap[b]?=some (.cells cs 113 fz)):qC W' v L:=by
 refine ⟨?_,fun p l c e=>?_⟩
 ·obtain ⟨p,c,h1,h2,h3,h4⟩:=h.1
  refine ⟨p,c,h1,h2,h3,fun h0=>?_⟩
  obtain ⟨b,off,k1,k2,k3⟩:=h4 h0
  obtain ⟨cs,fz,hc⟩:=h.2 ⟨b,off,none⟩ _ c (by rw [h1,k1])
  have hc':=hk b cs fz hc
  have hcell:∀ j,W'.cell? ⟨b,j,none⟩=W.cell? ⟨b,j,none⟩:=fun j=>by simp [World.cell?,hc,hc']
  exact ⟨b,off,k1,lt_of_some hc',fun i hi=>⟨by rw [hcell];exact (k3 i hi).1,by rw [hcell];exact (k3 i hi).2⟩⟩
 ·obtain ⟨cs,fz,hc⟩:=h.2 p l c e
  exact ⟨cs,fz,hk _ _ _ hc⟩
def Pf (D:List (nW × Value)):List Value:=D.flatMap fun x=>[.int .i64 (x.1.k:Int),.string (us x.1.u),x.2]
theorem aao (D:List (nW × Value)):(Pf D).length=D.length*3:=by
 induction D with
 | nil=>rfl
 | cons p r ih=>unfold Pf at *; rw [List.flatMap_cons,List.length_append,ih,List.length_cons];simp;omega
theorem VJ (D:List (nW × Value)) (x:nW × Value):Pf (D ++ [x])=Pf D ++ [.int .i64 (x.1.k:Int),.string (us x.1.u),x.2]:=by unfold Pf;simp
theorem Pg:∀ (D:List (nW × Value)) (i:Nat) (hi:i<D.length) (j:Nat) (hj:j<3),(Pf D)[i*3+j]?=some ([Value.int .i64 (D[i].1.k:Int),.string (us D[i].1.u),D[i].2][j])
 | [],i,hi,_,_=>by simp at hi
 | q :: r,0,_,j,hj=>by
  unfold Pf
  rw [List.flatMap_cons,List.getElem?_append_left (by simp;omega)]
  simp only [Nat.zero_mul,Nat.zero_add,List.getElem_cons_zero]
  rw [List.getElem?_eq_getElem (by simpa using hj)]
 | q :: r,i+1,hi,j,hj=>by
  unfold Pf
  rw [List.flatMap_cons,List.getElem?_append_right (by simp;omega)]
  have:=Pg r i (by simpa using hi) j hj
  unfold Pf at this
  rw [show (i+1)*3+j - [Value.int .i64 (q.1.k:Int),.string (us q.1.u),q.2].length=i*3+j by simp;omega]
  simpa using this
def Ip (w:World) (v:Value) (D:List (nW × Value)):Prop:=(∃ p c,v=.slice p D.length c∧D.length≤c∧c≤maxLen∧(0<D.length→∃ b off,p=some ⟨b,off,none⟩∧b<w.heap.size ∧
 ∀ i (h:i<D.length),w.cell? ⟨b,off+i*3,none⟩=some (.int .i64 (D[i].1.k:Int))∧w.cell? ⟨b,off+i*3+1,none⟩=some (.string (us D[i].1.u))∧w.cell? ⟨b,off+i*3+2,none⟩=some D[i].2))∧∀ x∈D,qC w x.2 x.1.pg
theorem Ip.below {w w':World} {v:Value} {D:List (nW × Value)} (h:Ip w v D) (hb:Below w.heap.size w w'):Ip w' v D:=by
 obtain ⟨⟨p,c,h1,h2,h3,h4⟩,h5⟩:=h
 refine ⟨⟨p,c,h1,h2,h3,fun h0=>?_⟩,fun x hx=>(h5 x hx).below hb⟩
 obtain ⟨b,off,k1,k2,k3⟩:=h4 h0
 refine ⟨b,off,k1,Nat.lt_of_lt_of_le k2 hb.size,fun i hi=>?_⟩
 obtain ⟨m1,m2,m3⟩:=k3 i hi
 exact ⟨(hb.cell (p:=⟨b,off+i*3,none⟩) k2).trans m1,(hb.cell (p:=⟨b,off+i*3+1,none⟩) k2).trans m2,(hb.cell (p:=⟨b,off+i*3+2,none⟩) k2).trans m3⟩
theorem EA {w:World} {base:Nat} {e:TypeId} {v:Value} {D:List (nW × Value)} (h:w.ownsRow base e 3 v D.length (Pf D)) (hp:∀ x∈D,qC w x.2 x.1.pg):Ip w v D:=by
 refine ⟨?_,hp⟩
 obtain ⟨_,p,c,rfl,hc,hm,hx⟩:=Reads.bu h
 refine ⟨p,c,rfl,hc,hm,fun h0=>?_⟩
 obtain ⟨b,off,hpe,hbl,hcell⟩:=hx h0
 refine ⟨b,off,hpe,hbl,fun i hi=>?_⟩
 have hl:=aao D
 have go:∀ j (hj:j<3),w.cell? ⟨b,off+(i*3+j),none⟩=some ([Value.int .i64 (D[i].1.k:Int),.string (us D[i].1.u),D[i].2][j]):=by
  intro j hj
  have h1:=hcell (i*3+j) (by omega)
  rw [h1,←Pg D i hi j hj,List.getElem?_eq_getElem]
 exact ⟨go 0 (by decide),go 1 (by decide),go 2 (by decide)⟩
structure iI (wd:World) (bo be:Nat) (vo:Value) (D:List (nW × Value)) (W:World):Prop where
 low:Below wd.heap.size wd W
 ob:W.heap[bo]?=some (.cells #[vo] 39 (0,0))
 eb:W.heap[be]?=some (.cells #[.int .i64 0] 40 (0,0))
 own:W.ownsRow wd.heap.size 46 3 vo D.length (Pf D)
 pts:∀ x∈D,qC W x.2 x.1.pg
 ge:wd.heap.size≤bo∧wd.heap.size≤be
theorem iI.below {wd:World} {bo be:Nat} {vo:Value} {D:List (nW × Value)} {W W':World} (h:iI wd bo be vo D W) (hb:Below W.heap.size W W'):iI wd bo be vo D W':=
 ⟨h.low.trans (hb.mono h.low.size),(hb.block _ (lt_of_some h.ob)).trans h.ob,(hb.block _ (lt_of_some h.eb)).trans h.eb,lZ h.own hb,fun x hx=>(h.pts x hx).below hb,h.ge⟩
theorem iI.own' {wd:World} {bo be:Nat} {vo:Value} {D:List (nW × Value)} {N:Nat} (hN:wd.heap.size≤N) {W W':World} {row:Option Nat} (h:iI wd bo be vo D W) (hg:W.grownBy W' row) (hr:∀ r,row=some r→N≤r∧∃ o:Obj,W.heap[r]?=some o∧(o.isCells=false∨∃ c fz,o=.cells c 97 fz)):iI wd bo be vo D W':=
 ⟨rM h.low hN (Nat.le_refl _) hg hr,fI hg hr h.ob (by decide),fI hg hr h.eb (by decide),nN hg hr h.own (by decide),fun x hx=>(h.pts x hx).kept fun b cs fz hb=>fI hg hr hb (by decide),h.ge⟩
theorem iI.push {wd:World} {bo be:Nat} {vo vz:Value} {D:List (nW × Value)} {x:nW × Value} {W l5:World} (h:iI wd bo be vo D W) (hx:qC W x.2 x.1.pg) (hg:W.grownBy l5 vo.ownBlock)
  (hown:l5.ownsRow wd.heap.size 46 3 vz (D.length+1) (Pf D ++ [.int .i64 (x.1.k:Int),.string (us x.1.u),x.2])) :
  iI wd bo be vz (D ++ [x]) (l5.setCell ⟨bo,0,none⟩ vz)∧l5.heap[bo]?=some (.cells #[vo] 39 (0,0)):=by
 have key:∀ (k:Nat) (c:Array Value) (t:TypeId) (fz:Nat × Nat),W.heap[k]?=some (.cells c t fz)→t≠46→l5.heap[k]?=some (.cells c t fz):=fun k c t fz hk hn=>(hg.block k (lt_of_some hk) (fun e=>by
  obtain ⟨cur,fz',e3⟩:=bD h.own e.symm
  rw [hk] at e3
  cases e3
  exact hn rfl)).trans hk
 have set1:∀ (k:Nat) (c:Array Value) (t:TypeId) (fz:Nat × Nat),l5.heap[k]?=some (.cells c t fz)→t≠39→(l5.setCell ⟨bo,0,none⟩ vz).heap[k]?=some (.cells c t fz):=fun k c t fz hk hn=>by
  have hne:k≠bo:=by
   rintro rfl
   have:=key k _ _ _ h.ob (by decide)
   rw [hk] at this
   cases this
   exact hn rfl
  rw [Below.heap_setCell _ _ _ _ hne]
  exact hk
 have vM:=key bo _ _ _ h.ob (by decide)
 refine ⟨⟨?_,aJ vz vM,set1 _ _ _ _ (key be _ _ _ h.eb (by decide)) (by decide),?_,fun y hy=>?_,h.ge⟩,vM⟩
 ·refine (h.low.trans ⟨hg.os,hg.tape,hg.output,hg.size,fun k hk=>hg.block k (Nat.lt_of_lt_of_le hk h.low.size) fun e=>?_⟩).setCell (p:=⟨bo,0,none⟩) h.ge.1 _
  have:=(h.own.lt k e.symm).1
  omega
 ·rw [List.length_append,VJ]
  refine hown.kept (bK _ _ _ _) ?_
  cases hv:vz.ownBlock with
  | none=>exact .inl rfl
  | some g =>
   refine .inr fun e=>?_
   obtain ⟨cur,fz,e3⟩:=bD hown hv
   have e4:g=bo:=by cases e;rfl
   rw [e4,vM] at e3
   cases e3
 ·have hy2:qC W y.2 y.1.pg:=by
   rcases List.mem_append.1 hy with hy | hy
   ·exact h.pts y hy
   ·rw [List.mem_singleton] at hy;rw [hy];exact hx
  exact hy2.kept fun b cs fz hb=>set1 _ _ _ _ (key _ _ _ _ hb (by decide)) (by decide)
theorem iI.aeH {wd:World} {bo be:Nat} {vo:Value} {D:List (nW × Value)} {W:World} (h:iI wd bo be vo D W):iI wd bo be vo D (W.setCell ⟨be,0,none⟩ (.int .i64 0)):=by
 have set1:∀ (k:Nat) (c:Array Value) (t:TypeId) (fz:Nat × Nat),W.heap[k]?=some (.cells c t fz)→t≠40→(W.setCell ⟨be,0,none⟩ (.int .i64 0)).heap[k]?=some (.cells c t fz):=fun k c t fz hk hn=>by
  have hne:k≠be:=by
   rintro rfl
   have:=h.eb
   rw [hk] at this
   cases this
   exact hn rfl
  rw [Below.heap_setCell _ _ _ _ hne]
  exact hk
 refine ⟨h.low.setCell (p:=⟨be,0,none⟩) h.ge.2 _,set1 _ _ _ _ h.ob (by decide),aJ (.int .i64 0) h.eb,?_,fun x hx=>(h.pts x hx).kept fun b cs fz hb=>set1 _ _ _ _ hb (by decide),h.ge⟩
 refine h.own.kept (bK _ _ _ _) ?_
 cases hv:vo.ownBlock with
 | none=>exact .inl rfl
 | some g =>
  refine .inr fun e=>?_
  obtain ⟨cur,fz,e3⟩:=bD h.own hv
  have e4:g=be:=by cases e;rfl
  rw [e4,h.eb] at e3
  cases e3
theorem iI.aeI {wd:World} {bo be:Nat} {vo:Value} {D:List (nW × Value)} {W:World} (h:iI wd bo be vo D W) {b:Nat} (hb:wd.heap.size≤b) (hn:∀ g,vo.ownBlock=some g→g≠b) {cs:Array Value} {fz:Nat × Nat} (hc:W.heap[b]?=some (.cells cs 46 fz)) (j:Nat) (v:Value):iI wd bo be vo D (W.setCell ⟨b,j,none⟩ v):=by
 have set1:∀ (k:Nat) (c:Array Value) (t:TypeId) (fz:Nat × Nat),W.heap[k]?=some (.cells c t fz)→t≠46→(W.setCell ⟨b,j,none⟩ v).heap[k]?=some (.cells c t fz):=fun k c t fz hk hn=>by
  have hne:k≠b:=by
   rintro rfl
   rw [hc] at hk
   cases hk
   exact hn rfl
  rw [Below.heap_setCell _ _ _ _ hne]
  exact hk
 refine ⟨h.low.setCell (p:=⟨b,j,none⟩) hb _,set1 _ _ _ _ h.ob (by decide),set1 _ _ _ _ h.eb (by decide),?_,fun x hx=>(h.pts x hx).kept fun b cs fz hb=>set1 _ _ _ _ hb (by decide),h.ge⟩
 refine h.own.kept (bK _ _ _ _) ?_
 cases hv:vo.ownBlock with
 | none=>exact .inl rfl
 | some g=>exact .inr fun e=>hn g hv (by cases e;rfl)
theorem aap:SliceOf 39 46 (.agg #[.int .i64 0,.string ⟨#[]⟩,.slice none 0 0]) 3 48:=⟨Tryz.underlying39,by kernel_rfl,rfl,by decide⟩
end Go.Proofs.YtglncfkoohgdaaaGreatDoor
