import Derived.Test.YtogdahbbogimcaaGreatDoorBaseZ
import Derived.Handy
import Derived.BigQuiet
import Derived.Deep.QuietTactic
set_option maxRecDepth 100000
set_option maxHeartbeats 1000000
namespace Go.Proofs.YtogdahbbogimcaaGreatDoor
open Go.RowKit
open Go.Lib (hid)
def pc64 (n:Nat):Value:=.int .u64 (n:Int)
def U64s (w:World) (v:Value) (xs:List Nat):Prop:=Reads w 1 v xs.length (xs.map pc64)
theorem U64s.below {w w':World} {v:Value} {xs:List Nat} (h:U64s w v xs) (hb:Below w.heap.size w w'):U64s w' v xs:=Reads.below h hb
theorem U64s.slice {w:World} {v:Value} {xs:List Nat} (h:U64s w v xs):∃ p c,v=.slice p xs.length c∧xs.length≤c∧c≤maxLen:=by
 obtain ⟨_,p,c,hv,hc,hm,_⟩:=h
 exact ⟨p,c,hv,hc,hm⟩
theorem U64s.cells {w:World} {p:Option Addr} {n c:Nat} {xs:List Nat} (h:U64s w (.slice p n c) xs) (h0:0<xs.length) :
  ∃ b off,p=some ⟨b,off,none⟩∧b<w.heap.size∧∀ i (h:i<xs.length),w.cell? ⟨b,off+i,none⟩=some (.int .u64 (xs[i]:Int)):=by
 obtain ⟨_,p',c',hv,hc,hm,hx⟩:=h
 simp only [Value.slice.injEq] at hv
 obtain ⟨rfl,rfl,rfl⟩:=hv
 obtain ⟨b,off,hp,hb,hcell⟩:=hx h0
 refine ⟨b,off,hp,hb,fun i hi=>?_⟩
 rw [hcell i (by simpa using hi)]
 simp [pc64]
theorem U64s.take {w:World} {p:Option Addr} {c k:Nat} {xs:List Nat} (h:U64s w (.slice p xs.length c) xs) (hk:k≤xs.length):U64s w (.slice p k c) (xs.take k):=by
 have:=Reads.take (k:=k) h hk
 unfold U64s
 rw [Nat.mul_one] at this
 rw [List.map_take,show (xs.take k).length=k by simp;omega]
 exact this
theorem U64s.of_owns {w:World} {base n:Nat} {v:Value} {xs:List Nat} (h:w.ownsRow base 144 1 v n (xs.map pc64)) (hn:n=xs.length):U64s w v xs:=by
 subst hn;exact Reads.of_owns h
theorem oneCell_int {k:IntKind} {z:Int}:∀ u∈(#[Value.int k z]).toList,u.oneCell'=true:=by
 intro u hu;simp at hu;subst hu;rfl
theorem snoc_u64 {os:List Nat} {X:Int} {y:Nat} (h:X=y):os.map pc64++(#[Value.int .u64 X]).toList=(os ++ [y]).map pc64:=by
 subst h;simp [pc64]
theorem sl64:SliceOf 112 144 (.int .u64 0) 1 8:=⟨Tryz.underlying112,by kernel_rfl,rfl,by decide⟩
theorem val_take_succ {xs:List Nat} {k:Nat} (h:k<xs.length):val (xs.take (k+1))=val (xs.take k)+1000000000 ^ k*xs[k]:=by
 rw [List.take_succ_eq_append_getElem h,val_snoc]
 rw [List.length_take,Nat.min_eq_left (by omega)]
theorem pcs_take_top {xs:List Nat} {k:Nat} (hx:∀ x∈xs,x<1000000000) (hk:k<xs.length) (h0:xs[k]≠0):pcs (val (xs.take (k+1)))=xs.take (k+1):=by
 refine pcs_val _ (fun x h=>hx x (List.mem_of_mem_take h)) ?_
 intro h
 rw [List.getLast_eq_getElem]
 simp only [List.getElem_take]
 have:(xs.take (k+1)).length-1=k:=by simp;omega
 simp only [this]
 exact h0
def From (B:Nat) (v:Value):Prop:=∀ a n c,v=.slice (some a) n c→B≤a.block
theorem From.of_owns {w:World} {base:Nat} {e:TypeId} {size n:Nat} {v:Value} {xs:List Value} (h:w.ownsRow base e size v n xs):From base v:=by
 intro a m c hv
 subst hv
 exact (h.lt a.block rfl).1
theorem From.cut {B:Nat} {p:Option Addr} {n c k d:Nat} (h:From B (.slice p n c)):From B (.slice p k d):=by
 intro a m c' hv
 simp only [Value.slice.injEq] at hv
 obtain ⟨rfl,rfl,rfl⟩:=hv
 exact h a n c rfl
theorem U64s.setCell {w:World} {B:Nat} {v:Value} {xs:List Nat} (h:U64s w v xs) (hf:From B v) {a:Addr} (ha:a.block<B) (u:Value):U64s (w.setCell a u) v xs:=by
 obtain ⟨hl,p,c,rfl,hc,hm,hx⟩:=h
 refine ⟨hl,p,c,rfl,hc,hm,fun h0=>?_⟩
 obtain ⟨b,off,rfl,hb,hcell⟩:=hx h0
 have hB:=hf _ _ _ rfl
 refine ⟨b,off,rfl,by simpa [World.setCell] using hb,fun i hi=>?_⟩
 rw [World.cell?_of_block (Below.heap_setCell w a u b (by simp at hB;omega))]
 exact hcell i hi
def CutTo (v v':Value) (xs:List Nat):Prop:=∃ p c k,v=.slice p xs.length c∧v'=.slice p k c∧k≤xs.length∧pcs (val xs)=xs.take k
def Fresh (B:Nat) (v:Value):Prop:=From B v∧∀ n c,v=.slice none n c→n=0∧c=0
theorem Fresh.none (B:Nat):Fresh B (.slice none 0 0):=⟨fun a n c h=>by simp at h,fun n c h=>by simp at h;omega⟩
theorem Fresh.mono {B B':Nat} {v:Value} (h:Fresh B v) (hB:B'≤B):Fresh B' v:=⟨fun a n c hv=>Nat.le_trans hB (h.1 a n c hv),h.2⟩
theorem fresh_of {w:World} {base:Nat} {e:TypeId} {size n:Nat} {v v':Value} {xs:List Value} {ys:List Nat} (h:w.ownsRow base e size v n xs) (k:(∀ B,From B v→From B v')∧CutTo v v' ys):Fresh base v':=by
 refine ⟨k.1 _ (From.of_owns h),fun n' c' hv'=>?_⟩
 obtain ⟨p,c,k',hv,hv2,hk,hp⟩:=k.2
 rw [hv2] at hv'
 cases hv'
 obtain ⟨hl,⟨h1,h2⟩ | ⟨g,cap,cur,h1,_⟩⟩:=h
 ·rw [hv] at h1
  simp only [Value.slice.injEq] at h1
  exact ⟨by omega,h1.2.2⟩
 ·rw [hv] at h1;cases h1
theorem integer_trim (v:Value) (xs:List Nat) (_hlen:xs.length≤4398046511104) (hx:∀ x∈xs,x<1000000000) (w:World) (hv:U64s w v xs) :
  Calls Tryz.prog 95 #[v] w fun e w'=>∃ v',e=.returned v'∧U64s w v' (pcs (val xs))∧w=w'∧(∀ B,From B v→From B v')∧CutTo v v' xs:=by
 obtain ⟨p,c,rfl,hc,hm⟩:=hv.slice
 have HX:=hid hx
 clear hx
 unfold maxLen at hm
 go_enter Tryz.func95,Tryz.ntmps95
 go_wp2
 go_loop [0] (fun q=>∃ k:Nat,k≤xs.length∧q=.slice p k c∧val (xs.take k)=val xs) (fun q=>lenOf q)
 case atStart=>exact ⟨xs.length,Nat.le_refl _,rfl,by rw [List.take_length]⟩
 case round =>
  obtain ⟨k,hk,rfl,hval⟩:=hrel
  have Hval:=hid hval
  clear hval
  cases k with
  | zero =>
   go_wp2
   go_ret
   refine ⟨_,rfl,?_,rfl,fun B hB=>hB.cut,⟨_,_,0,rfl,rfl,by omega,by rw [←Hval.out];simp [pcs_zero]⟩⟩
   have:=hv.take (k:=0) (by omega)
   rw [←Hval.out]
   simpa [pcs_zero] using this
  | succ k =>
   obtain ⟨b,off,rfl,hb,hcell⟩:=hv.cells (by omega)
   have hcl:=hcell k (by omega)
   have Hv:=hid hv
   clear hcell hv
   have h1:((↑(k+1):Int)-1).toNat=k:=by omega
   go_wp2
   ·go_round
    case rel =>
     refine ⟨k,by omega,rfl,?_⟩
     have h0:(↑xs[k] == (0:Int))=true:=by assumption
     have h0':xs[k]=0:=by simpa using h0
     rw [←Hval.out,val_take_succ (by omega),h0']
     simp
    case measure=>simp [lenOf]
   ·go_ret
    refine ⟨_,rfl,?_,rfl,fun B hB=>hB.cut,⟨_,_,k+1,rfl,rfl,by omega,?_⟩⟩
    rotate_left
    ·have h0:(↑xs[k] == (0:Int))=false:=by assumption
     have h0':xs[k]≠0:=by simpa using h0
     rw [←Hval.out,pcs_take_top HX.out (by omega) h0']
    have h0:(↑xs[k] == (0:Int))=false:=by assumption
    have h0':xs[k]≠0:=by simpa using h0
    rw [←Hval.out,pcs_take_top HX.out (by omega) h0']
    exact Hv.out.take (by omega)
theorem pcs_cmp_len {m n:Nat} (h:(pcs m).length≠(pcs n).length):(if (pcs m).length<(pcs n).length then (-1:Int) else 1)=cmpI m n:=by
 unfold cmpI
 by_cases hl:(pcs m).length<(pcs n).length
 ·have:=lt_of_len_lt hl
  rw [if_pos hl,if_pos (by omega)]
 ·have:=lt_of_len_lt (show (pcs n).length<(pcs m).length by omega)
  rw [if_neg hl,if_neg (by omega),if_neg (by omega)]
theorem pcs_cmp_top {m n:Nat} (hl:(pcs m).length=(pcs n).length) {i:Nat} (hi:i<(pcs m).length) (hi':i<(pcs n).length) (heq:(pcs m).drop (i+1)=(pcs n).drop (i+1)) (hne:(pcs m)[i]≠(pcs n)[i]) :
  (if (pcs m)[i]<(pcs n)[i] then (-1:Int) else 1)=cmpI m n:=by
 have key:∀ {a b:Nat} (hl:(pcs a).length=(pcs b).length) (ha:i<(pcs a).length) (hb:i<(pcs b).length),(pcs a).drop (i+1)=(pcs b).drop (i+1)→(pcs a)[i]<(pcs b)[i]→a<b:=by
  intro a b hl ha hb he hlt
  have:=val_lt_of_top hl (pcs_lt a) i ha hlt (fun j hj hij=>by
   have e1:(pcs a)[j]=((pcs a).drop (i+1))[j-(i+1)]'(by simp;omega):=by simp;congr 1;omega
   have e2:(pcs b)[j]'(by omega)=((pcs b).drop (i+1))[j-(i+1)]'(by simp;omega):=by simp;congr 1;omega
   rw [e1,e2];simp only [he])
  rwa [val_pcs,val_pcs] at this
 unfold cmpI
 by_cases h:(pcs m)[i]<(pcs n)[i]
 ·have:=key hl hi hi' heq h
  rw [if_pos h,if_pos (by omega)]
 ·have:=key hl.symm hi' hi heq.symm (by omega)
  rw [if_neg h,if_neg (by omega),if_neg (by omega)]
theorem cmpI_self (n:Int):cmpI n n=0:=by unfold cmpI;simp
theorem pcs_cmp_all {m n:Nat} (h:(pcs m).drop 0=(pcs n).drop 0):0=cmpI m n:=by
 simp at h;rw [pcs_inj h,cmpI_self]
def DropEq (l m:List Nat) (k:Nat):Prop:=l.drop k=m.drop k
def Cells64 (w:World) (p:Option Addr) (xs:List Nat):Prop:=∃ b off,p=some ⟨b,off,none⟩∧b<w.heap.size∧∀ i (h:i<xs.length),w.cell? ⟨b,off+i,none⟩=some (.int .u64 (xs[i]:Int))
theorem integer_order (va vb:Value) (m n:Nat) (w:World) (ha:U64s w va (pcs m)) (hb:U64s w vb (pcs n)) :
  Calls Tryz.prog 116 #[va,vb] w fun e w'=>e=.returned (.int .i64 (cmpI m n))∧Below w.heap.size w w':=by
 obtain ⟨p,c,rfl,hc,hm⟩:=ha.slice
 obtain ⟨q,d,rfl,hd,hm'⟩:=hb.slice
 unfold maxLen at hm hm'
 by_cases hl:(pcs m).length=(pcs n).length
 ·have h1:((((pcs m).length:Int)) != ((pcs n).length:Int))=false:=by simp [hl]
  have h2:((((pcs m).length)) != ((pcs n).length))=false:=by simp [hl]
  have HL:=hid hl
  clear hl
  go_enter Tryz.func116,Tryz.ntmps116
  go_wp2
  go_loopw [5] (fun i wr=>∃ k:Nat,k≤(pcs m).length∧i=.int .i64 ((k:Int)-1)∧DropEq (pcs m) (pcs n) k∧Below w.heap.size w wr) (fun i _=>((intOf i)+1).toNat)
  case atStart=>exact ⟨_,Nat.le_refl _,rfl,by unfold DropEq;rw [List.drop_eq_nil_of_le (Nat.le_refl _),List.drop_eq_nil_of_le (by rw [HL.out];exact Nat.le_refl _)],Below.refl _ _⟩
  case round =>
   obtain ⟨k,hk,rfl,hde,hbw⟩:=hrel
   have HDE:=hid hde
   clear hde
   cases k with
   | zero =>
    go_wp2
    go_ret
    exact ⟨ret_int (pcs_cmp_all HDE.out),hbw⟩
   | succ k =>
    obtain ⟨b,off,rfl,hbb,hcell⟩:=(ha.below hbw).cells (by omega)
    obtain ⟨b',off',rfl,hbb',hcell'⟩:=(hb.below hbw).cells (by rw [←HL.out];omega)
    have hk':k<(pcs n).length:=by rw [←HL.out];omega
    have hcl:=hcell k (by omega)
    have hcl':=hcell' k hk'
    clear hcell hcell'
    have h3:((↑(k+1):Int)-1)=k:=by omega
    rw [h3]
    by_cases hne:(pcs m)[k]=(pcs n)[k]
    ·have hn1:(((pcs m)[k]:Int) != ((pcs n)[k]:Int))=false:=by simp [hne]
     have hn2:((pcs m)[k] != (pcs n)[k])=false:=by simp [hne]
     have HNE:=hid hne
     clear hne
     go_wp2
     go_quiet (fail)
     go_wp2
     go_roundw
     case rel=>exact ⟨k,by omega,by simp,by
      have:=HDE.out
      unfold DropEq at this ⊢
      rw [List.drop_eq_getElem_cons (by omega),List.drop_eq_getElem_cons hk',this,HNE.out],below_drewN hbw _⟩
     case measure=>simp [intOf]
    ·have hn1:(((pcs m)[k]:Int) != ((pcs n)[k]:Int))=true:=by simp;omega
     have hn2:((pcs m)[k] != (pcs n)[k])=true:=by simpa using hne
     have HNE:=hid (pcs_cmp_top HL.out (by omega) hk' HDE.out hne)
     clear hne
     go_wp2
     go_quiet (fail)
     go_wp2
     go_quiet (fail)
     go_wp2
     ·go_ret
      have hlt:(pcs m)[k]<(pcs n)[k]:=by assumption
      have:=HNE.out
      rw [if_pos hlt] at this
      exact ⟨ret_int this,below_drewN (below_drewN hbw _) _⟩
     ·go_ret
      have hlt:¬ (pcs m)[k]<(pcs n)[k]:=by assumption
      have:=HNE.out
      rw [if_neg hlt] at this
      exact ⟨ret_int this,below_drewN (below_drewN hbw _) _⟩
 ·have HL:=hid (pcs_cmp_len hl)
  have h1:((((pcs m).length:Int)) != ((pcs n).length:Int))=true:=by simp;omega
  have h2:((((pcs m).length)) != ((pcs n).length))=true:=by simpa using hl
  clear hl
  go_enter Tryz.func116,Tryz.ntmps116
  go_wp2
  ·go_ret
   have hlt:(pcs m).length<(pcs n).length:=by assumption
   have:=HL.out
   rw [if_pos hlt] at this
   exact ⟨ret_int this,Below.refl _ _⟩
  ·go_ret
   have hlt:¬ (pcs m).length<(pcs n).length:=by assumption
   have:=HL.out
   rw [if_neg hlt] at this
   exact ⟨ret_int this,Below.refl _ _⟩
structure PlusInv (m n k t:Nat) (os:List Nat):Prop where
 len:os.length=k
 small:∀ x∈os,x<1000000000
 eq:val os+1000000000 ^ k*t=val ((pcs m).take k)+val ((pcs n).take k)
theorem PlusInv.step {m n k t:Nat} {os:List Nat} (h:PlusInv m n k t os) (x y:Nat) (hx:val ((pcs m).take (k+1))=val ((pcs m).take k)+1000000000 ^ k*x) (hy:val ((pcs n).take (k+1))=val ((pcs n).take k)+1000000000 ^ k*y) :
  PlusInv m n (k+1) ((t+x+y)/1000000000) (os ++ [(t+x+y) % 1000000000]):=by
 obtain ⟨h1,h2,h3⟩:=h
 refine ⟨by simp [h1],?_,?_⟩
 ·intro z hz
  rcases List.mem_append.1 hz with hz | hz
  ·exact h2 z hz
  ·simp at hz;omega
 ·rw [val_snoc,h1,hx,hy,Nat.pow_succ]
  have e:t+x+y=(t+x+y) % 1000000000+1000000000*((t+x+y)/1000000000):=(Nat.mod_add_div _ _).symm
  have e2:=congrArg (1000000000 ^ k * ·) e
  simp only [Nat.mul_add,←Nat.mul_assoc] at e2
  omega
theorem take_past {l:List Nat} {k:Nat} (h:l.length≤k):val (l.take (k+1))=val (l.take k)+1000000000 ^ k*0:=by
 rw [List.take_of_length_le (by omega),List.take_of_length_le h];simp
theorem PlusInv.fin {m n t:Nat} {os:List Nat} (h:PlusInv m n (pcs m).length t os) (hnm:(pcs n).length≤(pcs m).length) (ht:t≤1):(os ++ [t]).length=(pcs m).length+1∧(∀ x∈os ++ [t],x<1000000000)∧val (os ++ [t])=m+n:=by
 obtain ⟨h1,h2,h3⟩:=h
 refine ⟨by simp [h1],?_,?_⟩
 ·intro z hz
  rcases List.mem_append.1 hz with hz | hz
  ·exact h2 z hz
  ·simp at hz;omega
 ·rw [val_snoc,h1,h3,List.take_length,List.take_of_length_le hnm,val_pcs,val_pcs]
theorem plusInv_start (m n:Nat):PlusInv m n 0 0 []:=⟨rfl,by simp,by simp⟩
theorem integer_plus_ge (va vb:Value) (m n:Nat) (w:World) (hlen:(pcs m).length≤1099511627776) (hnm:(pcs n).length≤(pcs m).length) (ha:U64s w va (pcs m)) (hb:U64s w vb (pcs n)) :
  Calls Tryz.prog 91 #[va,vb] w fun e w'=>∃ v',e=.returned v'∧U64s w' v' (pcs (m+n))∧Below w.heap.size w w':=by
 obtain ⟨p,c,rfl,hc,hm⟩:=ha.slice
 obtain ⟨q,d,rfl,hd,hm'⟩:=hb.slice
 obtain ⟨i0,hi,hz0,hz1,hz2⟩:=info_parts sl64.info
 unfold maxLen at hm hm'
 obtain ⟨w1,hmk,hown,hgr⟩:=run_make_own (P:=Tryz.prog) w w.heap.size 112 144 i0 (.int .u64 0) 1 Tryz.underlying112 hi hz0 hz1 .i64 .i64 ((pcs m).length+1) (by rw [hz2];omega) (by unfold maxLen;omega) (Nat.le_refl _)
 rw [show (((pcs m).length+1:Nat):Int)=((pcs m).length:Int)+1 from by omega] at hmk
 have hb1:Below w.heap.size w w1:=(Below.refl _ _).grown hgr (Nat.le_refl _) (fun k h=>by simp at h)
 clear hgr
 have Hown:=hid hown
 clear hown
 have hd0:decide ((pcs m).length<(pcs n).length)=false:=by simp;omega
 go_enter Tryz.func91,Tryz.ntmps91
 go_wp2
 go_loopw [5,6,22] (fun o cr i wr=>∃ (k t:Nat) (os:List Nat),k≤(pcs m).length∧t≤1∧i=.int .i64 k∧cr=.int .u64 t∧PlusInv m n k t os∧wr.ownsRow w.heap.size 144 1 o k (os.map pc64)∧Below w.heap.size w wr) (fun _ _ i _=>(pcs m).length-(intOf i).toNat)
 case atStart=>exact ⟨0,0,[],Nat.zero_le _,by omega,rfl,rfl,plusInv_start m n,Hown.out,hb1⟩
 case round =>
  obtain ⟨k,t,os,hk,ht,rfl,rfl,hinv,hown,hbw⟩:=hrel
  have HI:=hid hinv
  have HO:=hid hown
  clear hinv hown
  by_cases hkm:k<(pcs m).length
  ·obtain ⟨b,off,rfl,hbb,hcell⟩:=(ha.below hbw).cells (by omega)
   have hcl:=hcell k hkm
   have hxa:(pcs m)[k]<1000000000:=pcs_lt m _ (List.getElem_mem hkm)
   clear hcell
   by_cases hkn:k<(pcs n).length
   ·obtain ⟨b',off',rfl,hbb',hcell'⟩:=(hb.below hbw).cells (by omega)
    have hcl':=hcell' k hkn
    have hxb:(pcs n)[k]<1000000000:=pcs_lt n _ (List.getElem_mem hkn)
    clear hcell'
    have HX:=hid (show ((t:Int)+(pcs m)[k]+(pcs n)[k]) % 1000000000=(((t+(pcs m)[k]+(pcs n)[k]) % 1000000000:Nat):Int) from by omega)
    have hk8:(k+1)*8≤140737488355328:=by omega
    go_wp2_with (at_builtin;refine app_new sl64 rfl _ _ rfl w.heap.size _ k _ rfl HO.out 1 1 _ rfl rfl oneCell_int hk8 (by decide) hbw.size _ (snoc_u64 HX.out) ?_;intro v1 w2 hown2 hb2;have HO2:=hid hown2;clear hown2)
    go_roundw
    case rel=>exact ⟨k+1,(t+(pcs m)[k]+(pcs n)[k])/1000000000,_,by omega,by omega,by go_num,congrArg _ (by omega),HI.out.step _ _ (val_take_succ hkm) (val_take_succ hkn),HO2.out,hbw.trans hb2⟩
    case measure=>simp [intOf];omega
   ·have HX:=hid (show ((t:Int)+(pcs m)[k]) % 1000000000=(((t+(pcs m)[k]+0) % 1000000000:Nat):Int) from by omega)
    have hk8:(k+1)*8≤140737488355328:=by omega
    go_wp2_with (at_builtin;refine app_new sl64 rfl _ _ rfl w.heap.size _ k _ rfl HO.out 1 1 _ rfl rfl oneCell_int hk8 (by decide) hbw.size _ (snoc_u64 HX.out) ?_;intro v1 w2 hown2 hb2;have HO2:=hid hown2;clear hown2)
    go_roundw
    case rel=>exact ⟨k+1,(t+(pcs m)[k]+0)/1000000000,_,by omega,by omega,by go_num,congrArg _ (by omega),HI.out.step _ _ (val_take_succ hkm) (take_past (by omega)),HO2.out,hbw.trans hb2⟩
    case measure=>simp [intOf];omega
  ·obtain rfl:k=(pcs m).length:=by omega
   have HX:=hid (show (t:Int)=((t:Nat):Int) from rfl)
   have hk8:((pcs m).length+1)*8≤140737488355328:=by omega
   have HF:=hid (HI.out.fin hnm ht)
   go_wp2_with (at_builtin;refine app_new sl64 rfl _ _ rfl w.heap.size _ (pcs m).length _ rfl HO.out 1 1 _ rfl rfl oneCell_int hk8 (by decide) hbw.size _ (snoc_u64 HX.out) ?_;intro v1 w2 hown2 hb2;have HO2:=hid hown2;clear hown2)
   refine (integer_trim v1 _ (by rw [HF.out.1];omega) HF.out.2.1 w2 (U64s.of_owns HO2.out (by rw [HF.out.1]))).mono ?_
   rintro e w3 ⟨v',rfl,hv',rfl,_⟩
   go_wp2
   go_ret
   exact ⟨_,rfl,by rw [←HF.out.2.2];exact hv',hbw.trans hb2⟩
theorem integer_plus_lt (va vb:Value) (m n:Nat) (w:World) (hlen:(pcs m).length≤1099511627776) (hnm':(pcs n).length<(pcs m).length) (ha:U64s w va (pcs m)) (hb:U64s w vb (pcs n)) :
  Calls Tryz.prog 91 #[vb,va] w fun e w'=>∃ v',e=.returned v'∧U64s w' v' (pcs (m+n))∧Below w.heap.size w w':=by
 have hnm:(pcs n).length≤(pcs m).length:=by omega
 obtain ⟨p,c,rfl,hc,hm⟩:=ha.slice
 obtain ⟨q,d,rfl,hd,hm'⟩:=hb.slice
 obtain ⟨i0,hi,hz0,hz1,hz2⟩:=info_parts sl64.info
 unfold maxLen at hm hm'
 obtain ⟨w1,hmk,hown,hgr⟩:=run_make_own (P:=Tryz.prog) w w.heap.size 112 144 i0 (.int .u64 0) 1 Tryz.underlying112 hi hz0 hz1 .i64 .i64 ((pcs m).length+1) (by rw [hz2];omega) (by unfold maxLen;omega) (Nat.le_refl _)
 rw [show (((pcs m).length+1:Nat):Int)=((pcs m).length:Int)+1 from by omega] at hmk
 have hb1:Below w.heap.size w w1:=(Below.refl _ _).grown hgr (Nat.le_refl _) (fun k h=>by simp at h)
 clear hgr
 have Hown:=hid hown
 clear hown
 have hd0:decide ((pcs n).length<(pcs m).length)=true:=by simp;omega
 go_enter Tryz.func91,Tryz.ntmps91
 go_wp2
 go_loopw [5,6,22] (fun o cr i wr=>∃ (k t:Nat) (os:List Nat),k≤(pcs m).length∧t≤1∧i=.int .i64 k∧cr=.int .u64 t∧PlusInv m n k t os∧wr.ownsRow w.heap.size 144 1 o k (os.map pc64)∧Below w.heap.size w wr) (fun _ _ i _=>(pcs m).length-(intOf i).toNat)
 case atStart=>exact ⟨0,0,[],Nat.zero_le _,by omega,rfl,rfl,plusInv_start m n,Hown.out,hb1⟩
 case round =>
  obtain ⟨k,t,os,hk,ht,rfl,rfl,hinv,hown,hbw⟩:=hrel
  have HI:=hid hinv
  have HO:=hid hown
  clear hinv hown
  by_cases hkm:k<(pcs m).length
  ·obtain ⟨b,off,rfl,hbb,hcell⟩:=(ha.below hbw).cells (by omega)
   have hcl:=hcell k hkm
   have hxa:(pcs m)[k]<1000000000:=pcs_lt m _ (List.getElem_mem hkm)
   clear hcell
   by_cases hkn:k<(pcs n).length
   ·obtain ⟨b',off',rfl,hbb',hcell'⟩:=(hb.below hbw).cells (by omega)
    have hcl':=hcell' k hkn
    have hxb:(pcs n)[k]<1000000000:=pcs_lt n _ (List.getElem_mem hkn)
    clear hcell'
    have HX:=hid (show ((t:Int)+(pcs m)[k]+(pcs n)[k]) % 1000000000=(((t+(pcs m)[k]+(pcs n)[k]) % 1000000000:Nat):Int) from by omega)
    have hk8:(k+1)*8≤140737488355328:=by omega
    go_wp2_with (at_builtin;refine app_new sl64 rfl _ _ rfl w.heap.size _ k _ rfl HO.out 1 1 _ rfl rfl oneCell_int hk8 (by decide) hbw.size _ (snoc_u64 HX.out) ?_;intro v1 w2 hown2 hb2;have HO2:=hid hown2;clear hown2)
    go_roundw
    case rel=>exact ⟨k+1,(t+(pcs m)[k]+(pcs n)[k])/1000000000,_,by omega,by omega,by go_num,congrArg _ (by omega),HI.out.step _ _ (val_take_succ hkm) (val_take_succ hkn),HO2.out,hbw.trans hb2⟩
    case measure=>simp [intOf];omega
   ·have HX:=hid (show ((t:Int)+(pcs m)[k]) % 1000000000=(((t+(pcs m)[k]+0) % 1000000000:Nat):Int) from by omega)
    have hk8:(k+1)*8≤140737488355328:=by omega
    go_wp2_with (at_builtin;refine app_new sl64 rfl _ _ rfl w.heap.size _ k _ rfl HO.out 1 1 _ rfl rfl oneCell_int hk8 (by decide) hbw.size _ (snoc_u64 HX.out) ?_;intro v1 w2 hown2 hb2;have HO2:=hid hown2;clear hown2)
    go_roundw
    case rel=>exact ⟨k+1,(t+(pcs m)[k]+0)/1000000000,_,by omega,by omega,by go_num,congrArg _ (by omega),HI.out.step _ _ (val_take_succ hkm) (take_past (by omega)),HO2.out,hbw.trans hb2⟩
    case measure=>simp [intOf];omega
  ·obtain rfl:k=(pcs m).length:=by omega
   have HX:=hid (show (t:Int)=((t:Nat):Int) from rfl)
   have hk8:((pcs m).length+1)*8≤140737488355328:=by omega
   have HF:=hid (HI.out.fin hnm ht)
   go_wp2_with (at_builtin;refine app_new sl64 rfl _ _ rfl w.heap.size _ (pcs m).length _ rfl HO.out 1 1 _ rfl rfl oneCell_int hk8 (by decide) hbw.size _ (snoc_u64 HX.out) ?_;intro v1 w2 hown2 hb2;have HO2:=hid hown2;clear hown2)
   refine (integer_trim v1 _ (by rw [HF.out.1];omega) HF.out.2.1 w2 (U64s.of_owns HO2.out (by rw [HF.out.1]))).mono ?_
   rintro e w3 ⟨v',rfl,hv',rfl,_⟩
   go_wp2
   go_ret
   exact ⟨_,rfl,by rw [←HF.out.2.2];exact hv',hbw.trans hb2⟩
theorem integer_plus (va vb:Value) (m n:Nat) (w:World) (hm:(pcs m).length≤1099511627776) (hn:(pcs n).length≤1099511627776) (ha:U64s w va (pcs m)) (hb:U64s w vb (pcs n)) :
  Calls Tryz.prog 91 #[va,vb] w fun e w'=>∃ v',e=.returned v'∧U64s w' v' (pcs (m+n))∧Below w.heap.size w w':=by
 by_cases h:(pcs m).length<(pcs n).length
 ·rw [Nat.add_comm m n]
  exact integer_plus_lt vb va n m w hn h hb ha
 ·exact integer_plus_ge va vb m n w hm (by omega) ha hb
structure MinusInv (m n k t:Nat) (os:List Nat):Prop where
 len:os.length=k
 small:∀ x∈os,x<1000000000
 eq:val os+val ((pcs n).take k)=val ((pcs m).take k)+1000000000 ^ k*t
theorem MinusInv.step0 {m n k t:Nat} {os:List Nat} (h:MinusInv m n k t os) (x y:Nat) (hxb:x<1000000000) (hle:t+y≤x) (hx:val ((pcs m).take (k+1))=val ((pcs m).take k)+1000000000 ^ k*x) (hy:val ((pcs n).take (k+1))=val ((pcs n).take k)+1000000000 ^ k*y) :
  MinusInv m n (k+1) 0 (os ++ [x-(t+y)]):=by
 obtain ⟨h1,h2,h3⟩:=h
 refine ⟨by simp [h1],?_,?_⟩
 ·intro z hz
  rcases List.mem_append.1 hz with hz | hz
  ·exact h2 z hz
  ·simp at hz;omega
 ·rw [val_snoc,h1,hx,hy]
  have e:x=(x-(t+y))+t+y:=by omega
  have e2:=congrArg (1000000000 ^ k * ·) e
  simp only [Nat.mul_add] at e2
  omega
theorem MinusInv.step1 {m n k t:Nat} {os:List Nat} (h:MinusInv m n k t os) (x y:Nat) (hyb:t+y≤1000000000) (hlt:x<t+y) (hx:val ((pcs m).take (k+1))=val ((pcs m).take k)+1000000000 ^ k*x) (hy:val ((pcs n).take (k+1))=val ((pcs n).take k)+1000000000 ^ k*y) :
  MinusInv m n (k+1) 1 (os ++ [x+1000000000-(t+y)]):=by
 obtain ⟨h1,h2,h3⟩:=h
 refine ⟨by simp [h1],?_,?_⟩
 ·intro z hz
  rcases List.mem_append.1 hz with hz | hz
  ·exact h2 z hz
  ·simp at hz;omega
 ·rw [val_snoc,h1,hx,hy,Nat.pow_succ]
  have e:x+1000000000=(x+1000000000-(t+y))+t+y:=by omega
  have e2:=congrArg (1000000000 ^ k * ·) e
  simp only [Nat.mul_add] at e2
  omega
theorem MinusInv.fin {m n t:Nat} {os:List Nat} (h:MinusInv m n (pcs m).length t os) (hnm:n≤m):os.length=(pcs m).length∧(∀ x∈os,x<1000000000)∧val os=m-n:=by
 obtain ⟨h1,h2,h3⟩:=h
 refine ⟨h1,h2,?_⟩
 rw [List.take_length,List.take_of_length_le (pcs_len_mono hnm),val_pcs,val_pcs] at h3
 have hlt:=val_lt h2
 rw [h1] at hlt
 cases t with
 | zero=>omega
 | succ t =>
  rw [Nat.mul_add] at h3
  omega
theorem minusInv_start (m n:Nat):MinusInv m n 0 0 []:=⟨rfl,by simp,by simp⟩
theorem integer_minus (va vb:Value) (m n:Nat) (w:World) (hlen:(pcs m).length≤1099511627776) (hnm:n≤m) (ha:U64s w va (pcs m)) (hb:U64s w vb (pcs n)) :
  Calls Tryz.prog 92 #[va,vb] w fun e w'=>∃ v',e=.returned v'∧U64s w' v' (pcs (m-n))∧Below w.heap.size w w'∧Fresh w.heap.size v':=by
 obtain ⟨p,c,rfl,hc,hm⟩:=ha.slice
 obtain ⟨q,d,rfl,hd,hm'⟩:=hb.slice
 obtain ⟨i0,hi,hz0,hz1,hz2⟩:=info_parts sl64.info
 unfold maxLen at hm hm'
 obtain ⟨w1,hmk,hown,hgr⟩:=run_make_own (P:=Tryz.prog) w w.heap.size 112 144 i0 (.int .u64 0) 1 Tryz.underlying112 hi hz0 hz1 .i64 .i64 ((pcs m).length) (by rw [hz2];omega) (by unfold maxLen;omega) (Nat.le_refl _)
 have hb1:Below w.heap.size w w1:=(Below.refl _ _).grown hgr (Nat.le_refl _) (fun k h=>by simp at h)
 clear hgr
 have Hown:=hid hown
 clear hown
 go_enter Tryz.func92,Tryz.ntmps92
 go_wp2
 go_loopw [5,6,15] (fun o cr i wr=>∃ (k t:Nat) (os:List Nat),k≤(pcs m).length∧t≤1∧i=.int .i64 k∧cr=.int .u64 t∧MinusInv m n k t os∧wr.ownsRow w.heap.size 144 1 o k (os.map pc64)∧Below w.heap.size w wr) (fun _ _ i _=>(pcs m).length-(intOf i).toNat)
 case atStart=>exact ⟨0,0,[],Nat.zero_le _,by omega,rfl,rfl,minusInv_start m n,Hown.out,hb1⟩
 case round =>
  obtain ⟨k,t,os,hk,ht,rfl,rfl,hinv,hown,hbw⟩:=hrel
  have HI:=hid hinv
  have HO:=hid hown
  clear hinv hown
  by_cases hkm:k<(pcs m).length
  ·obtain ⟨b,off,rfl,hbb,hcell⟩:=(ha.below hbw).cells (by omega)
   have hcl:=hcell k hkm
   have hxa:(pcs m)[k]<1000000000:=pcs_lt m _ (List.getElem_mem hkm)
   have hk8:(k+1)*8≤140737488355328:=by omega
   clear hcell
   by_cases hkn:k<(pcs n).length
   ·obtain ⟨b',off',rfl,hbb',hcell'⟩:=(hb.below hbw).cells (by omega)
    have hcl':=hcell' k hkn
    have hxb:(pcs n)[k]<1000000000:=pcs_lt n _ (List.getElem_mem hkn)
    clear hcell'
    by_cases hlt:(pcs m)[k]<t+(pcs n)[k]
    ·have hlt':decide (((pcs m)[k]:Int)<(t:Int)+((pcs n)[k]:Int))=true:=by simp;omega
     have HX:=hid (show ((pcs m)[k]:Int)+1000000000-((t:Int)+((pcs n)[k]:Int))=(((pcs m)[k]+1000000000-(t+(pcs n)[k]):Nat):Int) from by omega)
     go_wp2_with (at_builtin;refine app_new sl64 rfl _ _ rfl w.heap.size _ k _ rfl HO.out 1 1 _ rfl rfl oneCell_int hk8 (by decide) hbw.size _ (snoc_u64 HX.out) ?_;intro v1 w2 hown2 hb2;have HO2:=hid hown2;clear hown2)
     go_roundw
     case rel=>exact ⟨k+1,1,_,by omega,by omega,by go_num,rfl,HI.out.step1 (pcs m)[k] (pcs n)[k] (by omega) (by omega) (val_take_succ hkm) (val_take_succ hkn),HO2.out,hbw.trans hb2⟩
     case measure=>simp [intOf];omega
    ·have hlt':decide (((pcs m)[k]:Int)<(t:Int)+((pcs n)[k]:Int))=false:=by simp;omega
     have HX:=hid (show ((pcs m)[k]:Int)-((t:Int)+((pcs n)[k]:Int))=(((pcs m)[k]-(t+(pcs n)[k]):Nat):Int) from by omega)
     go_wp2_with (at_builtin;refine app_new sl64 rfl _ _ rfl w.heap.size _ k _ rfl HO.out 1 1 _ rfl rfl oneCell_int hk8 (by decide) hbw.size _ (snoc_u64 HX.out) ?_;intro v1 w2 hown2 hb2;have HO2:=hid hown2;clear hown2)
     go_roundw
     case rel=>exact ⟨k+1,0,_,by omega,by omega,by go_num,rfl,HI.out.step0 (pcs m)[k] (pcs n)[k] (by omega) (by omega) (val_take_succ hkm) (val_take_succ hkn),HO2.out,hbw.trans hb2⟩
     case measure=>simp [intOf];omega
   ·by_cases hlt:(pcs m)[k]<t
    ·have hlt':decide ((pcs m)[k]<t)=true:=by simp;omega
     have HX:=hid (show ((pcs m)[k]:Int)+1000000000-(t:Int)=(((pcs m)[k]+1000000000-(t+0):Nat):Int) from by omega)
     go_wp2_with (at_builtin;refine app_new sl64 rfl _ _ rfl w.heap.size _ k _ rfl HO.out 1 1 _ rfl rfl oneCell_int hk8 (by decide) hbw.size _ (snoc_u64 HX.out) ?_;intro v1 w2 hown2 hb2;have HO2:=hid hown2;clear hown2)
     go_roundw
     case rel=>exact ⟨k+1,1,_,by omega,by omega,by go_num,rfl,HI.out.step1 (pcs m)[k] 0 (by omega) (by omega) (val_take_succ hkm) (take_past (by omega)),HO2.out,hbw.trans hb2⟩
     case measure=>simp [intOf];omega
    ·have hlt':decide ((pcs m)[k]<t)=false:=by simp;omega
     have HX:=hid (show ((pcs m)[k]:Int)-(t:Int)=(((pcs m)[k]-(t+0):Nat):Int) from by omega)
     go_wp2_with (at_builtin;refine app_new sl64 rfl _ _ rfl w.heap.size _ k _ rfl HO.out 1 1 _ rfl rfl oneCell_int hk8 (by decide) hbw.size _ (snoc_u64 HX.out) ?_;intro v1 w2 hown2 hb2;have HO2:=hid hown2;clear hown2)
     go_roundw
     case rel=>exact ⟨k+1,0,_,by omega,by omega,by go_num,rfl,HI.out.step0 (pcs m)[k] 0 (by omega) (by omega) (val_take_succ hkm) (take_past (by omega)),HO2.out,hbw.trans hb2⟩
     case measure=>simp [intOf];omega
  ·obtain rfl:k=(pcs m).length:=by omega
   have HF:=hid (HI.out.fin hnm)
   go_wp2_with fail
   refine (integer_trim _ _ (by rw [HF.out.1];omega) HF.out.2.1 _ (U64s.of_owns HO.out (by rw [HF.out.1]))).mono ?_
   rintro e w3 ⟨v',rfl,hv',rfl,hfr⟩
   have HFR:=hid (fresh_of HO.out hfr)
   clear hfr
   go_wp2
   go_ret
   exact ⟨_,rfl,by rw [←HF.out.2.2];exact hv',hbw,HFR.out⟩
theorem val_set (os:List Nat):∀ (j v:Nat) (h:j<os.length),val (os.set j v)+1000000000 ^ j*os[j]=val os+1000000000 ^ j*v:=by
 induction os with
 | nil=>intro j v h;simp at h
 | cons z os ih =>
  intro j v h
  cases j with
  | zero=>simp;omega
  | succ j =>
   have:=ih j v (by simpa using h)
   simp only [List.set_cons_succ,val_cons,List.getElem_cons_succ,Nat.pow_succ]
   have e1:1000000000 ^ j*1000000000*os[j]'(by simpa using h)=1000000000*(1000000000 ^ j*os[j]'(by simpa using h)):=by
    rw [Nat.mul_comm (1000000000 ^ j),Nat.mul_assoc]
   have e2:1000000000 ^ j*1000000000*v=1000000000*(1000000000 ^ j*v):=by rw [Nat.mul_comm (1000000000 ^ j),Nat.mul_assoc]
   rw [e1,e2]
   omega
theorem set_small {os:List Nat} (h:∀ x∈os,x<1000000000) (j v:Nat) (hv:v<1000000000):∀ x∈os.set j v,x<1000000000:=by
 intro x hx
 rcases List.mem_or_eq_of_mem_set hx with h' | h'
 ·exact h x h'
 ·omega
structure Own (L:Nat) (os:List Nat):Prop where
 len:os.length=L
 small:∀ x∈os,x<1000000000
theorem Own.set {L:Nat} {os:List Nat} (h:Own L os) (j v:Nat) (hv:v<1000000000):Own L (os.set j v):=⟨by simp [h.len],set_small h.small j v hv⟩
theorem own_zero (L:Nat):Own L (List.replicate L 0):=⟨by simp,by intro x hx;rw [List.mem_replicate] at hx;omega⟩
theorem cast_mod4 (t o x y:Nat):((t:Int)+((o:Int)+(x:Int)*(y:Int))) % 1000000000=(((t+(o+x*y)) % 1000000000:Nat):Int):=by rw [←Int.natCast_mul];omega
theorem cast_div4 (t o x y:Nat):((t:Int)+((o:Int)+(x:Int)*(y:Int)))/1000000000=(((t+(o+x*y))/1000000000:Nat):Int):=by rw [←Int.natCast_mul];omega
theorem cast_mod2 (t o:Nat):((t:Int)+(o:Int)) % 1000000000=(((t+o) % 1000000000:Nat):Int):=by omega
theorem cast_div2 (t o:Nat):((t:Int)+(o:Int))/1000000000=(((t+o)/1000000000:Nat):Int):=by omega
theorem set_u64 {ps:List Nat} {j:Nat} {X:Int} {y:Nat} (h:X=y):(ps.map pc64).set j (Value.int .u64 X)=(ps.set j y).map pc64:=by
 subst h;rw [List.map_set];rfl
theorem stored_u64 {w:World} {base g n cap:Nat} {ps:List Nat} (h:w.ownsRow base 144 1 (.slice (some ⟨g,0,none⟩) n cap) n (ps.map pc64)) (j:Nat) {X:Int} {y:Nat} (hX:X=y) :
  (w.setCell ⟨g,j,none⟩ (.int .u64 X)).ownsRow base 144 1 (.slice (some ⟨g,0,none⟩) n cap) n ((ps.set j y).map pc64):=by
 rw [←set_u64 hX];exact (h.stored j _).1
theorem madeCells_u64 (L:Nat):(madeCells (Value.int IntKind.u64 0).cells (L*1)).toList=(List.replicate L 0).map pc64:=by
 show (madeCells #[Value.int IntKind.u64 0] (L*1)).toList=_
 rw [Nat.mul_one,toList_madeCells_one]
 simp [pc64]
theorem inner_eq {os os0:List Nat} {i k c x y:Nat} {ys:List Nat} (hk:k<ys.length) (hy:ys[k]=y) (hj:i+k<os.length)
  (h:val os+1000000000 ^ (i+k)*c=val os0+1000000000 ^ i*(x*val (ys.take k))) :
  val (os.set (i+k) ((c+(os[i+k]+x*y)) % 1000000000))+1000000000 ^ (i+(k+1))*((c+(os[i+k]+x*y))/1000000000)=val os0+1000000000 ^ i*(x*val (ys.take (k+1))):=by
 have h1:=val_set os (i+k) ((c+(os[i+k]+x*y)) % 1000000000) hj
 rw [val_take_succ hk,hy]
 have e:c+(os[i+k]+x*y)=(c+(os[i+k]+x*y)) % 1000000000+1000000000*((c+(os[i+k]+x*y))/1000000000):=(Nat.mod_add_div _ _).symm
 generalize (c+(os[i+k]+x*y)) % 1000000000=r at *
 generalize (c+(os[i+k]+x*y))/1000000000=d at *
 have e2:=congrArg (1000000000 ^ (i+k) * ·) e
 simp only [Nat.mul_add,←Nat.mul_assoc] at e2
 have e3:1000000000 ^ (i+(k+1))*d=1000000000 ^ (i+k)*1000000000*d:=by rw [←Nat.add_assoc,Nat.pow_succ]
 have e4:1000000000 ^ i*(x*(val (ys.take k)+1000000000 ^ k*y))=1000000000 ^ i*(x*val (ys.take k))+1000000000 ^ (i+k)*x*y:=by
  rw [Nat.mul_add,Nat.mul_add,Nat.pow_add]
  congr 1
  rw [Nat.mul_left_comm x,←Nat.mul_assoc,←Nat.mul_assoc]
 rw [e3,e4]
 omega
theorem carry_eq {os:List Nat} {k c T:Nat} (hj:k<os.length) (h:val os+1000000000 ^ k*c=T) :
  val (os.set k ((c+os[k]) % 1000000000))+1000000000 ^ (k+1)*((c+os[k])/1000000000)=T:=by
 have h1:=val_set os k ((c+os[k]) % 1000000000) hj
 have e:c+os[k]=(c+os[k]) % 1000000000+1000000000*((c+os[k])/1000000000):=(Nat.mod_add_div _ _).symm
 generalize (c+os[k]) % 1000000000=r at *
 generalize (c+os[k])/1000000000=d at *
 have e2:=congrArg (1000000000 ^ k * ·) e
 simp only [Nat.mul_add,←Nat.mul_assoc] at e2
 have e3:1000000000 ^ (k+1)*d=1000000000 ^ k*1000000000*d:=by rw [Nat.pow_succ]
 omega
theorem carry_room {os:List Nat} {k c T L:Nat} (hc:0<c) (h:val os+1000000000 ^ k*c=T) (hT:T<1000000000 ^ L):k<L:=by
 apply Nat.lt_of_not_le
 intro hle
 have h1:1000000000 ^ L≤1000000000 ^ k:=Nat.pow_le_pow_right (by decide) hle
 have h2:1000000000 ^ k*1≤1000000000 ^ k*c:=Nat.mul_le_mul_left _ hc
 omega
theorem inner_carry {c o x y:Nat} (hc:c<1000000000) (ho:o<1000000000) (hx:x<1000000000) (hy:y<1000000000):(c+(o+x*y))/1000000000<1000000000:=by
 have:x*y≤999999999*999999999:=Nat.mul_le_mul (by omega) (by omega)
 omega
theorem prod_small {x y:Nat} (hx:x<1000000000) (hy:y<1000000000):(x:Int)*(y:Int)≤999999998000000001∧0≤(x:Int)*(y:Int):=by
 have h:x*y≤999999999*999999999:=Nat.mul_le_mul (by omega) (by omega)
 rw [←Int.natCast_mul]
 omega
theorem times_top {a b:List Nat} {i:Nat} (ha:∀ x∈a,x<1000000000) (hb:∀ x∈b,x<1000000000) (hi:i≤a.length):val (a.take i)*val b<1000000000 ^ (a.length+b.length+1):=by
 have h1:val (a.take i)<1000000000 ^ i:=by
  have:=val_lt (a:=a.take i) (fun x hx=>ha x (List.mem_of_mem_take hx))
  rwa [List.length_take,Nat.min_eq_left hi] at this
 have h2:=val_lt hb
 have h3:val (a.take i)*val b≤1000000000 ^ i*1000000000 ^ b.length:=Nat.mul_le_mul (by omega) (by omega)
 rw [←Nat.pow_add] at h3
 have h4:1000000000 ^ (i+b.length)<1000000000 ^ (a.length+b.length+1):=Nat.pow_lt_pow_right (by decide) (by omega)
 omega
theorem integer_times (va vb:Value) (m n:Nat) (w:World) (hlen:(pcs m).length≤1099511627776) (hlen':(pcs n).length≤1099511627776) (ha:U64s w va (pcs m)) (hb:U64s w vb (pcs n)) :
  Calls Tryz.prog 66 #[va,vb] w fun e w'=>∃ v',e=.returned v'∧U64s w' v' (pcs (m*n))∧Below w.heap.size w w'∧Fresh w.heap.size v':=by
 obtain ⟨p,c,rfl,hc,hm⟩:=ha.slice
 obtain ⟨q,d,rfl,hd,hm'⟩:=hb.slice
 obtain ⟨i0,hi,hz0,hz1,hz2⟩:=info_parts sl64.info
 unfold maxLen at hm hm'
 obtain ⟨w1,hmk,hown,hgr⟩:=run_make_full (P:=Tryz.prog) w w.heap.size 112 144 i0 (.int .u64 0) 1 Tryz.underlying112 hi hz0 hz1 .i64 .i64 ((pcs m).length+(pcs n).length+1) (by rw [hz2];omega) (by unfold maxLen;omega) (Nat.le_refl _)
 rw [show (((pcs m).length+(pcs n).length+1:Nat):Int)=((pcs m).length:Int)+((pcs n).length:Int)+1 from by omega] at hmk
 rw [madeCells_u64] at hown
 have hb1:Below w.heap.size w w1:=(Below.refl _ _).grown hgr (Nat.le_refl _) (fun k h=>by simp at h)
 clear hgr
 have Hown:=hid hown
 clear hown
 go_enter Tryz.func66,Tryz.ntmps66
 go_wp2
 go_loopw [21] (fun iv wr=>∃ (i:Nat) (os:List Nat),i≤(pcs m).length∧iv=.int .i64 i∧Own ((pcs m).length+(pcs n).length+1) os∧val os=val ((pcs m).take i)*n∧wr.ownsRow w.heap.size 144 1 (.slice (some ⟨w.heap.size,0,none⟩) ((pcs m).length+(pcs n).length+1) ((pcs m).length+(pcs n).length+1)) ((pcs m).length+(pcs n).length+1) (os.map pc64)∧Below w.heap.size w wr) (fun iv _=>(pcs m).length-(intOf iv).toNat)
 case atStart=>exact ⟨0,_,Nat.zero_le _,rfl,own_zero _,by rw [val_replicate_zero];simp,Hown.out,hb1⟩
 case round =>
  obtain ⟨i,os,hi,rfl,hos,hval,hown,hbw⟩:=hrel
  have HI:=hid hval
  have HO:=hid hown
  have HS:=hid hos
  clear hval hown hos
  by_cases him:i<(pcs m).length
  ·obtain ⟨b,off,rfl,hbb,hcell⟩:=(ha.below hbw).cells (by omega)
   have hcl:=hcell i him
   have hxa:(pcs m)[i]<1000000000:=pcs_lt m _ (List.getElem_mem him)
   clear hcell
   obtain ⟨wo,rfl⟩ : ∃ wo:World,wo=wr:=⟨_,rfl⟩
   go_wp2
   go_loopw [8,28] (fun cv kv wr=>∃ (k t:Nat) (ps:List Nat),k≤(pcs n).length∧t<1000000000∧kv=.int .i64 k∧cv=.int .u64 t∧Own ((pcs m).length+(pcs n).length+1) ps∧val ps+1000000000 ^ (i+k)*t=val os+1000000000 ^ i*((pcs m)[i]*val ((pcs n).take k))∧wr.ownsRow w.heap.size 144 1 (.slice (some ⟨w.heap.size,0,none⟩) ((pcs m).length+(pcs n).length+1) ((pcs m).length+(pcs n).length+1)) ((pcs m).length+(pcs n).length+1) (ps.map pc64)∧Below w.heap.size w wr) (fun _ kv _=>(pcs n).length-(intOf kv).toNat)
   case atStart=>exact ⟨0,0,os,Nat.zero_le _,by omega,rfl,rfl,HS.out,by simp,HO.out,hbw⟩
   case round =>
    obtain ⟨k,t,ps,hk,ht,rfl,rfl,hps,hval,hown,hbw2⟩:=hrel
    have HI2:=hid hval
    have HO2:=hid hown
    have HS2:=hid hps
    clear hval hown hps
    by_cases hkn:k<(pcs n).length
    ·obtain ⟨b',off',rfl,hbb',hcell'⟩:=(hb.below hbw2).cells (by omega)
     have hcl':=hcell' k hkn
     have hxb:(pcs n)[k]<1000000000:=pcs_lt n _ (List.getElem_mem hkn)
     clear hcell'
     have hik:i+k<ps.length:=by rw [HS2.out.len];omega
     have hoo:ps[i+k]<1000000000:=HS2.out.small _ (List.getElem_mem hik)
     have hco:=HO2.out.cellAt (i+k) (by omega)
     rw [List.getElem?_map,List.getElem?_eq_getElem hik,Option.map_some] at hco
     have hfo:=HO2.out.frozenAt (i+k)
     obtain ⟨hp1,hp2⟩:=prod_small hxa hxb
     unfold pc64 at hco
     have HX:=hid (cast_mod4 t ps[i+k] (pcs m)[i] (pcs n)[k])
     have HY:=hid (cast_div4 t ps[i+k] (pcs m)[i] (pcs n)[k])
     go_wp2
     go_roundw
     case rel=>exact ⟨k+1,(t+(ps[i+k]+(pcs m)[i]*(pcs n)[k]))/1000000000,_,by omega,inner_carry ht hoo hxa hxb,by go_num,congrArg _ HY.out,HS2.out.set (i+k) ((t+(ps[i+k]+(pcs m)[i]*(pcs n)[k])) % 1000000000) (by omega),inner_eq hkn rfl hik HI2.out,stored_u64 HO2.out _ HX.out,hbw2.setCell (Nat.le_refl _) _⟩
     case measure=>simp [intOf];omega
    ·obtain rfl:k=(pcs n).length:=by omega
     have HV:=HI2.out
     rw [List.take_length,val_pcs,HI.out] at HV
     have HT:val ps+1000000000 ^ (i+(pcs n).length)*t=val ((pcs m).take (i+1))*n:=by
      rw [HV,val_take_succ him,Nat.add_mul,Nat.mul_assoc]
     have HTop:=hid (by have:=times_top (i:=i+1) (pcs_lt m) (pcs_lt n) him;rwa [val_pcs] at this:val ((pcs m).take (i+1))*n<1000000000 ^ ((pcs m).length+(pcs n).length+1))
     have HT2:=hid HT
     clear HV HT
     obtain ⟨wp,rfl⟩ : ∃ wp:World,wp=wr:=⟨_,rfl⟩
     go_wp2
     go_loopw [8,11] (fun cv kv wr=>∃ (k t:Nat) (rs:List Nat),k≤(pcs m).length+(pcs n).length+1∧t<1000000000∧kv=.int .i64 k∧cv=.int .u64 t∧Own ((pcs m).length+(pcs n).length+1) rs∧val rs+1000000000 ^ k*t=val ((pcs m).take (i+1))*n∧wr.ownsRow w.heap.size 144 1 (.slice (some ⟨w.heap.size,0,none⟩) ((pcs m).length+(pcs n).length+1) ((pcs m).length+(pcs n).length+1)) ((pcs m).length+(pcs n).length+1) (rs.map pc64)∧Below w.heap.size w wr) (fun _ kv _=>(pcs m).length+(pcs n).length+1-(intOf kv).toNat)
     case atStart=>exact ⟨i+(pcs n).length,t,ps,by omega,ht,by go_num,rfl,HS2.out,HT2.out,HO2.out,hbw2⟩
     case round =>
      obtain ⟨k,t,rs,hk,ht,rfl,rfl,hrs,hval,hown,hbw3⟩:=hrel
      have HI3:=hid hval
      have HO3:=hid hown
      have HS3:=hid hrs
      clear hval hown hrs
      by_cases ht0:0<t
      ·have hkL:=carry_room ht0 HI3.out HTop.out
       have hik:k<rs.length:=by rw [HS3.out.len];omega
       have hoo:rs[k]<1000000000:=HS3.out.small _ (List.getElem_mem hik)
       have hco:=HO3.out.cellAt k (by omega)
       rw [List.getElem?_map,List.getElem?_eq_getElem hik,Option.map_some] at hco
       have hfo:=HO3.out.frozenAt k
       unfold pc64 at hco
       have HX:=hid (cast_mod2 t rs[k])
       have HY:=hid (cast_div2 t rs[k])
       go_wp2
       go_roundw
       case rel=>exact ⟨k+1,(t+rs[k])/1000000000,_,by omega,by omega,by go_num,congrArg _ HY.out,HS3.out.set k ((t+rs[k]) % 1000000000) (by omega),carry_eq hik HI3.out,stored_u64 HO3.out _ HX.out,hbw3.setCell (Nat.le_refl _) _⟩
       case measure=>simp [intOf];omega
      ·obtain rfl:t=0:=by omega
       go_wp2
       go_roundw
       case rel=>exact ⟨i+1,rs,by omega,by go_num,HS3.out,by have:=HI3.out;simpa using this,HO3.out,hbw3⟩
       case measure=>simp [intOf];omega
  ·obtain rfl:i=(pcs m).length:=by omega
   have HV:=HI.out
   rw [List.take_length,val_pcs] at HV
   have HV2:=hid HV
   clear HV
   go_wp2_with fail
   refine (integer_trim _ _ (by rw [HS.out.len];omega) HS.out.small _ (U64s.of_owns HO.out (by rw [HS.out.len]))).mono ?_
   rintro e w3 ⟨v',rfl,hv',rfl,hfr⟩
   have HFR:=hid (fresh_of HO.out hfr)
   clear hfr
   go_wp2
   go_ret
   exact ⟨_,rfl,by rw [←HV2.out];exact hv',hbw,HFR.out⟩
end Go.Proofs.YtogdahbbogimcaaGreatDoor
