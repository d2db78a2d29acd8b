import Derived.Test.YtglncfkoohgdaaaGreatDoorG13R
import Derived.Test.YtglncfkoohgdaaaGreatDoorG4R
namespace Go.Proofs.YtglncfkoohgdaaaGreatDoor
open Go.RowKit Go.Shelf
def tQ (P:dB) (m:Nat):dB:=⟨P.lg.take m,P.xs.take m,P.tp.take m,P.cs⟩
theorem getD_take' {α:Type} (L:List α) (d:α) {m k:Nat} (h:k<m):(L.take m).getD k d=L.getD k d:=by
 rw [List.getD_eq_getElem?_getD,List.getD_eq_getElem?_getD,List.getElem?_take_of_lt h]
theorem ze (P:dB) {m k:Nat} (h:k<m):ai (tQ P m) k=ai P k:=getD_take' _ _ h
theorem IG (P:dB) {m k:Nat} (h:k<m):cZ (tQ P m) k=cZ P k:=getD_take' _ _ h
theorem PL (P:dB) {m k:Nat} (h:k<m):bF (tQ P m) k=bF P k:=getD_take' _ _ h
theorem PM {P:dB} {m:Nat} (h:m≤P.lg.length):(tQ P m).lg.length=m:=by
 show (P.lg.take m).length=m
 rw [List.length_take];omega
theorem Yi {P:dB} {m:Nat} (hO:dw P) (h2:2≤m) (h:m≤P.lg.length):dw (tQ P m):=by
 have hl:=PM h
 have hm:∀ {k},k<(tQ P m).lg.length→k<m:=fun hk=>by omega
 refine ⟨by omega,by have:=hO.n20;omega,?_,?_,fun k hk=>?_,fun k i hk hi=>?_,fun k hk=>?_,fun k hk=>?_,fun k hk=>?_,hO.cs,hO.nn⟩
 ·rw [hl]
  show (P.xs.take m).length=m
  rw [List.length_take,hO.nx];omega
 ·rw [hl]
  show (P.tp.take m).length=m
  rw [List.length_take,hO.nt];omega
 ·rw [ze P (hm hk)]
  exact hO.log k (by have:=hm hk;omega)
 ·rw [ze P (hm hk)] at hi ⊢
  exact hO.iv k i (by have:=hm hk;omega) hi
 ·rw [IG P (hm hk)]
  exact hO.xs k (by have:=hm hk;omega)
 ·rw [PL P (hm hk)]
  exact hO.tp k (by have:=hm hk;omega)
 ·rw [IG P (show k<m by omega),IG P (show k+1<m by omega)]
  exact hO.GG k (by omega)
theorem Yj (P:dB) {m k:Nat} (h:k+1<m):bD (tQ P m) k=bD P k:=by
 unfold bD
 rw [ze P (show k<m by omega),ze P h]
 rfl
theorem Ll (P:dB) {m k:Nat} (h:k<m) (d:Rat):aC (tQ P m) k d=aC P k d:=by
 unfold aC
 rw [IG P h,PL P h]
theorem NU (P:dB) {m k:Nat} (h:k+1<m):iq (tQ P m) k=iq P k:=by
 have h0:k<m:=by omega
 unfold iq aA Kh
 rw [Yj P h]
 simp only [ze P h0,ze P h,Ll P h0,Ll P h]
theorem Yk {P:dB} {m:Nat} (h0:0<m) (h:m+1=P.lg.length):gD P=gD (tQ P m)++iq P (m-1):=by
 unfold gD
 rw [PM (by omega),←h,show m+1-1=(m-1)+1 by omega,List.range_succ,List.flatMap_append,List.flatMap_singleton]
 congr 1
 rw [List.flatMap_def,List.flatMap_def]
 congr 1
 refine List.map_congr_left fun k hk=>?_
 rw [List.mem_range] at hk
 exact (NU P (by omega)).symm
theorem Yl {P:dB} {k:Nat} {b:lH} (h:b∈iq P k):b.k=k:=by
 unfold iq at h
 rw [List.mem_flatMap] at h
 obtain ⟨s,_,h⟩:=h
 unfold aA at h
 split at h
 ·split at h
  ·simp at h;rw [h]
  ·simp at h;rcases h with h | h <;> rw [h]
 ·split at h <;> (simp at h;rw [h])
theorem nO.cut {W:World} {p:Option Addr} {n c:Nat} {L:List ByteArray} (h:nO W (.slice p n c) L) {m:Nat} (hm:m≤L.length):nO W (.slice p m c) (L.take m):=by
 obtain ⟨p',c',h1,h2,h3,h4⟩:=h
 cases h1
 have hl:(L.take m).length=m:=by rw [List.length_take];omega
 refine ⟨p,c,by rw [hl],by omega,h3,fun h0=>?_⟩
 obtain ⟨b,off,k1,k2,k3⟩:=h4 (by omega)
 refine ⟨b,off,k1,k2,fun i hi=>?_⟩
 rw [hl] at hi
 rw [k3 i (by omega),List.getElem_take]
theorem UA.cut {W:World} {p:Option Addr} {n c:Nat} {G:List (List Iv)} (h:UA W (.slice p n c) G) {m:Nat} (hm:m≤G.length):UA W (.slice p m c) (G.take m):=by
 obtain ⟨p',c',h1,h2,h3,h4⟩:=h
 cases h1
 have hl:(G.take m).length=m:=by rw [List.length_take];omega
 refine ⟨p,c,by rw [hl],by omega,h3,fun h0=>?_⟩
 obtain ⟨b,off,k1,k2,k3⟩:=h4 (by omega)
 refine ⟨b,off,k1,k2,fun i hi=>?_⟩
 rw [hl] at hi
 have:=k3 i (by omega)
 rw [getD_take' _ _ hi]
 exact this
theorem ma.cut {W:World} {pg pa pt:Option Addr} {ng na nt cg ca ct:Nat} {P:dB} (h:ma W (.slice pg ng cg) (.slice pa na ca) (.slice pt nt ct) P) (hO:dw P) {m:Nat} (hm:m≤P.lg.length):ma W (.slice pg m cg) (.slice pa m ca) (.slice pt m ct) (tQ P m):=by
 refine ⟨h.g.cut hm,?_,?_⟩
 ·show nO _ _ ((P.xs.take m).map tx)
  rw [List.map_take]
  exact h.a.cut (by rw [List.length_map,hO.nx];exact hm)
 ·show nO _ _ ((P.tp.take m).map tx)
  rw [List.map_take]
  exact h.t.cut (by rw [List.length_map,hO.nt];exact hm)
theorem tJ.cut {W:World} {p:Option Addr} {n c:Nat} {D:List (lH × Value)} (h:tJ W (.slice p n c) D) {m:Nat} (hm:m≤D.length):tJ W (.slice p m c) (D.take m):=by
 obtain ⟨⟨p',c',h1,h2,h3,h4⟩,h5⟩:=h
 cases h1
 have hl:(D.take m).length=m:=by rw [List.length_take];omega
 refine ⟨⟨p,c,by rw [hl],by omega,h3,fun h0=>?_⟩,fun x hx=>h5 x (List.mem_of_mem_take hx)⟩
 obtain ⟨b,off,k1,k2,k3⟩:=h4 (by omega)
 refine ⟨b,off,k1,k2,fun i hi=>?_⟩
 rw [hl] at hi
 have:=k3 i (by omega)
 rw [List.getElem_take]
 exact this
theorem Rx {P:dB} {m:Nat} {A B:List (lH × Value)} (h0:0<m) (h:m+1=P.lg.length) (hA:A.map (·.1)=gD P) (hB:B.map (·.1)=gD (tQ P m)) :
  B.length≤A.length∧(A.take B.length).map (·.1)=B.map (·.1)∧∀ (hl:B.length<A.length),(A[B.length]).1.k=m-1:=by
 have e:=Yk h0 h
 have lB:(gD (tQ P m)).length=B.length:=by rw [←hB,List.length_map]
 have lA:A.length=B.length+(iq P (m-1)).length:=by rw [←lB,←List.length_append,←e,←hA,List.length_map]
 refine ⟨by omega,?_,fun hl=>?_⟩
 ·rw [List.map_take,hA,hB,e,←lB,List.take_left]
 ·have:(A.map (·.1))[B.length]?=some (A[B.length]).1:=by rw [List.getElem?_map,List.getElem?_eq_getElem hl];rfl
  rw [hA,e,List.getElem?_append_right (by omega)] at this
  exact Yl (List.mem_of_getElem? this)
end Go.Proofs.YtglncfkoohgdaaaGreatDoor
