import Derived.Test.YtgohnjdgoglcfaaGreatDoorM1Z
namespace Go.Proofs.YtgohnjdgoglcfaaGreatDoor
theorem Bd.ok {M C:Nat} {q:Rat} (h:Bd M C q) (h1:M<10 ^ 200) (h2:C<10 ^ 200):OkB q:=by
 obtain ⟨c,a,b,d⟩:=h
 have:=d.parts a
 exact ok_nat ⟨this.1,Nat.le_trans this.2 b⟩ h1 h2
theorem map_row {r:QP} {t:Rat} {p:QP} (h1:Sh r.1) (h2:Sh r.2) (h3:Sh t) (hp:(p.1.num.natAbs≤32768∧p.1.den≤256)∧(p.2.num.natAbs≤32768∧p.2.den≤256)):OkB (r.1*p.1+r.2*p.2+t):=
 ((((Bd.own h1).mul (Bd.own hp.1)).add ((Bd.own h2).mul (Bd.own hp.2))).add (Bd.own h3)).ok (by decide) (by decide)
theorem Drf.map {P:List QP} (h:Drf P) {r s t:QP} (h1:Sh r.1∧Sh r.2) (h2:Sh s.1∧Sh s.2) (h3:Sh t.1∧Sh t.2):∀ p∈P.map (mapP r s t),OkB p.1∧OkB p.2:=fun p hp=>by
 obtain ⟨q,hq,rfl⟩:=List.mem_map.1 hp
 exact ⟨map_row h1.1 h1.2 h3.1 (h.small q hq),map_row h2.1 h2.2 h3.2 (h.small q hq)⟩
def mapL (r s t:QP) (P:List QP):List QP:=if det2 r s<0 then (P.map (mapP r s t)).reverse else P.map (mapP r s t)
theorem mapL_len (r s t:QP) (P:List QP):(mapL r s t P).length=P.length:=by unfold mapL;split <;> simp
theorem mapL_mem {r s t:QP} {P:List QP} {p:QP}:p∈mapL r s t P↔p∈P.map (mapP r s t):=by
 unfold mapL
 split
 ·exact List.mem_reverse
 ·exact Iff.rfl
theorem mapL_cvx {r s t:QP} {P:List QP} (h:Cvx P) (hd:det2 r s≠0):Cvx (mapL r s t P):=by
 unfold mapL
 split
 ·exact h.map_rev r s t ‹_›
 ·exact h.map r s t (by grind)
theorem mapL_area (r s t:QP) {P:List QP} (h:2≤P.length):areaP (mapL r s t P)=(if det2 r s<0 then -det2 r s else det2 r s)*areaP P:=by
 unfold mapL
 split
 ·rw [area_rev,area_map r s t P h];grind
 ·exact area_map r s t P h
theorem mem_rotL {P:List QP} {u:Nat} {p:QP}:p∈rotL P u↔p∈P:=by
 unfold rotL
 rw [List.mem_append,or_comm,←List.mem_append,List.take_append_drop]
theorem mapL_hull {r s t:QP} {P X:List QP} (h:Cvx P) (hd:det2 r s≠0) {u:Nat} (hu:LeastAt (mapL r s t P) u) (hX:Wrap (P.map (mapP r s t)) X):X=rotL (mapL r s t P) u:=by
 refine hX.unique ((((mapL_cvx h hd).begin_at hu).wrap).congr fun p=>?_)
 rw [←mapL_mem]
 exact mem_rotL
end Go.Proofs.YtgohnjdgoglcfaaGreatDoor
