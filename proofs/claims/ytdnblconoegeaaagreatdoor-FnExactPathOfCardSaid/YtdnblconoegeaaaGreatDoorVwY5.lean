import Derived.Test.YtdnblconoegeaaaGreatDoorVwL11
import Derived.Test.YtdnblconoegeaaaGreatDoorB5
import Derived.Test.YtdnblconoegeaaaGreatDoorVwY4
set_option linter.all false
namespace Go.VS
set_option maxRecDepth 8000
attribute [-simp] isLeaf
set_option maxHeartbeats 4000000 in
theorem poLaw (n:N4) (p:Pr) (h:p.big) (a:Int) (K:Out→Prop):Call prog 404 ⟨[.agg (prR n p),.i .i64 a],[],[]⟩ K=K (.b true,[],[]):=by
  refine Zc (f:=404) rfl rfl (by decide) ?_
  have e0:=fun K=>an8 n p h 1048576 (by decide) (by decide) K
  by_cases c0:(p.tot:Int)≤1048576
  · obtain ⟨sm,hl⟩:=Pr.sm_of c0
    have m0:minus 1048576 p.tot=1048576 - p.tot:=if_pos c0
    rw [m0] at e0
    have c1:¬ (1048576:Int) - p.tot<0:=by omega
    have e1:=fun K=>an9 n p sm K
    have e2:=fun K=>an4 false p sm a K
    have e3:=fun K=>aod false p sm a K
    have e4:=fun K=>amu false false p sm K
    unfold poOut at e2 e3
    simp only [prR,prW,prRows,prC,Tag_eq,Bool.false_eq_true,if_false,Int.natCast_one] at e0 e1 e2 e3 e4
    generalize pathR p a=r at *
    simp -implicitDefEqProofs [prR,e0,e1,e2,e3,e4,c1]
  · have m0:minus 1048576 p.tot=-1:=if_neg c0
    rw [m0] at e0
    simp only [prR] at e0
    simp -implicitDefEqProofs [prR,e0]
end Go.VS
