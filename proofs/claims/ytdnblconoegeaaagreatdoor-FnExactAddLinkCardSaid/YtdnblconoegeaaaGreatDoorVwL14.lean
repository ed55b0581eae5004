import Derived.Test.YtdnblconoegeaaaGreatDoorB5
import Derived.Test.YtdnblconoegeaaaGreatDoorB8
set_option linter.all false
namespace Go.VS
set_option maxRecDepth 8000
attribute [-simp] isLeaf
set_option maxHeartbeats 8000000 in
theorem hardLaw (n:N4) (p:Pr) (h:p.big) (k:Int) (nm:Bs) (tt:Int) (K:Out→Prop):
    Call prog 402 ⟨[.agg (prR n p),.i .i64 k,.s nm,.i .i64 tt],[],[]⟩ K=K (.b true,[],[]):=by
  refine Zc (f:=402) rfl rfl (by decide) ?_
  by_cases b1:1048576<nm.length
  · have b1':(1048576:Int)<nm.length:=by omega
    simp -implicitDefEqProofs [prR,b1']
  have b1':¬ (1048576:Int)<nm.length:=by omega
  have e0:=fun K=>ah3 n p h 1048576 (by decide) (by decide) K
  by_cases c0:(p.tot:Int)≤1048576
  · obtain ⟨sm,hl⟩:=Pr.sm_of c0
    have m0:minus 1048576 p.tot=1048576 - p.tot:=if_pos c0
    rw [m0] at e0
    have c1:¬ (1048576:Int) - p.tot<0:=by omega
    have e1:=fun K=>ah4 n p sm K
    have e2:=fun K=>asb false p sm k nm tt (by omega) K
    have e3:=fun K=>asi false p sm k nm tt (by omega) K
    have e4:=fun K=>ab8 false false p sm K
    have k0:=fun K=>abb p 1 (by omega) (by unfold cntPr;omega) K
    have d1:¬ ((1+cntPr p:Nat):Int)<0:=by omega
    generalize 1+cntPr p=j0 at *
    have hO:(hardOut p k nm tt).1=0→(hardOut p k nm tt).2.Ow:=by
      unfold hardOut
      split
      · rename_i hc
        exact fun _=>(Pr.Ow.of hc.1).hardP k nm tt
      · intro e;cases e
    unfold prO at e2 e3
    generalize hardOut p k nm tt=R at *
    obtain ⟨c,x⟩:=R
    simp only at e2 e3 hO
    by_cases hc:c=0
    · subst hc
      have ho:=hO rfl
      have hcx:=aq3 ho.ok
      have e6:=fun K=>ab8 false false x ho.ok.sm K
      have e7:=fun K=>abb x 1 (by omega) (by omega) K
      have e8:=fun K=>ae4 false x 1 (by omega) (by omega) K
      have d2:¬ ((1+cntPr x:Nat):Int)<0:=by omega
      generalize 1+cntPr x=j2 at *
      generalize hx2:mkPr x 1=y at *
      have hy1:y.disk.blocks.length=x.disk.blocks.length∧y.disk.pend.length=x.disk.pend.length∧y.logged.length=x.logged.length∧y.dirty.length=x.dirty.length∧y.disk.fuse=x.disk.fuse∧y.disk.off=x.disk.off∧y.su=x.su∧y.seq=x.seq∧y.at_=x.at_:=by
        rw [← hx2];simp [mkPr]
      obtain ⟨y1,y2,y3,y4,y5,y6,y7,y8,y9⟩:=hy1
      have t5:List.take x.disk.blocks.length (List.map V.s y.disk.blocks)=List.map V.s y.disk.blocks:=List.take_of_length_le (by simp [y1])
      have t6:List.take x.disk.pend.length (List.map pgV y.disk.pend)=List.map pgV y.disk.pend:=List.take_of_length_le (by simp [y2])
      have t7:List.take x.logged.length (List.map pgV y.logged)=List.map pgV y.logged:=List.take_of_length_le (by simp [y3])
      have t8:List.take x.dirty.length (List.map pgV y.dirty)=List.map pgV y.dirty:=List.take_of_length_le (by simp [y4])
      simp only [prR,prW,prRows,prC,pmC,pmR,Tag_eq,if_true,Int.natCast_one,Nat.zero_add,y5,y6,y7,y8,y9] at e0 e1 e2 e3 e4 e6 e7 e8 k0
      simp -implicitDefEqProofs [prR,b1',e0,e1,e2,e3,e4,e6,e7,e8,t5,t6,t7,t8,k0,c1,d1,d2]
    · have e6:=fun K=>ajx K
      have e7:=fun K=>af3 1 K
      have e8:=fun K=>afz 1 (by omega) (by omega) K
      simp only [prR,prW,prRows,prC,prZ,pmC,pmR,Tag_eq,hc,if_false,Int.natCast_one,Nat.zero_add] at e0 e1 e2 e3 e4 e6 e7 e8 k0
      simp -implicitDefEqProofs [prR,b1',e0,e1,e2,e3,e4,e6,e7,e8,k0,c1,d1]
  · have m0:minus 1048576 p.tot=-1:=if_neg c0
    rw [m0] at e0
    simp only [prR,Tag_eq] at e0
    simp -implicitDefEqProofs [prR,b1',e0]
end Go.VS
