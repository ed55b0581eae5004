import Derived.Test.YtdnblconoegeaaaGreatDoorVwU7
import Derived.Test.YtdnblconoegeaaaGreatDoorB5
set_option linter.all false
namespace Go.VS
set_option maxRecDepth 8000
attribute [-simp] isLeaf
theorem aul {l:List Ni} {y:Ni} (h:y ∈ l):lenN y≤sumN l:=by
  unfold sumN
  induction l with
  | nil=>cases h
  | cons x l ih=>
    rw [List.map_cons,List.sum_cons]
    rcases List.mem_cons.1 h with rfl | h
    · omega
    · have:=ih h;omega
theorem Ni.sm_of {l:List Ni} (h:totN l≤1048576):(∀ y,y ∈ l→y.sm)∧NnSm (l.map Ni.x):=by
  unfold totN at h
  have hy:∀ y,y ∈ l→y.x.name.length≤lim∧y.x.dims.length≤lim∧y.x.nums.length≤lim:=fun y hy=>by
    have:=aul hy
    unfold lenN lenU at this
    unfold lim;omega
  refine ⟨fun y h=>⟨(hy y h).1,(hy y h).2.1,(hy y h).2.2⟩,⟨by simp;omega,fun x hx=>?_⟩⟩
  obtain ⟨y,h1,rfl⟩:=List.mem_map.1 hx
  exact hy y h1
set_option maxHeartbeats 4000000 in
theorem shellLaw (n:N4) (p:Pr) (h:p.big) (m:Bool) (l:List Ni) (hl:l.length<big) (hs:∀ s,s ∈ l→s.big) (K:Out→Prop):
    Call prog 406 ⟨[.agg (shR n p m l)],[],[]⟩ K=K (.b true,[],[]):=by
  refine Zc (f:=406) rfl rfl (by decide) ?_
  have e0:=fun K=>aon n p h m l hl hs 1048576 (by decide) (by decide) K
  by_cases c0:((p.tot+totN l:Nat):Int)≤1048576
  · obtain ⟨sm,_⟩:=Pr.sm_of (p:=p) (by omega)
    obtain ⟨s1,s2⟩:=Ni.sm_of (l:=l) (by omega)
    have hll:l.length≤lim:=by unfold totN at c0;unfold lim;omega
    have m0:minus 1048576 (p.tot+totN l)=1048576 - ((p.tot+totN l:Nat):Int):=if_pos c0
    rw [m0] at e0
    have c1:¬ (1048576:Int) - ((p.tot+totN l:Nat):Int)<0:=by omega
    generalize p.tot+totN l=z at *
    have e1:=fun K=>aoq n p sm m l hll s1 K
    have hx:nnsV l=(l.map Ni.x).map nnV:=by simp [nnsV]
    have hn:l.length=(l.map Ni.x).length:=by simp
    rw [hx,hn] at e1
    generalize l.map Ni.x=l' at *
    have e2:=fun K=>ajh false p sm l' s2 K
    have e3:=fun K=>ajv false p sm l' s2 K
    have e4:=fun K=>am4 false false p sm l' s2 K
    have t1:List.take l'.length (l'.map nnV)=l'.map nnV:=List.take_of_length_le (by simp)
    simp only [shR,shW,shC,prR,prW,prRows,prC,Tag_eq,List.cons_append,List.nil_append] at e0 e1 e2 e3 e4
    generalize (storeB p && varsB l')=r at *
    cases r <;> simp -implicitDefEqProofs [shR,prR,e0,e1,e2,e3,e4,c1,t1]
  · have m0:minus 1048576 (p.tot+totN l)=-1:=if_neg c0
    rw [m0] at e0
    simp only [shR,prR,Tag_eq,List.cons_append,List.nil_append] at e0
    simp -implicitDefEqProofs [shR,prR,e0]
end Go.VS
