import Derived.Test.YtdnblconoegeaaaGreatDoorVwU2
set_option linter.all false
namespace Go.VS
set_option maxRecDepth 8000
def nnOk (x:Nn):Bool:=isName x.name && nuOk x
structure NnSm (l:List Nn):Prop where
  n:l.length≤1048576
  s:∀ x,x ∈ l→x.name.length≤lim∧x.dims.length≤lim∧x.nums.length≤lim
def incB:List Nn→Bool
  | x :: y :: l=>Op.bytesLess x.name y.name && incB (y :: l)
  | _=>true
theorem anl {l:List Nn} {i:Nat} (hi:i+1<l.length):incB (l.drop i)=(Op.bytesLess (l[i]'(by omega)).name l[i+1].name && incB (l.drop (i+1))):=by
  rw [List.drop_eq_getElem_cons (by omega),List.drop_eq_getElem_cons hi];rfl
theorem anm {l:List Nn} {i:Nat} (hi:l.length≤i+1):incB (l.drop i)=true:=by
  have h:(l.drop i).length≤1:=by rw [List.length_drop];omega
  cases h1:l.drop i with
  | nil=>rfl
  | cons x r=>
    rw [h1] at h
    cases r with
    | nil=>rfl
    | cons y r=>simp at h
def varsB (l:List Nn):Bool:=decide (l.length≤8) && (l.all nnOk && incB l)
theorem apg (q:Bool) (l:List Nn) (s:NnSm l) (K:Out→Prop):Call prog 316 ⟨[.view q 3 (l.map nnV)],[],[]⟩ K=K (.b (l.all nnOk),[],[]):=by
  refine Zc (f:=316) rfl rfl (by decide) ?_
  have hn:=s.n
  simp -implicitDefEqProofs
  refine WL_for (fun i=>⟨sp 25 [(0,.view q 3 (l.map nnV)),(3,.i .i64 i)],[],[]⟩) l.length (fun i=>l.all nnOk=(l.drop i).all nnOk) _ (by simp -implicitDefEqProofs) (by simp) ?_
  intro i hi hP
  by_cases hlt:i<l.length
  · have hw:=wrap_i64 (n:=(i:Int)+1) (by omega) (by omega)
    obtain ⟨s1,s2,s3⟩:=s.s _ (List.getElem_mem hlt)
    have e1:=fun K=>ada l[i].name s1 K
    have e2:=fun K=>arj l[i] s2 s3 K
    rw [List.drop_eq_getElem_cons hlt,List.all_cons] at hP
    simp only [nuC,Tag_eq] at e2
    cases c1:isName l[i].name with
    | false=>
      have c:nnOk l[i]=false:=by unfold nnOk;rw [c1];rfl
      rw [c,Bool.false_and] at hP
      simp -implicitDefEqProofs [nnV,hlt,e1,c1,hP]
    | true=>
      cases c2:nuOk l[i] with
      | false=>
        have c:nnOk l[i]=false:=by unfold nnOk;rw [c1,c2];rfl
        rw [c,Bool.false_and] at hP
        simp -implicitDefEqProofs [nnV,hlt,e1,e2,c1,c2,hP]
      | true=>
        have c:nnOk l[i]=true:=by unfold nnOk;rw [c1,c2];rfl
        rw [c,Bool.true_and] at hP
        simp -implicitDefEqProofs [nnV,hlt,hw,e1,e2,c1,c2,hP,Next]
  · have:i=l.length:=by omega
    subst this
    rw [List.drop_length] at hP
    simp -implicitDefEqProofs [hP]
set_option maxHeartbeats 1000000 in
theorem apx (q:Bool) (l:List Nn) (s:NnSm l) (K:Out→Prop):Call prog 306 ⟨[.view q 3 (l.map nnV)],[],[]⟩ K=K (.b (varsB l),[],[]):=by
  refine Zc (f:=306) rfl rfl (by decide) ?_
  have hn:=s.n
  unfold varsB
  simp -implicitDefEqProofs
  refine WL_for (fun i=>⟨sp 41 [(0,.view q 3 (l.map nnV)),(5,.view q 3 (l.map nnV)),(6,.i .i64 l.length),(7,.i .i64 i)],[],[]⟩) l.length (fun i=>(l.all nnOk && incB l)=((l.drop i).all nnOk && incB (l.drop (i - 1)))) _ (by simp -implicitDefEqProofs) (by simp) ?_
  intro i hi hP
  by_cases hlt:i<l.length
  · have hw:=wrap_i64 (n:=(i:Int)+1) (by omega) (by omega)
    obtain ⟨s1,s2,s3⟩:=s.s _ (List.getElem_mem hlt)
    have e1:=fun K=>adz l[i].name s1 K
    have e2:=fun K=>aie l[i] s2 s3 K
    simp only [nuC,Tag_eq] at e2
    have hd:(l.drop i).all nnOk=(nnOk l[i] && (l.drop (i+1)).all nnOk):=by rw [List.drop_eq_getElem_cons hlt,List.all_cons]
    rw [hd] at hP
    cases c1:isName l[i].name with
    | false=>
      have c:nnOk l[i]=false:=by unfold nnOk;rw [c1];rfl
      rw [c,Bool.false_and,Bool.false_and] at hP
      simp -implicitDefEqProofs [nnV,hlt,e1,c1,hP]
    | true=>
      cases c2:nuOk l[i] with
      | false=>
        have c:nnOk l[i]=false:=by unfold nnOk;rw [c1,c2];rfl
        rw [c,Bool.false_and,Bool.false_and] at hP
        simp -implicitDefEqProofs [nnV,hlt,e1,e2,c1,c2,hP]
      | true=>
        have c:nnOk l[i]=true:=by unfold nnOk;rw [c1,c2];rfl
        rw [c,Bool.true_and] at hP
        by_cases h0:i=0
        · subst h0
          simp -implicitDefEqProofs [nnV,hlt,hw,e1,e2,c1,c2,Next]
          simpa using hP
        · obtain ⟨j,rfl⟩:∃ j,i=j+1:=⟨i - 1,by omega⟩
          have hpos:(0:Int)<(j:Int)+1:=by omega
          have hw2:=wrap_i64 (n:=(j:Int)+1 - 1) (by omega) (by omega)
          have hj:j<l.length:=by omega
          have hltI:(j:Int)+1<(l.length:Int):=by omega
          have hjI:(0:Int)≤(j:Int)+1:=by omega
          have hw3:=wrap_i64 (n:=(j:Int)) (by omega) (by omega)
          have hw5:=wrap_i64 (n:=(j:Int)+1+1) (by omega) (by omega)
          have hjJ:(j:Int)<(l.length:Int):=by omega
          have hinc:=anl (l:=l) (i:=j) hlt
          rw [Nat.add_sub_cancel,hinc] at hP
          have hle:=ajj l[j+1].name l[j].name
          cases c3:Op.bytesLess l[j].name l[j+1].name with
          | false=>
            rw [c3] at hP hle
            simp only [Bool.false_and,Bool.and_false,Bool.not_false] at hP hle
            simp -implicitDefEqProofs [nnV,hlt,hltI,hjI,hjJ,hw3,hj,hw2,hpos,e1,e2,c1,c2,hP,hle]
          | true=>
            rw [c3] at hP hle
            simp only [Bool.true_and,Bool.not_true] at hP hle
            simp -implicitDefEqProofs [nnV,hlt,hltI,hjI,hjJ,hw3,hj,hw5,hw2,hpos,e1,e2,c1,c2,hle,Next]
            exact hP
  · have:i=l.length:=by omega
    subst this
    rw [List.drop_length,anm (by omega)] at hP
    by_cases c:l.length≤8
    · have d:(l.length:Int)≤8:=by omega
      simp -implicitDefEqProofs [hP,c,d]
    · have d:¬ (l.length:Int)≤8:=by omega
      simp -implicitDefEqProofs [hP,c,d]
end Go.VS
