import Derived.Test.YtdnblconoegeaaaGreatDoorVwU1
set_option linter.all false
namespace Go.VS
set_option maxRecDepth 8000
def inAll (l:List Int) (lo hi:Int):Bool:=l.all fun n=>inI n lo hi
theorem atv (n lo hi:Int) (K:Out→Prop):Call prog 336 ⟨[.i .i64 n,.vp [.i .i64 lo],.vp [.i .i64 hi]],[],[]⟩ K=K (.b (!inI n lo hi),[],[]):=by
  refine Zc (f:=336) rfl rfl (by decide) ?_
  have e:=fun K=>aab n lo hi K
  simp -implicitDefEqProofs [e]
theorem cfI (pr:Int→Bool) (g:Nat) (caps:List V) (q:Bool) (xs:List Int) (hl:xs.length≤lim) (hcap:capsOk caps=true)
    (hc:∀ x,x ∈ xs→∀ K:Out→Prop,Call prog g ⟨.i .i64 x :: caps,[],[]⟩ K=K (.b (pr x),[],[])) (K:Out→Prop):
    Call prog 337 ⟨[.view q 1 (xs.map (V.i .i64)),.fn g caps],[],[]⟩ K=K (.b (xs.any pr),[],[]):=
  ag2 (p:=prog) (f:=337) (ix:=338) (z:=1) (ag:=false) rfl rfl (V.i .i64) pr g caps q xs hl hcap (fun x=>by simp) (fun s x=>by simp) hc K
theorem afv (q:Bool) (l:List Int) (lo hi:Int) (hl:l.length≤lim) (K:Out→Prop):Call prog 329 ⟨[.view q 1 (iV l),.i .i64 lo,.i .i64 hi],[],[]⟩ K=K (.b (inAll l lo hi),[],[]):=by
  refine Zc (f:=329) rfl rfl (by decide) ?_
  have e:=fun K=>cfI (fun n=>!inI n lo hi) 336 [.vp [.i .i64 lo],.vp [.i .i64 hi]] q l hl (by simp) (fun x _ K=>atv x lo hi K) K
  have:(l.any fun n=>!inI n lo hi)=!inAll l lo hi:=by
    unfold inAll
    clear e
    induction l with
    | nil=>rfl
    | cons x l ih=>simp only [List.any_cons,List.all_cons,Bool.not_and];rw [ih (by simp at hl;omega)]
  rw [this] at e
  simp -implicitDefEqProofs [iV,e]
def dimsOk (l:List Int):Bool:=decide (l.length≤3) && (inAll l 0 40 && decide (prodW l 1≤600))
theorem akt (q:Bool) (l:List Int) (hl:l.length≤lim) (K:Out→Prop):Call prog 327 ⟨[.view q 1 (iV l)],[],[]⟩ K=K (.b (dimsOk l),[],[]):=by
  refine Zc (f:=327) rfl rfl (by decide) ?_
  have e1:=fun K=>afv q l 0 40 hl K
  have e2:=fun K=>ai6 q l hl K
  simp only [iV,Tag_eq] at e1 e2
  unfold dimsOk
  by_cases c:l.length≤3
  · have d:(l.length:Int)≤3:=by omega
    cases c2:inAll l 0 40 <;> simp only [c2] at e1 <;> simp -implicitDefEqProofs [iV,e1,e2,c,d,c2]
  · have d:¬ (l.length:Int)≤3:=by omega
    simp -implicitDefEqProofs [iV,c,d]
theorem anq (q:Bool) (l:List Int) (hl:l.length≤lim) (K:Out→Prop):Call prog 332 ⟨[.view q 1 (iV l)],[],[]⟩ K=K (.b (dimsOk l),[],[]):=by
  refine Zc (f:=332) rfl rfl (by decide) ?_
  have e:=fun n K=>aaa n 0 40 K
  unfold dimsOk
  by_cases c:l.length≤3
  · have d:¬ (3:Int)<l.length:=by omega
    simp -implicitDefEqProofs [iV,c,d]
    refine WL_st (α:=Nat × Int) (fun x=>⟨sp 28 [(0,.view q 1 (l.map (V.i .i64))),(3,.i .i64 x.2),(4,.i .i64 x.1)],[],[]⟩) (fun x=>l.length - x.1) (fun x=>x.1≤l.length∧(inAll l 0 40 && decide (prodW l 1≤600))=(inAll (l.drop x.1) 0 40 && decide (prodW (l.drop x.1) x.2≤600))) (0,1) _ (by simp -implicitDefEqProofs) ⟨Nat.zero_le _,by simp⟩ ?_
    rintro ⟨i,a⟩ ⟨hi,hP⟩
    simp only at hi hP
    by_cases hlt:i<l.length
    · have hw:=wrap_i64 (n:=(i:Int)+1) (by omega) (by omega)
      rw [ail hlt,List.drop_eq_getElem_cons hlt] at hP
      have h1:inAll (l[i] :: l.drop (i+1)) 0 40=(inI l[i] 0 40 && inAll (l.drop (i+1)) 0 40):=rfl
      rw [h1] at hP
      cases c2:inI l[i] 0 40 with
      | false=>
        rw [c2,Bool.false_and,Bool.false_and] at hP
        simp -implicitDefEqProofs [hlt,e,c2,hP]
      | true=>
        rw [c2,Bool.true_and] at hP
        simp -implicitDefEqProofs [hlt,hw,e,c2]
        exact NextS.mk (i+1,IntKind.i64.wrap (a*l[i])) ⟨by omega,hP⟩ (by simp;omega) (by simp)
    · have:i=l.length:=by omega
      subst this
      rw [List.drop_length,prodW] at hP
      have h0:inAll [] 0 40=true:=rfl
      rw [h0,Bool.true_and] at hP
      simp -implicitDefEqProofs [hP]
  · have d:(3:Int)<l.length:=by omega
    simp -implicitDefEqProofs [iV,c,d]
def nuOk (x:Nn):Bool:=dimsOk x.dims && (decide ((x.nums.length:Int)=prodW x.dims 1) && inAll x.nums (-1000000000000) 1000000000000)
theorem aie (x:Nn) (h1:x.dims.length≤lim) (h2:x.nums.length≤lim) (K:Out→Prop):Call prog 319 ⟨[.agg (nuC x)],[],[]⟩ K=K (.b (nuOk x),[],[]):=by
  refine Zc (f:=319) rfl rfl (by decide) ?_
  have e1:=fun K=>akt true x.dims h1 K
  have e2:=fun K=>ai6 true x.dims h1 K
  have e3:=fun K=>afv true x.nums (-1000000000000) 1000000000000 h2 K
  simp only [iV,Tag_eq] at e1 e2 e3
  unfold nuOk
  cases c:dimsOk x.dims with
  | false=>simp only [c] at e1;simp -implicitDefEqProofs [nuC,iV,e1]
  | true=>
    simp only [c] at e1
    by_cases c2:(x.nums.length:Int)=prodW x.dims 1
    · simp -implicitDefEqProofs [nuC,iV,e1,e2,e3,c2]
    · simp -implicitDefEqProofs [nuC,iV,e1,e2,e3,c2]
theorem arj (x:Nn) (h1:x.dims.length≤lim) (h2:x.nums.length≤lim) (K:Out→Prop):Call prog 325 ⟨[.vp (nuC x)],[],[]⟩ K=K (.b (nuOk x),[],[]):=by
  refine Zc (f:=325) rfl rfl (by decide) ?_
  have e1:=fun K=>anq true x.dims h1 K
  have e2:=fun K=>al8 true x.dims h1 K
  have e3:∀ n K,Call prog 334 ⟨[.i .i64 n],[],[]⟩ K=K (.b (inI n (-1000000000000) 1000000000000),[],[]):=fun n K=>by
    refine Zc (f:=334) rfl rfl (by decide) ?_
    have e:=fun K=>aaa n (-1000000000000) 1000000000000 K
    simp -implicitDefEqProofs [e]
  simp only [iV,Tag_eq] at e1 e2
  unfold lim at h2
  unfold nuOk
  cases c:dimsOk x.dims with
  | false=>simp only [c] at e1;simp -implicitDefEqProofs [nuC,iV,e1]
  | true=>
    simp only [c] at e1
    by_cases c2:(x.nums.length:Int)=prodW x.dims 1
    · simp -implicitDefEqProofs [nuC,iV,e1,e2,c2]
      refine WL_for (fun i=>⟨sp 41 [(0,.vp [.view true 1 (x.dims.map (V.i .i64)),.view true 1 (x.nums.map (V.i .i64))]),(3,.i .i64 i)],[],[]⟩) x.nums.length (fun i=>inAll x.nums (-1000000000000) 1000000000000=inAll (x.nums.drop i) (-1000000000000) 1000000000000) _ (by simp -implicitDefEqProofs) (by simp) ?_
      intro i hi hP
      by_cases hlt:i<x.nums.length
      · have hw:=wrap_i64 (n:=(i:Int)+1) (by omega) (by omega)
        have h3:inAll (x.nums.drop i) (-1000000000000) 1000000000000=(inI x.nums[i] (-1000000000000) 1000000000000 && inAll (x.nums.drop (i+1)) (-1000000000000) 1000000000000):=by
          rw [List.drop_eq_getElem_cons hlt];rfl
        rw [h3] at hP
        cases c3:inI x.nums[i] (-1000000000000) 1000000000000 with
        | false=>rw [c3,Bool.false_and] at hP;simp -implicitDefEqProofs [hlt,e3,c3,hP]
        | true=>rw [c3,Bool.true_and] at hP;simp -implicitDefEqProofs [hlt,hw,e3,c3,hP,Next]
      · have:i=x.nums.length:=by omega
        subst this
        rw [List.drop_length] at hP
        have h0:inAll [] (-1000000000000) 1000000000000=true:=rfl
        rw [h0] at hP
        simp -implicitDefEqProofs [hP]
    · simp -implicitDefEqProofs [nuC,iV,e1,e2,c2]
end Go.VS
