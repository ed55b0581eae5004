import Derived.Test.YtdnblconoegeaaaGreatDoorVwL11
import Derived.Test.YtdnblconoegeaaaGreatDoorVwU5
set_option linter.all false
namespace Go.VS
set_option maxRecDepth 8000
attribute [-simp] isLeaf
structure Ni where
  x:Nn
  a:Bool
  b:Bool
  deriving Inhabited
def niC (y:Ni):List V:=[slc y.a 1 (iV y.x.dims),slc y.b 1 (iV y.x.nums)]
def niV (y:Ni):V:=.agg [.s y.x.name,slc y.a 1 (iV y.x.dims),slc y.b 1 (iV y.x.nums)]
def lenU (y:Ni):Nat:=y.x.dims.length+y.x.nums.length
def lenN (y:Ni):Nat:=y.x.name.length+lenU y
def sumN (l:List Ni):Nat:=(l.map lenN).sum
def totN (l:List Ni):Nat:=l.length+sumN l
theorem atl {l:List Ni} {i:Nat} (h:i<l.length):sumN (l.take (i+1))=sumN (l.take i)+lenN l[i]:=by
  unfold sumN
  rw [← List.take_append_getElem h,List.map_append,List.sum_append];simp
theorem atm {l:List Ni} (i:Nat):sumN (l.take i)≤sumN l:=by
  unfold sumN
  conv=>rhs;rw [← List.take_append_drop i l,List.map_append,List.sum_append]
  omega
structure Ni.big (y:Ni):Prop where
  s:y.x.name.length<Go.VS.big
  d:y.x.dims.length<Go.VS.big
  n:y.x.nums.length<Go.VS.big
theorem ah5 (q:Bool) (l:List Int) (k:Int) (hs:l.length<big) (k0:0≤k) (k1:k≤1048576) (K:Out→Prop):
    Call prog 331 ⟨[.view q 1 (iV l),.i .i64 k],[],[]⟩ K=K (.i .i64 (minus k l.length),[],[]):=by
  refine Zc (f:=331) rfl rfl (by decide) ?_
  unfold big at hs
  have w0:=wrap_i64 (n:=k - l.length) (by omega) (by omega)
  unfold minus
  by_cases c0:(l.length:Int)≤k
  · have c1:¬ k - l.length<0:=by omega
    simp -implicitDefEqProofs [iV,w0,c0,c1]
  · have c1:k - l.length<0:=by omega
    simp -implicitDefEqProofs [iV,w0,c0,c1]
theorem ak9 (y:Ni) (hb:y.big) (k:Int) (k0:0≤k) (k1:k≤1048576) (K:Out→Prop):
    Call prog 324 ⟨[.agg (niC y),.i .i64 k],[],[]⟩ K=K (.i .i64 (minus k (lenU y)),[],[]):=by
  refine Zc (f:=324) rfl rfl (by decide) ?_
  have e1:=fun K=>ah5 true y.x.dims k hb.d k0 k1 K
  unfold lenU
  by_cases c1:(y.x.dims.length:Int)≤k
  · obtain ⟨m1,m2⟩:=adv y.x.nums.length c1
    rw [m1] at e1
    have e2:=fun K=>ah5 true y.x.nums (k - y.x.dims.length) hb.n (by omega) (by omega) K
    rw [m2] at e2
    have c2:¬ k - y.x.dims.length<0:=by omega
    by_cases c3:minus k (y.x.dims.length+y.x.nums.length)<0
    · have:=afk c3
      rw [this] at e2 ⊢
      simp -implicitDefEqProofs [niC,e1,e2,c2]
    · simp -implicitDefEqProofs [niC,e1,e2,c2,c3]
  · obtain ⟨m1,m2⟩:=adu y.x.nums.length c1
    rw [m1] at e1
    rw [m2]
    simp -implicitDefEqProofs [niC,e1]
theorem agy (y:Ni) (hb:y.big) (k:Int) (k0:0≤k) (k1:k≤1048576) (K:Out→Prop):
    Call prog 314 ⟨[niV y,.i .i64 k],[],[]⟩ K=K (.i .i64 (minus k (lenN y)),[],[]):=by
  refine Zc (f:=314) rfl rfl (by decide) ?_
  have hs:=hb.s
  unfold big at hs
  have w0:=wrap_i64 (n:=k - y.x.name.length) (by omega) (by omega)
  unfold lenN
  by_cases c1:(y.x.name.length:Int)≤k
  · obtain ⟨m1,m2⟩:=adv (lenU y) c1
    have e2:=fun K=>ak9 y hb (k - y.x.name.length) (by omega) (by omega) K
    rw [m2] at e2
    simp only [niC,Tag_eq] at e2
    have c2:¬ k - y.x.name.length<0:=by omega
    by_cases c3:minus k (y.x.name.length+lenU y)<0
    · have:=afk c3
      rw [this] at e2 ⊢
      simp -implicitDefEqProofs [niV,w0,e2,c2]
    · simp -implicitDefEqProofs [niV,w0,e2,c2,c3]
  · obtain ⟨m1,m2⟩:=adu (lenU y) c1
    rw [m2]
    have c2:k - y.x.name.length<0:=by omega
    simp -implicitDefEqProofs [niV,w0,c2]
theorem afs (q:Bool) (l:List Ni) (k:Int) (hl:l.length<big) (hs:∀ s,s ∈ l→s.big) (k0:0≤k) (k1:k≤1048576) (K:Out→Prop):
    Call prog 301 ⟨[.view q 3 (l.map niV),.i .i64 k],[],[]⟩ K=K (.i .i64 (minus k (totN l)),[],[]):=by
  refine Zc (f:=301) rfl rfl (by decide) ?_
  unfold big at hl
  have w0:=wrap_i64 (n:=k - l.length) (by omega) (by omega)
  by_cases c0:k - l.length<0
  · have:minus k (totN l)=-1:=by unfold minus totN;rw [if_neg (by push_cast;omega)]
    rw [this]
    simp -implicitDefEqProofs [w0,c0]
  · simp -implicitDefEqProofs [w0,c0]
    refine WL_for (fun i=>⟨sp 27 [(0,.view q 3 (l.map niV)),(1,.i .i64 (k - l.length - sumN (l.take i))),(5,.i .i64 i)],[],[]⟩) l.length (fun i=>(0:Int)≤k - l.length - sumN (l.take i)) _ (by simp -implicitDefEqProofs [sumN]) (by simp [sumN];omega) ?_
    intro i hi hP
    by_cases hlt:i<l.length
    · have hw:=wrap_i64 (n:=(i:Int)+1) (by omega) (by omega)
      have hx:=atl hlt
      have ht:=atm (l:=l) (i+1)
      have e1:=fun K=>agy l[i] (hs _ (List.getElem_mem hlt)) (k - l.length - sumN (l.take i)) hP (by omega) K
      simp only [niV] at e1
      have hx2:k - l.length - (sumN (l.take (i+1)):Int)=k - l.length - sumN (l.take i) - lenN l[i]:=by omega
      by_cases c1:(lenN l[i]:Int)≤k - l.length - sumN (l.take i)
      · have e2:minus (k - l.length - sumN (l.take i)) (lenN l[i])=k - l.length - sumN (l.take i) - lenN l[i]:=if_pos c1
        rw [e2] at e1
        have c2:0≤k - l.length - sumN (l.take i) - lenN l[i]:=by omega
        have c3:¬ k - l.length - sumN (l.take i) - lenN l[i]<0:=by omega
        simp -implicitDefEqProofs [hlt,hw,niV,e1,c1,c2,c3,hx2,Next]
      · have e2:minus (k - l.length - sumN (l.take i)) (lenN l[i])=-1:=if_neg c1
        rw [e2] at e1
        have:minus k (totN l)=-1:=by unfold minus totN;rw [if_neg (by push_cast;omega)]
        rw [this]
        simp -implicitDefEqProofs [hlt,hw,niV,e1]
    · have:i=l.length:=by omega
      subst this
      rw [List.take_length] at hP ⊢
      have:minus k (totN l)=k - l.length - sumN l:=by unfold minus totN;rw [if_pos (by push_cast;omega)];push_cast;omega
      rw [this]
      simp -implicitDefEqProofs
def shR (n:N4) (p:Pr) (m:Bool) (l:List Ni):List V:=prR n p++[slc m 3 (l.map niV)]
theorem aoo (n:N4) (p:Pr) (h:p.big) (k:Int) (k0:0≤k) (k1:k≤1048576) (K:Out→Prop):
    Call prog 300 ⟨[.agg (prR n p),.i .i64 k],[],[]⟩ K=K (.i .i64 (minus k p.tot),[],[]):=by
  refine Zc (f:=300) rfl rfl (by decide) ?_
  have e1:=fun K=>aom n p h k k0 k1 K
  simp only [prR,Tag_eq] at e1
  by_cases c:minus k p.tot<0
  · have hm:=afk c
    rw [hm] at e1 ⊢
    simp -implicitDefEqProofs [prR,e1]
  · simp -implicitDefEqProofs [prR,e1,c]
theorem aon (n:N4) (p:Pr) (h:p.big) (m:Bool) (l:List Ni) (hl:l.length<big) (hs:∀ s,s ∈ l→s.big) (k:Int) (k0:0≤k) (k1:k≤1048576) (K:Out→Prop):
    Call prog 291 ⟨[.agg (shR n p m l),.i .i64 k],[],[]⟩ K=K (.i .i64 (minus k (p.tot+totN l)),[],[]):=by
  refine Zc (f:=291) rfl rfl (by decide) ?_
  have e1:=fun K=>aoo n p h k k0 k1 K
  simp only [prR,Tag_eq] at e1
  by_cases c1:(p.tot:Int)≤k
  · obtain ⟨m1,m2⟩:=adv (totN l) c1
    rw [m1] at e1
    have e2:=fun K=>afs true l (k - p.tot) hl hs (by omega) (by omega) K
    rw [m2] at e2
    have c2:¬ k - (p.tot:Int)<0:=by omega
    by_cases c3:minus k (p.tot+totN l)<0
    · have:=afk c3
      rw [this] at e2 ⊢
      simp -implicitDefEqProofs [shR,prR,e1,e2,c2]
    · simp -implicitDefEqProofs [shR,prR,e1,e2,c2,c3]
  · obtain ⟨m1,m2⟩:=adu (totN l) c1
    rw [m1] at e1
    rw [m2]
    simp -implicitDefEqProofs [shR,prR,e1]
end Go.VS
