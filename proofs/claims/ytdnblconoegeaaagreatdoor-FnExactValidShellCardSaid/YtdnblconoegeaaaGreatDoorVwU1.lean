import Derived.Test.YtdnblconoegeaaaGreatDoorB6
set_option linter.all false
namespace Go.VS
set_option maxRecDepth 8000
structure Nn where
  name:Bs
  dims:List Int
  nums:List Int
  deriving DecidableEq,Inhabited
def iV (l:List Int):List V:=l.map (V.i .i64)
def nuC (x:Nn):List V:=[.view true 1 (iV x.dims),.view true 1 (iV x.nums)]
def nnV (x:Nn):V:=.agg [.s x.name,.view true 1 (iV x.dims),.view true 1 (iV x.nums)]
def prodW:List Int→Int→Int
  | [],a=>a
  | x :: l,a=>prodW l (IntKind.i64.wrap (a*x))
theorem ail {l:List Int} {i:Nat} (hi:i<l.length) (a:Int):prodW (l.drop i) a=prodW (l.drop (i+1)) (IntKind.i64.wrap (a*l[i])):=by
  rw [List.drop_eq_getElem_cons hi,prodW]
theorem al8 (q:Bool) (l:List Int) (hl:l.length≤lim) (K:Out→Prop):Call prog 333 ⟨[.view q 1 (iV l)],[],[]⟩ K=K (.i .i64 (prodW l 1),[],[]):=by
  refine Zc (f:=333) rfl rfl (by decide) ?_
  unfold lim at hl
  simp -implicitDefEqProofs [iV]
  refine WL_st (α:=Nat × Int) (fun x=>⟨sp 18 [(0,.view q 1 (l.map (V.i .i64))),(3,.i .i64 x.2),(4,.i .i64 x.1)],[],[]⟩) (fun x=>l.length - x.1) (fun x=>x.1≤l.length∧prodW l 1=prodW (l.drop x.1) x.2) (0,1) _ (by simp -implicitDefEqProofs) ⟨Nat.zero_le _,by simp⟩ ?_
  rintro ⟨i,a⟩ ⟨hi,hP⟩
  simp only at hi hP
  by_cases hlt:i<l.length
  · have hw:=wrap_i64 (n:=(i:Int)+1) (by omega) (by omega)
    rw [ail hlt] at hP
    simp -implicitDefEqProofs [hlt,hw]
    exact NextS.mk (i+1,IntKind.i64.wrap (a*l[i])) ⟨by omega,hP⟩ (by simp;omega) (by simp)
  · have:i=l.length:=by omega
    subst this
    rw [List.drop_length,prodW] at hP
    rw [hP]
    simp -implicitDefEqProofs
theorem ai6 (q:Bool) (l:List Int) (hl:l.length≤lim) (K:Out→Prop):Call prog 328 ⟨[.view q 1 (iV l)],[],[]⟩ K=K (.i .i64 (prodW l 1),[],[]):=by
  refine Zc (f:=328) rfl rfl (by decide) ?_
  unfold lim at hl
  simp -implicitDefEqProofs [iV]
  refine WL_st (α:=Nat × Int) (fun x=>⟨sp 17 [(3,.i .i64 x.2),(6,.view q 1 (l.map (V.i .i64))),(7,.i .i64 l.length),(8,.i .i64 x.1)],[],[]⟩) (fun x=>l.length - x.1) (fun x=>x.1≤l.length∧prodW l 1=prodW (l.drop x.1) x.2) (0,1) _ (by simp -implicitDefEqProofs) ⟨Nat.zero_le _,by simp⟩ ?_
  rintro ⟨i,a⟩ ⟨hi,hP⟩
  simp only at hi hP
  by_cases hlt:i<l.length
  · have hw:=wrap_i64 (n:=(i:Int)+1) (by omega) (by omega)
    rw [ail hlt] at hP
    simp -implicitDefEqProofs [hlt,hw]
    exact NextS.mk (i+1,IntKind.i64.wrap (a*l[i])) ⟨by omega,hP⟩ (by simp;omega) (by simp)
  · have:i=l.length:=by omega
    subst this
    rw [List.drop_length,prodW] at hP
    rw [hP]
    simp -implicitDefEqProofs
end Go.VS
