import Derived.Test.YtmmbgajolgbhnaaGreatDoorVxN
import Derived.Test.YtmmbgajolgbhnaaGreatDoorA4
import Derived.Test.YtmmbgajolgbhnaaGreatDoorD5
set_option linter.all false
namespace Go.VS
open Go Go.Proofs
def mbSr:Sr:=.pr .st (.pr (.nu .i64) (.pr (.rc 0 9) .un))
def tySr:Sr:=.pr (.nu .i64) (.pr (.nu .i64) (.pr .bo (.pr .bo (.pr (.sl false .st) (.pr (.sl false (.nu .i64)) (.pr (.sl true mbSr) (.pr (.sl true (.rc 0 9)) (.pr (.nu .i64) .un))))))))
def tyT (t:TypeId):Option (Nat × Nat):=if t=27 then some (0,9) else none
def tyE (_:Nat):Sr:=tySr
theorem tyOk:NamesOk Tryz.prog tyT tyE:=by
  intro t k z h
  unfold tyT at h
  split at h
  · rename_i e
    subst e
    cases h
    exact ⟨8,by kernel_rfl,rfl⟩
  · cases h
theorem aix {p:V→Prop} {α:Type} {f:α→V} {q:α→Prop} (hf:∀ x,p x→∃ a,x=f a∧q a):∀ xs:List V,(∀ x,x ∈ xs→p x)→∃ l:List α,xs=l.map f∧∀ a,a ∈ l→q a
  | [],_=>⟨[],rfl,fun _ h=>by cases h⟩
  | x :: xs,h=>by
    obtain ⟨a,rfl,ha⟩:=hf x (h x (by simp))
    obtain ⟨l,rfl,hl⟩:=aix hf xs fun y hy=>h y (by simp [hy])
    exact ⟨a :: l,rfl,fun b hb=>by
      rcases List.mem_cons.1 hb with rfl | hb
      · exact ha
      · exact hl b hb⟩
section
variable {R:Nat→List V→Prop}
theorem rS {vs:List V} (h:HasW R (.sl false .st) vs):∃ (n:Bool) (l:List Bs),vs=[slv n true 1 (l.map .s)]∧l.length<big∧∀ s,s ∈ l→s.length<big:=by
  rcases h with rfl | ⟨xs,rfl,hl,hx⟩
  · exact ⟨true,[],rfl,by decide,fun _ h=>by cases h⟩
  · obtain ⟨l,rfl,h2⟩:=aix (f:=V.s) (q:=fun s=>s.length<big) (fun x ⟨cs,⟨s,e,hs⟩,e2⟩=>⟨s,by rw [e2,e];rfl,by unfold big;unfold maxLen at hs;omega⟩) xs hx
    exact ⟨false,l,rfl,by unfold big;unfold maxLen at hl;rw [List.length_map] at hl;omega,h2⟩
theorem rI {vs:List V} (h:HasW R (.sl false (.nu .i64)) vs):∃ (n:Bool) (l:List Int),vs=[slv n true 1 (l.map (.i .i64))]∧l.length<big:=by
  rcases h with rfl | ⟨xs,rfl,hl,hx⟩
  · exact ⟨true,[],rfl,by decide⟩
  · obtain ⟨l,rfl,h2⟩:=aix (f:=V.i .i64) (q:=fun _=>True) (fun x ⟨cs,⟨s,e,hs⟩,e2⟩=>⟨s,by rw [e2,e];rfl,trivial⟩) xs hx
    exact ⟨false,l,rfl,by unfold big;unfold maxLen at hl;rw [List.length_map] at hl;omega⟩
theorem rM (ih:∀ vs,R 0 vs→∃ t:Ty,t.Big∧vs=t.c) {vs:List V} (h:HasW R (.sl true mbSr) vs):∃ (n:Bool) (l:List Mb),vs=[slv n true 11 (l.map Mb.c)]∧l.length<big∧∀ m,m ∈ l→m.name.length<big∧m.ty.Big:=by
  rcases h with rfl | ⟨xs,rfl,hl,hx⟩
  · exact ⟨true,[],rfl,by decide,fun _ h=>by cases h⟩
  · obtain ⟨l,rfl,h2⟩:=aix (f:=Mb.c) (q:=fun m=>m.name.length<big∧m.ty.Big) (fun x hh=>by
      obtain ⟨cs,⟨_,_,rfl,⟨s,rfl,hs⟩,_,_,rfl,⟨o,rfl,_⟩,_,_,rfl,⟨_,h5⟩,h6⟩,rfl⟩:=hh
      obtain ⟨t,ht,rfl⟩:=ih _ h5
      rw [show _=[] from h6]
      refine ⟨.mk s o t,?_,by unfold big;unfold maxLen at hs;exact Nat.lt_of_le_of_lt hs (by decide),ht⟩
      rw [Mb.c,List.append_nil];rfl) xs hx
    exact ⟨false,l,rfl,by unfold big;unfold maxLen at hl;rw [List.length_map] at hl;omega,h2⟩
theorem rB (ih:∀ vs,R 0 vs→∃ t:Ty,t.Big∧vs=t.c) {vs:List V} (h:HasW R (.sl true (.rc 0 9)) vs):∃ (n:Bool) (l:List Ty),vs=[slv n true 9 (l.map Ty.v)]∧l.length<big∧∀ t,t ∈ l→t.Big:=by
  rcases h with rfl | ⟨xs,rfl,hl,hx⟩
  · exact ⟨true,[],rfl,by decide,fun _ h=>by cases h⟩
  · obtain ⟨l,rfl,h2⟩:=aix (f:=Ty.v) (q:=Ty.Big) (fun x hh=>by
      obtain ⟨cs,⟨_,h5⟩,rfl⟩:=hh
      obtain ⟨t,ht,rfl⟩:=ih _ h5
      exact ⟨t,rfl,ht⟩) xs hx
    exact ⟨false,l,rfl,by unfold big;unfold maxLen at hl;rw [List.length_map] at hl;omega,h2⟩
end
theorem hasTy:∀ (n:Nat) (vs:List V),HasN tyE n 0 vs→∃ t:Ty,t.Big∧vs=t.c
  | 0,_,h=>h.elim
  | n+1,vs,h=>by
    have ih:=hasTy n
    have h':HasW (HasN tyE n) tySr vs:=h
    obtain ⟨_,_,rfl,⟨k,rfl,_⟩,_,_,rfl,⟨s,rfl,_⟩,_,_,rfl,⟨sg,rfl⟩,_,_,rfl,⟨bg,rfl⟩,_,_,rfl,h1,_,_,rfl,h2,_,_,rfl,h3,_,_,rfl,h4,_,_,rfl,⟨c,rfl,_⟩,h5⟩:=h'
    obtain ⟨na,ns,rfl,a1,a2⟩:=rS h1
    obtain ⟨nb,nu,rfl,b1⟩:=rI h2
    obtain ⟨nc,ms,rfl,c1,c2⟩:=rM ih h3
    obtain ⟨nd,bs,rfl,d1,d2⟩:=rB ih h4
    rw [show _=[] from h5]
    refine ⟨.mk k s sg bg na ns nb nu nc ms nd bs c,?_,?_⟩
    · exact Ty.Big.mk _ a1 a2 b1 c1 d1 (fun m hm=>(c2 m hm).1) (fun m hm=>(c2 m hm).2) d2
    · rw [Ty.c_q];rfl
end Go.VS
