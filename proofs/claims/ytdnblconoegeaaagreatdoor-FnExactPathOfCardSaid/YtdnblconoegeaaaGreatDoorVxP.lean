import Derived.Test.YtdnblconoegeaaaGreatDoorVxN
import Derived.Test.YtdnblconoegeaaaGreatDoorB5
set_option linter.all false
namespace Go.VS
open Go Go.Proofs
def pgSh:Sh:=.pr (.nu .i64) (.pr .st .un)
def dkSh:Sh:=.pr (.sl false .st) (.pr (.sl true pgSh) (.pr (.nu .i64) (.pr .bo .un)))
def suSh:Sh:=.pr (.nu .i64) (.pr (.nu .i64) (.pr (.nu .i64) (.pr (.nu .i64) .un)))
def prSh:Sh:=.pr dkSh (.pr suSh (.pr (.nu .i64) (.pr (.nu .i64) (.pr (.sl true pgSh) (.pr (.sl true pgSh) .un)))))
theorem ao2 {p:V→Prop} {α:Type} {f:α→V} {q:α→Prop} (hf:∀ x,p x→∃ a,x=f a∧q a):∀ xs:List V,(∀ x,x ∈ xs→p x)→∃ l:List α,xs=l.map f∧∀ a,a ∈ l→q a
  | [],_=>⟨[],rfl,fun _ h=>by cases h⟩
  | x :: xs,h=>by
    obtain ⟨a,rfl,ha⟩:=hf x (h x (by simp))
    obtain ⟨l,rfl,hl⟩:=ao2 hf xs fun y hy=>h y (by simp [hy])
    exact ⟨a :: l,rfl,fun b hb=>by
      rcases List.mem_cons.1 hb with rfl | hb
      · exact ha
      · exact hl b hb⟩
theorem hasS {vs:List V} (h:HasC (.sl false .st) vs):∃ (n:Bool) (l:List Bs),vs=[slc n 1 (l.map .s)]∧l.length<big∧∀ s,s ∈ l→s.length<big:=by
  rcases h with rfl | ⟨xs,rfl,hl,hx⟩
  · exact ⟨true,[],rfl,by decide,fun _ h=>by cases h⟩
  · obtain ⟨l,rfl,h2⟩:=ao2 (f:=V.s) (q:=fun s=>s.length<big) (fun x ⟨cs,⟨s,e,hs⟩,e2⟩=>⟨s,by rw [e2,e];rfl,by unfold big;unfold maxLen at hs;omega⟩) xs hx
    exact ⟨false,l,by simp [slc,Sh.z],by unfold big;unfold maxLen at hl;rw [List.length_map] at hl;omega,h2⟩
theorem hasP {vs:List V} (h:HasC (.sl true pgSh) vs):∃ (n:Bool) (l:List Pg),vs=[slc n 2 (l.map pgV)]∧l.length<big∧∀ s,s ∈ l→s.data.length<big:=by
  rcases h with rfl | ⟨xs,rfl,hl,hx⟩
  · exact ⟨true,[],rfl,by decide,fun _ h=>by cases h⟩
  · obtain ⟨l,rfl,h2⟩:=ao2 (f:=pgV) (q:=fun s=>s.data.length<big) (fun x ⟨cs,⟨a,b,e,⟨k,ek,_⟩,c,d,e3,⟨s,e4,hs⟩,e5⟩,e2⟩=>⟨⟨k,s⟩,by rw [e2,e,ek,e3,e4,show d=[] from e5];rfl,by unfold big;unfold maxLen at hs;simp only;omega⟩) xs hx
    exact ⟨false,l,by simp [slc,pgSh,Sh.z],by unfold big;unfold maxLen at hl;rw [List.length_map] at hl;omega,h2⟩
theorem hasPager {vs:List V} (h:HasC prSh vs):∃ n p,p.big∧vs=prR n p:=by
  obtain ⟨_,_,rfl,⟨_,_,rfl,h1,_,_,rfl,h2,_,_,rfl,⟨x3,rfl,_⟩,_,_,rfl,⟨x4,rfl⟩,h5⟩,_,_,rfl,⟨_,_,rfl,⟨y1,rfl,_⟩,_,_,rfl,⟨y2,rfl,_⟩,_,_,rfl,⟨y3,rfl,_⟩,_,_,rfl,⟨y4,rfl,_⟩,h6⟩,_,_,rfl,⟨z1,rfl,_⟩,_,_,rfl,⟨z2,rfl,_⟩,_,_,rfl,h3,_,_,rfl,h4,h7⟩:=h
  obtain ⟨n1,l1,rfl,a1,b1⟩:=hasS h1
  obtain ⟨n2,l2,rfl,a2,b2⟩:=hasP h2
  obtain ⟨n3,l3,rfl,a3,b3⟩:=hasP h3
  obtain ⟨n4,l4,rfl,a4,b4⟩:=hasP h4
  rw [show _=[] from h5,show _=[] from h6,show _=[] from h7]
  exact ⟨⟨n1,n2,n3,n4⟩,⟨⟨l1,l2,x3,x4⟩,⟨y1,y2,y3,y4⟩,z1,z2,l3,l4⟩,⟨⟨a1,b1,a2,b2⟩,a3,b3,a4,b4⟩,rfl⟩
end Go.VS
