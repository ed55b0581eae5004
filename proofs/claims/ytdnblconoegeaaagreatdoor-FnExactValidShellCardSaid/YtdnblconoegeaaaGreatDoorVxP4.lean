import Derived.Test.YtdnblconoegeaaaGreatDoorVxQ
import Derived.Test.YtdnblconoegeaaaGreatDoorVwU8
set_option linter.all false
namespace Go.VS
open Go Go.Proofs
def nuSh:Sh:=.pr (.sl false (.nu .i64)) (.pr (.sl false (.nu .i64)) .un)
def nnSh:Sh:=.pr .st (.pr nuSh .un)
def shlSh:Sh:=.pr (.pr prSh .un) (.pr (.sl true nnSh) .un)
theorem hasI {vs:List V} (h:HasC (.sl false (.nu .i64)) vs):∃ (n:Bool) (l:List Int),vs=[slc n 1 (iV l)]∧l.length<big:=by
  rcases h with rfl | ⟨xs,rfl,hl,hx⟩
  · exact ⟨true,[],rfl,by decide⟩
  · obtain ⟨l,rfl,h2⟩:=aki (f:=V.i .i64) (q:=fun _=>True) (fun x ⟨cs,⟨k,e,_⟩,e2⟩=>⟨k,by rw [e2,e];rfl,trivial⟩) xs hx
    exact ⟨false,l,by simp [slc,iV,Sh.z],by unfold big;unfold maxLen at hl;rw [List.length_map] at hl;omega⟩
theorem hasNi {cs:List V} (h:HasC nnSh cs):∃ y:Ni,V.agg cs=niV y∧y.big:=by
  obtain ⟨_,_,rfl,⟨s,rfl,hs⟩,_,_,rfl,⟨_,_,rfl,h1,_,_,rfl,h2,h3⟩,h4⟩:=h
  obtain ⟨a,ds,rfl,ha⟩:=hasI h1
  obtain ⟨b,ns,rfl,hb⟩:=hasI h2
  rw [show _=[] from h3,show _=[] from h4]
  exact ⟨⟨⟨s,ds,ns⟩,a,b⟩,rfl,⟨by unfold big;unfold maxLen at hs;simp only;omega,ha,hb⟩⟩
theorem hasNs {vs:List V} (h:HasC (.sl true nnSh) vs):∃ (n:Bool) (l:List Ni),vs=[slc n 3 (l.map niV)]∧l.length<big∧∀ s,s ∈ l→s.big:=by
  rcases h with rfl | ⟨xs,rfl,hl,hx⟩
  · exact ⟨true,[],rfl,by decide,fun _ h=>by cases h⟩
  · obtain ⟨l,rfl,h2⟩:=aki (f:=niV) (q:=Ni.big) (fun x ⟨cs,h,e2⟩=>by
      obtain ⟨y,e,hb⟩:=hasNi h
      exact ⟨y,by rw [e2,← e];rfl,hb⟩) xs hx
    exact ⟨false,l,by simp [slc,nnSh,nuSh,Sh.z],by unfold big;unfold maxLen at hl;rw [List.length_map] at hl;omega,h2⟩
theorem hasShell {vs:List V} (h:HasC shlSh vs):∃ n p m l,Pr.big p∧List.length (α:=Ni) l<big∧(∀ s,s ∈ l→s.big)∧vs=shR n p m l:=by
  obtain ⟨_,_,rfl,⟨_,_,rfl,h1,h2⟩,_,_,rfl,h3,h4⟩:=h
  obtain ⟨n,p,hp,rfl⟩:=hasPager h1
  obtain ⟨m,l,rfl,a,b⟩:=hasNs h3
  rw [show _=[] from h2,show _=[] from h4]
  exact ⟨n,p,m,l,hp,a,b,by simp [shR]⟩
end Go.VS
