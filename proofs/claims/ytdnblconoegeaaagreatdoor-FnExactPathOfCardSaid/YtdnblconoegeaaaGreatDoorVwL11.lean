import Derived.Test.YtdnblconoegeaaaGreatDoorB5
set_option linter.all false
namespace Go.VS
set_option maxRecDepth 8000
attribute [-simp] isLeaf
@[simp] theorem lendA_slc3 {s:St} {xp:Xp} (n:Bool) (xs:List V):lendA s xp 3 (slc n 3 xs)=.view true 3 xs:=by
  rcases ae8 n 3 xs with ⟨h,h2⟩ | h <;> rw [h]
  · rw [h2];rfl
  · rfl
structure Hd.big (h:Hd):Prop where
  m:h.msgs.length<Go.VS.big
  d:∀ s,s ∈ h.msgs→s.data.length<Go.VS.big
end Go.VS
