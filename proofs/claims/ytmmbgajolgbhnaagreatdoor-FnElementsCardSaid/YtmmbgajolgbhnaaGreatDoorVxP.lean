import Derived.Test.YtmmbgajolgbhnaaGreatDoorVxN
import Derived.Test.YtmmbgajolgbhnaaGreatDoorA4
import Derived.Test.YtmmbgajolgbhnaaGreatDoorD5
set_option linter.all false
namespace Go.VS
open Go Go.Proofs
def mbSr:Sr:=.pr .st (.pr (.nu .i64) (.pr (.rc 0 9) .un))
def tySr:Sr:=.pr (.nu .i64) (.pr (.nu .i64) (.pr .bo (.pr .bo (.pr (.sl false .st) (.pr (.sl false (.nu .i64)) (.pr (.sl true mbSr) (.pr (.sl true (.rc 0 9)) (.pr (.nu .i64) .un))))))))
def tyT (t:TypeId):Option (Nat × Nat):=if t=27 then some (0,9) else none
def tyE (_:Nat):Sr:=tySr
theorem tyOk:NamesOk Tryz.prog tyT tyE:=by
  intro t k z h
  unfold tyT at h
  split at h
  · rename_i e
    subst e
    cases h
    exact ⟨8,by kernel_rfl,rfl⟩
  · cases h
section
variable {R:Nat→List V→Prop}
end
end Go.VS
