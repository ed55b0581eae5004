import Derived.Test.YtdnblconoegeaaaGreatDoorVyE0
set_option linter.all false
namespace Go.Proofs.YtdnblconoegeaaaGreatDoor.fnExactValidShell
open Go Go.VS Go.Proofs Go.ChangeShapes Go.WideShapes Go.ChangeAt Go.RowKit
set_option maxRecDepth 100000
theorem closed : joinedFacts Tryz.checked.prog 9 Tryz.f9 (OpenSpec.ofChange Rows.fnExactValidShellSpec).bare Rows.fnExactValidShellRow = true := by
  unfold joinedFacts
  rw [f_ip, f_un, f_re, f_nm, mayEnterT, stopsHeardT]
  kernel_rfl
end Go.Proofs.YtdnblconoegeaaaGreatDoor.fnExactValidShell
