import Derived.Test.YtdnblconoegeaaaGreatDoorVxQ2
set_option linter.all false
namespace Go.Proofs.YtdnblconoegeaaaGreatDoor.fnExactValidShell
open Go Go.VS Go.Proofs Go.ChangeShapes Go.WideShapes Go.ChangeAt Go.RowKit
set_option maxRecDepth 100000
theorem f_ip : (Rows.fnExactValidShellRow.inPlace == Tryz.checked.prog.inPlace 9) = true := by kernel_rfl
theorem f_un : (Rows.fnExactValidShellRow.unfollowed == Tryz.checked.prog.unfollowed 9) = true := by kernel_rfl
theorem f_re : (Rows.fnExactValidShellRow.recurses == Tryz.checked.prog.recurses 9) = true := by kernel_rfl
theorem f_nm : (Rows.fnExactValidShellRow.named == Tryz.checked.prog.varsNamed 9) = true := by kernel_rfl
end Go.Proofs.YtdnblconoegeaaaGreatDoor.fnExactValidShell
