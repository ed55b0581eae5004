/-
  What the row of WriteHeader says of the program: in place, unfollowed, recursion, variables.
-/
import Derived.Test.YtdnblconoegeaaaGreatDoorVxQ2
set_option linter.all false
namespace Go.Proofs.YtdnblconoegeaaaGreatDoor.fnExactWriteHeader
open Go Go.VS Go.Proofs Go.ChangeShapes Go.WideShapes Go.ChangeAt Go.RowKit
set_option maxRecDepth 100000

theorem f_ip : (Rows.fnExactWriteHeaderRow.inPlace == Tryz.checked.prog.inPlace 3) = true := by kernel_rfl
theorem f_un : (Rows.fnExactWriteHeaderRow.unfollowed == Tryz.checked.prog.unfollowed 3) = true := by kernel_rfl
theorem f_re : (Rows.fnExactWriteHeaderRow.recurses == Tryz.checked.prog.recurses 3) = true := by kernel_rfl
theorem f_nm : (Rows.fnExactWriteHeaderRow.named == Tryz.checked.prog.varsNamed 3) = true := by kernel_rfl
end Go.Proofs.YtdnblconoegeaaaGreatDoor.fnExactWriteHeader
