/-
  By which way the row of WriteHeader goes.
-/
import Derived.Test.YtdnblconoegeaaaGreatDoorVxQ2
set_option linter.all false
namespace Go.Proofs.YtdnblconoegeaaaGreatDoor.fnExactWriteHeader
open Go Go.VS Go.Proofs Go.ChangeShapes Go.WideShapes Go.ChangeAt Go.RowKit
set_option maxRecDepth 100000

theorem goes : false = Rows.fnExactWriteHeaderRow.goesBy Tryz.pinned.checked.prog := by kernel_rfl
end Go.Proofs.YtdnblconoegeaaaGreatDoor.fnExactWriteHeader
