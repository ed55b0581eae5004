import Derived.Test.YtdnblconoegeaaaGreatDoorVxQ2
set_option linter.all false
namespace Go.Proofs.YtdnblconoegeaaaGreatDoor.fnExactPathOf
open Go Go.VS Go.Proofs Go.ChangeShapes Go.WideShapes Go.ChangeAt Go.RowKit
set_option maxRecDepth 100000
theorem goes : false = Rows.fnExactPathOfRow.goesBy Tryz.pinned.checked.prog := by kernel_rfl
end Go.Proofs.YtdnblconoegeaaaGreatDoor.fnExactPathOf
