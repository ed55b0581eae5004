import Derived.Test.YtmmbgajolgbhnaaGreatDoorVxQ2
set_option linter.all false
namespace Go.Proofs.YtmmbgajolgbhnaaGreatDoor.fnElements
open Go Go.VS Go.Proofs Go.ChangeShapes Go.WideShapes Go.ChangeAt Go.RowKit
set_option maxRecDepth 100000
theorem goes : false = Rows.fnElementsRow.goesBy Tryz.pinned.checked.prog := by kernel_rfl
end Go.Proofs.YtmmbgajolgbhnaaGreatDoor.fnElements
