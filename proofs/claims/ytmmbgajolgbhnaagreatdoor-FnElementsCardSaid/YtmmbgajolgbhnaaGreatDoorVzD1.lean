import Derived.Test.YtmmbgajolgbhnaaGreatDoorVzD0
set_option linter.all false
namespace Go.Proofs.YtmmbgajolgbhnaaGreatDoor.fnElements
open Go Go.VS Go.Proofs Go.ChangeShapes Go.WideShapes Go.ChangeAt Go.RowKit
set_option maxRecDepth 100000
theorem closed : joinedFacts Tryz.checked.prog 8 Tryz.f8 (OpenSpec.ofChange Rows.fnElementsSpec).bare Rows.fnElementsRow = true := by
  unfold joinedFacts
  rw [f_ip, f_un, f_re, f_nm, mayEnterT, stopsHeardT]
  kernel_rfl
end Go.Proofs.YtmmbgajolgbhnaaGreatDoor.fnElements
