import Derived.Test.YtmmbgajolgbhnaaGreatDoorVzB0
set_option linter.all false
namespace Go.Proofs.YtmmbgajolgbhnaaGreatDoor.fnExactConvertBytes
open Go Go.VS Go.Proofs Go.ChangeShapes Go.WideShapes Go.ChangeAt Go.RowKit
set_option maxRecDepth 100000
theorem closed : joinedFacts Tryz.checked.prog 4 Tryz.f4 (OpenSpec.ofChange Rows.fnExactConvertBytesSpec).bare Rows.fnExactConvertBytesRow = true := by
  unfold joinedFacts
  rw [f_ip, f_un, f_re, f_nm, mayEnterT, stopsHeardT]
  kernel_rfl
end Go.Proofs.YtmmbgajolgbhnaaGreatDoor.fnExactConvertBytes
