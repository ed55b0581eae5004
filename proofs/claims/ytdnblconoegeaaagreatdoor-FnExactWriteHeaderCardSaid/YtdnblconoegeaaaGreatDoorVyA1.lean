/-
  The facts of the row of WriteHeader, joined.
-/
import Derived.Test.YtdnblconoegeaaaGreatDoorVyA0
set_option linter.all false
namespace Go.Proofs.YtdnblconoegeaaaGreatDoor.fnExactWriteHeader
open Go Go.VS Go.Proofs Go.ChangeShapes Go.WideShapes Go.ChangeAt Go.RowKit
set_option maxRecDepth 100000

theorem closed : joinedFacts Tryz.checked.prog 3 Tryz.f3 (OpenSpec.ofChange Rows.fnExactWriteHeaderSpec).bare Rows.fnExactWriteHeaderRow = true := by
  unfold joinedFacts
  rw [f_ip, f_un, f_re, f_nm, mayEnterT, stopsHeardT]
  kernel_rfl
end Go.Proofs.YtdnblconoegeaaaGreatDoor.fnExactWriteHeader
