import Derived.Test.YtmmbgajolgbhnaaGreatDoorVxQ2
set_option linter.all false
namespace Go.Proofs.YtmmbgajolgbhnaaGreatDoor.fnExactReadElement
open Go Go.VS Go.Proofs Go.ChangeShapes Go.WideShapes Go.ChangeAt Go.RowKit
set_option maxRecDepth 100000
theorem f_ip : (Rows.fnExactReadElementRow.inPlace == Tryz.checked.prog.inPlace 7) = true := by kernel_rfl
theorem f_un : (Rows.fnExactReadElementRow.unfollowed == Tryz.checked.prog.unfollowed 7) = true := by kernel_rfl
theorem f_re : (Rows.fnExactReadElementRow.recurses == Tryz.checked.prog.recurses 7) = true := by kernel_rfl
theorem f_nm : (Rows.fnExactReadElementRow.named == Tryz.checked.prog.varsNamed 7) = true := by kernel_rfl
end Go.Proofs.YtmmbgajolgbhnaaGreatDoor.fnExactReadElement
