import Derived.Test.YtmmbgajolgbhnaaGreatDoorVxQ2
set_option linter.all false
namespace Go.Proofs.YtmmbgajolgbhnaaGreatDoor.fnExactConvertElement
open Go Go.VS Go.Proofs Go.ChangeShapes Go.WideShapes Go.ChangeAt Go.RowKit
set_option maxRecDepth 100000
theorem f_ip : (Rows.fnExactConvertElementRow.inPlace == Tryz.checked.prog.inPlace 3) = true := by kernel_rfl
theorem f_un : (Rows.fnExactConvertElementRow.unfollowed == Tryz.checked.prog.unfollowed 3) = true := by kernel_rfl
theorem f_re : (Rows.fnExactConvertElementRow.recurses == Tryz.checked.prog.recurses 3) = true := by kernel_rfl
theorem f_nm : (Rows.fnExactConvertElementRow.named == Tryz.checked.prog.varsNamed 3) = true := by kernel_rfl
end Go.Proofs.YtmmbgajolgbhnaaGreatDoor.fnExactConvertElement
