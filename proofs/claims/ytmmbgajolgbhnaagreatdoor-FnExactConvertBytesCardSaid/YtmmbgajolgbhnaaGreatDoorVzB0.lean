import Derived.Test.YtmmbgajolgbhnaaGreatDoorVxQ2
set_option linter.all false
namespace Go.Proofs.YtmmbgajolgbhnaaGreatDoor.fnExactConvertBytes
open Go Go.VS Go.Proofs Go.ChangeShapes Go.WideShapes Go.ChangeAt Go.RowKit
set_option maxRecDepth 100000
theorem f_ip : (Rows.fnExactConvertBytesRow.inPlace == Tryz.checked.prog.inPlace 4) = true := by kernel_rfl
theorem f_un : (Rows.fnExactConvertBytesRow.unfollowed == Tryz.checked.prog.unfollowed 4) = true := by kernel_rfl
theorem f_re : (Rows.fnExactConvertBytesRow.recurses == Tryz.checked.prog.recurses 4) = true := by kernel_rfl
theorem f_nm : (Rows.fnExactConvertBytesRow.named == Tryz.checked.prog.varsNamed 4) = true := by kernel_rfl
end Go.Proofs.YtmmbgajolgbhnaaGreatDoor.fnExactConvertBytes
