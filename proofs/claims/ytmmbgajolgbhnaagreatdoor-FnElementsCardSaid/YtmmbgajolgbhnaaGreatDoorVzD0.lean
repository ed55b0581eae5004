import Derived.Test.YtmmbgajolgbhnaaGreatDoorVxQ2
set_option linter.all false
namespace Go.Proofs.YtmmbgajolgbhnaaGreatDoor.fnElements
open Go Go.VS Go.Proofs Go.ChangeShapes Go.WideShapes Go.ChangeAt Go.RowKit
set_option maxRecDepth 100000
theorem f_ip : (Rows.fnElementsRow.inPlace == Tryz.checked.prog.inPlace 8) = true := by kernel_rfl
theorem f_un : (Rows.fnElementsRow.unfollowed == Tryz.checked.prog.unfollowed 8) = true := by kernel_rfl
theorem f_re : (Rows.fnElementsRow.recurses == Tryz.checked.prog.recurses 8) = true := by kernel_rfl
theorem f_nm : (Rows.fnElementsRow.named == Tryz.checked.prog.varsNamed 8) = true := by kernel_rfl
end Go.Proofs.YtmmbgajolgbhnaaGreatDoor.fnElements
