import Derived.Test.YtdnblconoegeaaaGreatDoorVxQ2
set_option linter.all false
namespace Go.Proofs.YtdnblconoegeaaaGreatDoor.fnExactCreateGroup
open Go Go.VS Go.Proofs Go.ChangeShapes Go.WideShapes Go.ChangeAt Go.RowKit
set_option maxRecDepth 100000
theorem f_ip : (Rows.fnExactCreateGroupRow.inPlace == Tryz.checked.prog.inPlace 6) = true := by kernel_rfl
theorem f_un : (Rows.fnExactCreateGroupRow.unfollowed == Tryz.checked.prog.unfollowed 6) = true := by kernel_rfl
theorem f_re : (Rows.fnExactCreateGroupRow.recurses == Tryz.checked.prog.recurses 6) = true := by kernel_rfl
theorem f_nm : (Rows.fnExactCreateGroupRow.named == Tryz.checked.prog.varsNamed 6) = true := by kernel_rfl
end Go.Proofs.YtdnblconoegeaaaGreatDoor.fnExactCreateGroup
