import Derived.Test.YtdnblconoegeaaaGreatDoorVxQ2
set_option linter.all false
namespace Go.Proofs.YtdnblconoegeaaaGreatDoor.fnExactPathOf
open Go Go.VS Go.Proofs Go.ChangeShapes Go.WideShapes Go.ChangeAt Go.RowKit
set_option maxRecDepth 100000
theorem f_ip : (Rows.fnExactPathOfRow.inPlace == Tryz.checked.prog.inPlace 7) = true := by kernel_rfl
theorem f_un : (Rows.fnExactPathOfRow.unfollowed == Tryz.checked.prog.unfollowed 7) = true := by kernel_rfl
theorem f_re : (Rows.fnExactPathOfRow.recurses == Tryz.checked.prog.recurses 7) = true := by kernel_rfl
theorem f_nm : (Rows.fnExactPathOfRow.named == Tryz.checked.prog.varsNamed 7) = true := by kernel_rfl
end Go.Proofs.YtdnblconoegeaaaGreatDoor.fnExactPathOf
