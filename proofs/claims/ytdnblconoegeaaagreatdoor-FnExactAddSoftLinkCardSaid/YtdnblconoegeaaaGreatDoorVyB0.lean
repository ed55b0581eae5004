import Derived.Test.YtdnblconoegeaaaGreatDoorVxQ2
set_option linter.all false
namespace Go.Proofs.YtdnblconoegeaaaGreatDoor.fnExactAddSoftLink
open Go Go.VS Go.Proofs Go.ChangeShapes Go.WideShapes Go.ChangeAt Go.RowKit
set_option maxRecDepth 100000
theorem f_ip : (Rows.fnExactAddSoftLinkRow.inPlace == Tryz.checked.prog.inPlace 4) = true := by kernel_rfl
theorem f_un : (Rows.fnExactAddSoftLinkRow.unfollowed == Tryz.checked.prog.unfollowed 4) = true := by kernel_rfl
theorem f_re : (Rows.fnExactAddSoftLinkRow.recurses == Tryz.checked.prog.recurses 4) = true := by kernel_rfl
theorem f_nm : (Rows.fnExactAddSoftLinkRow.named == Tryz.checked.prog.varsNamed 4) = true := by kernel_rfl
end Go.Proofs.YtdnblconoegeaaaGreatDoor.fnExactAddSoftLink
