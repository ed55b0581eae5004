import Derived.Test.YtdnblconoegeaaaGreatDoorVxQ2
set_option linter.all false
namespace Go.Proofs.YtdnblconoegeaaaGreatDoor.fnExactAddLink
open Go Go.VS Go.Proofs Go.ChangeShapes Go.WideShapes Go.ChangeAt Go.RowKit
set_option maxRecDepth 100000
theorem f_ip : (Rows.fnExactAddLinkRow.inPlace == Tryz.checked.prog.inPlace 5) = true := by kernel_rfl
theorem f_un : (Rows.fnExactAddLinkRow.unfollowed == Tryz.checked.prog.unfollowed 5) = true := by kernel_rfl
theorem f_re : (Rows.fnExactAddLinkRow.recurses == Tryz.checked.prog.recurses 5) = true := by kernel_rfl
theorem f_nm : (Rows.fnExactAddLinkRow.named == Tryz.checked.prog.varsNamed 5) = true := by kernel_rfl
end Go.Proofs.YtdnblconoegeaaaGreatDoor.fnExactAddLink
