import Derived.Test.YtmmbgajolgbhnaaGreatDoorVxQ
set_option linter.all false
namespace Go.VS
open Go Go.Proofs Go.Proofs.YtmmbgajolgbhnaaGreatDoor Go.ChangeShapes Go.WideShapes Go.ChangeAt Go.RowKit
set_option maxRecDepth 100000
theorem mayEnterT:Tryz.checked.prog.mayEnter=true:=by kernel_rfl
theorem stopsHeardT:Tryz.checked.prog.stopsHeard=true:=by kernel_rfl
theorem looksT:true=Tryz.pinned.checked.prog.looks []:=by kernel_rfl
end Go.VS
