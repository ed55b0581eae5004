/-
  slices.Insert of one element: what the machine does.
-/
import Derived.Shelf.Spec.SlicesInsertGrow
import Derived.Test.YtdnblconoegeaaaGreatDoorA2
import Derived.Test.YtdnblconoegeaaaGreatDoorVxSh
set_option linter.all false
section
namespace Go.Proofs
open Go Go.Shelf Go.RowKit Go.Lib Go.VS
theorem aog {w:World} {b o:Nat} {cc:Array Value} {T:TypeId} {fr:Nat × Nat} {v:Value} (h:w.heap[b]?=some (.cells cc T fr)) (hv:cc[o]?=some v):w.cell? ⟨b,o,none⟩=some v:=by
  simp [World.cell?,h,hv]
end Go.Proofs
end
section
namespace Go.Proofs
open Go Go.Shelf Go.RowKit Go.Lib Go.VS
end Go.Proofs
end
section
namespace Go.Proofs
open Go Go.Shelf Go.RowKit Go.Lib Go.VS
end Go.Proofs
end
section
namespace Go.Proofs
open Go Go.Shelf Go.RowKit Go.Lib Go.VS
end Go.Proofs
end
