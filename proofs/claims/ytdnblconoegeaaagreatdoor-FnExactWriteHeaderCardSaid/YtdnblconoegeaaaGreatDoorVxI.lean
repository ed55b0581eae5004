/-
  What slices.Insert is made of, with elements of several cells.
-/
import Derived.Shelf.Spec.SlicesInsertGrow
import Derived.Test.YtdnblconoegeaaaGreatDoorA2
import Derived.Test.YtdnblconoegeaaaGreatDoorVxSh
set_option linter.all false
namespace Go.Proofs
open Go Go.Shelf Go.RowKit Go.Lib Go.VS

theorem run_copyZ {P : Program} {w w' : World} {dT sT ty elem : TypeId} {i : TypeInfo} {z : Nat} (hu : P.underlying dT = some (.slice elem)) (hi : P.info? elem = some i) (hz : i.size = z) (g o dLen dCap : Nat) (a : Addr) (sLen sCap m : Nat) (cs : List Value) (hm : m = Nat.min sLen dLen) (hl : cs.length = m * z)
    (hsrc : ∀ j v, cs[j]? = some v → w.cell? (a.add j) = some v) (hst : (storeCells ⟨g, o, none⟩ cs).run P w = .ok () w') :
    (Builtin.copy_ #[dT, sT] ty #[.slice (some ⟨g, o, none⟩) dLen dCap, .slice (some a) sLen sCap]).run P w = .ok (goInt m) w' := by
  have hf : (loadCells a (m * z)).run P w = .ok cs.toArray w := by rw [← hl]; exact run_loadCells_list w a cs hsrc
  simp [Builtin.copy_, run_underlying hu, Builtin.lenOf, Builtin.firstCells, sizeOf, typeInfo, hi, hz, ← hm, hf, hst]
theorem cell_of {w : World} {b o : Nat} {cc : Array Value} {T : TypeId} {fr : Nat × Nat} {v : Value} (h : w.heap[b]? = some (.cells cc T fr)) (hv : cc[o]? = some v) : w.cell? ⟨b, o, none⟩ = some v := by
  simp [World.cell?, h, hv]
end Go.Proofs
